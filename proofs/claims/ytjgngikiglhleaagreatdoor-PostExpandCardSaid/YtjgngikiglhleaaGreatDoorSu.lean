import Derived.Test.YtjgngikiglhleaaGreatDoorSt
namespace Go.Proofs.YtjgngikiglhleaaGreatDoor
open Go.RowKit
set_option linter.unusedVariables false
set_option linter.unusedSimpArgs false
def tailOk (ops : Array Oper) (m : Nat) : Bool :=
 let C := clos ops.toList []
 (List.range ops.size).all fun i=>(decide (i < m) || (List.range i).all fun j=>(C.getD i []).contains j) && match ops[i]? with | some o=>(preds o).all fun k=>decide (k < i) | none=>true
def headOk (ops : Array Oper) (m : Nat) : Bool := decide (m ≤ ops.size) && (ops.toList.take m).all fun o=>match o.guard with | some (j,_)=>decide (j < m) | none=>true
def headA (ops : Array Oper) (m : Nat) : Array Oper := ⟨ops.toList.take m⟩
theorem headA_at {ops : Array Oper} {m j : Nat} : (headA ops m)[j]? = if j < m then ops[j]? else none := by
 show (ops.toList.take m).toArray[j]? = _
 rw [List.getElem?_toArray,List.getElem?_take]
 split
 ·simp
 ·rfl
theorem headA_size {ops : Array Oper} {m : Nat} (h : m ≤ ops.size) : (headA ops m).size = m := by
 show (ops.toList.take m).toArray.size = m
 simp; omega
theorem tailOk_at {ops : Array Oper} {m i : Nat} {o : Oper} (h : tailOk ops m = true) (ho : ops[i]? = some o) : (m ≤ i → ∀ j,j < i → j ∈ (clos ops.toList []).getD i []) ∧ ∀ k ∈ preds o,k < i := by
 unfold tailOk at h
 simp only [List.all_eq_true,List.mem_range] at h
 have := h i (ops_lt ho)
 rw [ho] at this
 simp only [Bool.or_eq_true,decide_eq_true_eq,Bool.and_eq_true,List.all_eq_true,List.mem_range,List.contains_iff_mem] at this
 refine ⟨fun hm j hj=>?_,this.2⟩
 rcases this.1 with q | q
 ·omega
 ·exact q j hj
theorem headOk_at {ops : Array Oper} {m i : Nat} {o : Oper} (h : headOk ops m = true) (ho : ops[i]? = some o) (hi : i < m) {j : Nat} {b : Bool} (hg : o.guard = some (j,b)) : j < m := by
 unfold headOk at h
 simp only [Bool.and_eq_true,List.all_eq_true] at h
 have := h.2 o (List.mem_of_getElem? (i := i) (by rw [List.getElem?_take,if_pos hi]; simpa using ho))
 rw [hg] at this
 simpa using this
theorem yielded_head {ops : Array Oper} {m j : Nat} {tm : Array Value} (h : j < m) : yielded (headA ops m) tm j = yielded ops tm j := by
 unfold yielded
 rw [headA_at,if_pos h]
theorem wanted_head {ops : Array Oper} {m i : Nat} {o : Oper} (h : headOk ops m = true) (ho : ops[i]? = some o) (hi : i < m) (tm : Array Value) : Region.wanted o (yielded (headA ops m) tm) = Region.wanted o (yielded ops tm) := by
 unfold Region.wanted
 cases hg : o.guard with
 | none=>rfl
 | some p =>
  obtain ⟨j,b⟩ := p
  simp only
  rw [yielded_head (headOk_at h ho hi hg)]
def full (n i : Nat) : Array Bool := ((List.range n).map fun j=>decide (j < i)).toArray
theorem full_size (n i : Nat) : (full n i).size = n := by simp [full]
theorem full_at {n i j : Nat} (d : Bool) (h : j < n) : (full n i).getD j d = decide (j < i) := by
 rw [Array.getD_eq_getD_getElem?]
 unfold full
 rw [List.getElem?_toArray,List.getElem?_map,List.getElem?_range h]
 rfl
theorem full_set {n i : Nat} (h : i < n) : (full n i).setIfInBounds i true = full n (i + 1) := by
 apply Array.ext
 ·simp [full_size]
 ·intro j h1 h2
  have hj : j < n := by simpa [full_size] using h2
  have e1 := full_at (i := i + 1) false hj
  rw [Array.getD_eq_getD_getElem?,Array.getElem?_eq_getElem h2] at e1
  simp only [Option.getD_some] at e1
  rw [e1]
  have e2 := getD_set (full n i) i j (by rw [full_size]; exact h)
  rw [Array.getD_eq_getD_getElem?,Array.getElem?_eq_getElem h1] at e2
  simp only [Option.getD_some] at e2
  rw [e2,full_at false hj]
  by_cases e : j = i
  ·subst e; simp
  ·rw [if_neg e]
   by_cases q : j < i
   ·simp [q]; omega
   ·simp [q]; omega
theorem wpOp_of {P : Program} {Q Q' : Exit → Act → World → Prop} {o : Oper} {K K' : Act → World → Prop} {a : Act} {w : World} (hQ' : ∀ e a w,e ≠ .normal → ¬ Q' e a w) (hK : ∀ a w,K' a w → K a w) (h : o.wp P a w K' Q' ∨ (o.asks P a w ∧ LetsOut Q')) : o.wp P a w K Q ∨ (o.asks P a w ∧ LetsOut Q) := by
 have hno : ¬ LetsOut Q' := fun ⟨a,w,q⟩=>hQ' _ a w (by simp) q
 rcases h with h | ⟨_,h⟩
 ·left
  unfold Oper.wp at *
  generalize (execOp a.eval o).run P w = r at *
  cases r with
  | ok n w' =>
   cases n with
   | value v=>exact hK _ _ h
   | skip=>exact hK _ _ h
   | defer d=>exact hK _ _ h
   | enter f args =>
    simp only [Oper.upon] at h ⊢
    refine Calls.mono h fun e w'' he=>?_
    cases e with
    | returned v=>exact hK _ _ he
    | panicked chain=>exact absurd he (hQ' _ _ _ (by simp))
    | outgrown=>exact absurd he hno
   | row row args =>
    simp only [Oper.upon] at h ⊢
    exact Rows.mono h fun v w'' he=>hK _ _ he
   | _=>first | (simp [Oper.upon] at h; done) | simpa [Oper.upon] using h
  | halt x w' =>
   cases x <;> simp only [Oper.upon] at h ⊢ <;> first | exact h | exact absurd h (hQ' _ _ _ (by simp))
 ·exact absurd h hno
section
variable {P : Program} {ops : Array Oper} {Q : Exit → Act → World → Prop} {m : Nat}
theorem tail_any (ht : tailOk ops m = true) : ∀ (r i : Nat) (a : Act) (w : World),i + r = ops.size → m ≤ i → wpList P ops Q (ops.toList.drop i) a w → ∀ f,r ≤ f → wpAny P .any ops Q f (full ops.size i) a w
  | 0,i,a,w,hi,hm,h,f,_=>by
    have hd : ops.toList.drop i = [] := List.drop_eq_nil_of_le (by simp; omega)
    rw [hd] at h
    refine wpAny_done ?_ h f
    cases hr : Region.ready .any ops (full ops.size i) with
    | nil=>rfl
    | cons j js =>
      exfalso
      have hj : j ∈ Region.ready .any ops (full ops.size i) := by rw [hr]; simp
      obtain ⟨h1,o,ho,_⟩ := mem_ready.1 hj
      have := ops_lt ho
      rw [full_at true this] at h1
      simp at h1; omega
  | r + 1,i,a,w,hi,hm,h,f,hf=>by
    obtain ⟨f,rfl⟩ : ∃ f',f = f' + 1 := ⟨f - 1,by omega⟩
    obtain ⟨o,ho⟩ : ∃ o,ops[i]? = some o := ⟨ops[i],Array.getElem?_eq_getElem (by omega)⟩
    have hp := (tailOk_at ht ho).2
    have hlt := ops_lt ho
    have hready : i ∈ Region.ready .any ops (full ops.size i) := by
      rw [mem_ready]
      refine ⟨by rw [full_at true hlt]; simp,o,ho,fun e he hb=>?_⟩
      have hk : e.on ∈ preds o := by
        unfold preds
        exact List.mem_map.2 ⟨e,List.mem_filter.2 ⟨by simpa using he,hb⟩,rfl⟩
      have := hp _ hk
      rw [full_at false (by omega)]
      simpa using this
    refine ⟨fun he=>by rw [he] at hready; simp at hready,fun j hj=>?_⟩
    have hji : j = i := by
      obtain ⟨h1,x,hx,hpr⟩ := mem_ready.1 hj
      have hjl := ops_lt hx
      rw [full_at true hjl] at h1
      simp only [decide_eq_false_iff_not,Nat.not_lt] at h1
      rcases Nat.eq_or_lt_of_le h1 with e | q
      · exact e.symm
      · exfalso
        have hcj := (tailOk_at ht hx).1 (by omega) i q
        have key := clos_ok (ops := ops) (lis := fun k=>k < i ∨ k = j) (fun k y hy hk p hpy=>by
          rcases hk with hk | rfl
          · exact .inl (by have := (tailOk_at ht hy).2 p hpy; omega)
          · rw [hx] at hy; injection hy with hy; subst hy
            have hlp := (tailOk_at ht hx).2 p hpy
            unfold preds at hpy
            obtain ⟨e,he,rfl⟩ := List.mem_map.1 hpy
            obtain ⟨he1,he2⟩ := List.mem_filter.1 he
            have := hpr e (by simpa using he1) he2
            rw [full_at false (by omega)] at this; exact .inl (by simpa using this)) ops.toList [] (fun k=>by simp) (fun k l h=>by simp at h) j i hcj (.inr rfl)
        rcases key with z | z <;> omega
    subst hji
    rw [List.drop_eq_getElem_cons (by simpa using hlt)] at h
    have ho' : ops.toList[j] = o := by
      have : ops[j] = o := by rw [Array.getElem?_eq_getElem hlt] at ho; injection ho
      simpa using this
    rw [ho'] at h
    unfold wpList at h
    unfold wpOp
    rw [ho]
    simp only
    rw [full_set hlt]
    have ih := fun a' w' hh=>tail_any ht r (j + 1) a' w' (by omega) (by omega) hh f (by omega)
    split
    · rename_i hw
      rw [if_pos hw] at h
      rcases h with h | h
      · exact .inl (Oper.wp_mono ih h)
      · exact .inr h
    · rename_i hw
      rw [if_neg hw] at h
      exact ih _ _ h
theorem head_any (ht : ∀ (i : Nat) (o : Oper), ops[i]? = some o → (m ≤ i → ∀ j, j < m → j ∈ (clos ops.toList []).getD i []) ∧ ∀ k ∈ preds o, k < i) (hh : headOk ops m = true) {T : Act → World → Prop} (hT : ∀ a w, T a w → ∀ f, ops.size - m ≤ f → wpAny P .any ops Q f (full ops.size m) a w) :
    ∀ (f : Nat) (L L' : Array Bool) (a : Act) (w : World),L.size = ops.size → L'.size = m → (∀ j,j < m → L.getD j false = L'.getD j false) → (∀ j,m ≤ j → L.getD j false = false) → (∀ i o,ops[i]? = some o → L.getD i false = true → ∀ p ∈ preds o,L.getD p false = true) →
      wpAny P .any (headA ops m) (fun e a w=>e = .normal ∧ T a w) f L' a w → wpAny P .any ops Q (f + (ops.size - m)) L a w := by
  have hm : m ≤ ops.size := by unfold headOk at hh; simp only [Bool.and_eq_true,decide_eq_true_eq] at hh; exact hh.1
  have gd : ∀ {L : Array Bool} {j : Nat} (d : Bool),j < L.size → L.getD j d = L.getD j false := by
    intro L j d h
    rw [Array.getD_eq_getD_getElem?,Array.getD_eq_getD_getElem?,Array.getElem?_eq_getElem h]; rfl
  have hrdy : ∀ (L L' : Array Bool),L.size = ops.size → L'.size = m → (∀ j,j < m → L.getD j false = L'.getD j false) → ∀ i,i < m → (i ∈ Region.ready .any (headA ops m) L' ↔ i ∈ Region.ready .any ops L) := by
    intro L L' h1 h2 h3 i hi
    rw [mem_ready,mem_ready,headA_at,if_pos hi,gd true (by omega),gd true (by omega),h3 i hi]
    constructor
    · rintro ⟨q1,o,ho,q2⟩
      refine ⟨q1,o,ho,fun e he hb=>?_⟩
      have hk : e.on ∈ preds o := by
        unfold preds
        exact List.mem_map.2 ⟨e,List.mem_filter.2 ⟨by simpa using he,hb⟩,rfl⟩
      have := (ht _ _ ho).2 _ hk
      rw [h3 _ (by omega)]; exact q2 e he hb
    · rintro ⟨q1,o,ho,q2⟩
      refine ⟨q1,o,ho,fun e he hb=>?_⟩
      have hk : e.on ∈ preds o := by
        unfold preds
        exact List.mem_map.2 ⟨e,List.mem_filter.2 ⟨by simpa using he,hb⟩,rfl⟩
      have := (ht _ _ ho).2 _ hk
      rw [← h3 _ (by omega)]; exact q2 e he hb
  have hall : ∀ (L L' : Array Bool),L.size = ops.size → L'.size = m → (∀ j,j < m → L.getD j false = L'.getD j false) → (∀ j,m ≤ j → L.getD j false = false) → (∀ j,j < m → L.getD j false = true) → Region.ready .any (headA ops m) L' = [] ∧ L = full ops.size m := by
    intro L L' h1 h2 h3 h4 h5
    constructor
    · cases hr : Region.ready .any (headA ops m) L' with
      | nil=>rfl
      | cons j js =>
        exfalso
        have hj : j ∈ Region.ready .any (headA ops m) L' := by rw [hr]; simp
        obtain ⟨q1,o,ho,_⟩ := mem_ready.1 hj
        have hjm : j < m := by have := ops_lt ho; rwa [headA_size hm] at this
        rw [gd true (by omega),← h3 j hjm,h5 j hjm] at q1; cases q1
    · apply Array.ext
      · rw [h1,full_size]
      · intro j q1 q2
        have hj : j < ops.size := by omega
        have e1 := full_at (i := m) false hj
        rw [Array.getD_eq_getD_getElem?,Array.getElem?_eq_getElem q2] at e1
        simp only [Option.getD_some] at e1
        rw [e1]
        have e2 : L.getD j false = L[j] := by rw [Array.getD_eq_getD_getElem?,Array.getElem?_eq_getElem q1]; rfl
        rw [← e2]
        rcases Nat.lt_or_ge j m with z | z
        · rw [h5 j z]; simp [z]
        · rw [h4 j z]; simp; omega
  have hnot : ∀ (L L' : Array Bool),L.size = ops.size → L'.size = m → (∀ j,j < m → L.getD j false = L'.getD j false) → ¬ (∀ j,j < m → L.getD j false = true) → Region.ready .any (headA ops m) L' ≠ [] := by
    intro L L' h1 h2 h3 h5 he
    apply h5
    intro i
    induction i using Nat.strongRecOn with
    | _ i ihi =>
      intro hlt
      cases hb : L.getD i false with
      | true=>rfl
      | false =>
        exfalso
        obtain ⟨o,ho⟩ : ∃ o,ops[i]? = some o := ⟨ops[i]'(by omega),Array.getElem?_eq_getElem (by omega)⟩
        have : i ∈ Region.ready .any (headA ops m) L' := by
          rw [mem_ready]
          refine ⟨by rw [gd true (by omega),← h3 i hlt]; exact hb,o,by rw [headA_at,if_pos hlt]; exact ho,fun e he hbd=>?_⟩
          have hk : e.on ∈ preds o := by
            unfold preds
            exact List.mem_map.2 ⟨e,List.mem_filter.2 ⟨by simpa using he,hbd⟩,rfl⟩
          have := (ht _ _ ho).2 _ hk
          rw [← h3 _ (by omega)]
          exact ihi e.on this (by omega)
        rw [he] at this; simp at this
  intro f
  induction f with
  | zero =>
    intro L L' a w h1 h2 h3 h4 h5 h
    by_cases hd : ∀ j,j < m → L.getD j false = true
    · rw [(hall L L' h1 h2 h3 h4 hd).2]
      exact hT a w h.2.2 _ (by omega)
    · exact absurd h.1 (hnot L L' h1 h2 h3 hd)
  | succ f ih =>
    intro L L' a w h1 h2 h3 h4 h5 h
    by_cases hd : ∀ j,j < m → L.getD j false = true
    · obtain ⟨q1,q2⟩ := hall L L' h1 h2 h3 h4 hd
      rw [q2]
      exact hT a w (h.1 q1).2 _ (by omega)
    · rw [show f + 1 + (ops.size - m) = (f + (ops.size - m)) + 1 by omega]
      refine ⟨fun he=>?_,fun i hi=>?_⟩
      · exfalso
        refine hnot L L' h1 h2 h3 hd ?_
        cases hr : Region.ready .any (headA ops m) L' with
        | nil=>rfl
        | cons j js =>
          exfalso
          have hj : j ∈ Region.ready .any (headA ops m) L' := by rw [hr]; simp
          obtain ⟨_,o,ho,_⟩ := mem_ready.1 hj
          have hjm : j < m := by have := ops_lt ho; rwa [headA_size hm] at this
          have := (hrdy L L' h1 h2 h3 j hjm).1 hj
          rw [he] at this; simp at this
      · obtain ⟨r1,o,ho,r2⟩ := mem_ready.1 hi
        have hlt := ops_lt ho
        have hpr : ∀ p ∈ preds o,L.getD p false = true := by
          intro p hpp
          obtain ⟨e,he,rfl⟩ := List.mem_map.1 hpp
          obtain ⟨he1,he2⟩ := List.mem_filter.1 he
          exact r2 e (by simpa using he1) he2
        have him : i < m := by
          rcases Nat.lt_or_ge i m with z | z
          · exact z
          · exfalso
            apply hd
            intro j hj
            have key := clos_ok (ops := ops) (lis := fun k=>L.getD k false = true ∨ k = i) (fun k y hy hk p hpy=>by
              rcases hk with hk | rfl
              · exact .inl (h5 k y hy hk p hpy)
              · rw [ho] at hy; injection hy with hy; subst hy; exact .inl (hpr p hpy)) ops.toList [] (fun k=>by simp) (fun k l h=>by simp at h) i j ((ht _ _ ho).1 z j hj) (.inr rfl)
            rcases key with z' | z'
            · exact z'
            · omega
        have hop := h.2 i ((hrdy L L' h1 h2 h3 i him).2 hi)
        unfold wpOp at hop ⊢
        rw [headA_at,if_pos him,ho] at hop
        rw [ho]
        simp only at hop ⊢
        rw [wanted_head hh ho him] at hop
        have hset : ∀ j,(L.setIfInBounds i true).getD j false = (if j = i then true else L.getD j false) := fun j=>getD_set L i j (by omega)
        have hset' : ∀ j,(L'.setIfInBounds i true).getD j false = (if j = i then true else L'.getD j false) := fun j=>getD_set L' i j (by omega)
        have hk : ∀ a w,wpAny P .any (headA ops m) (fun e a w=>e = .normal ∧ T a w) f (L'.setIfInBounds i true) a w → wpAny P .any ops Q (f + (ops.size - m)) (L.setIfInBounds i true) a w := by
          intro a w hh'
          refine ih _ _ a w (by simpa using h1) (by simpa using h2) (fun j hj=>?_) (fun j hj=>?_) (fun j x hx hj p hpp=>?_) hh'
          · rw [hset,hset',h3 j hj]
          · rw [hset,if_neg (by omega)]; exact h4 j hj
          · rw [hset] at hj ⊢
            split
            · rfl
            · by_cases ej : j = i
              · subst ej
                rw [ho] at hx; injection hx with hx; subst hx
                exact hpr p hpp
              · rw [if_neg ej] at hj
                exact h5 j x hx hj p hpp
        split
        · rename_i hw
          rw [if_pos hw] at hop
          exact wpOp_of (fun e a w he q=>he q.1) hk hop
        · rename_i hw
          rw [if_neg hw] at hop
          exact hk _ _ hop
end
theorem region_tail {P : Program} {g : Pg P} {id : Nat} {ops : Array Oper} {fr : Fr} {s : Sg} {K : Fr → Sg → Prop} (m : Nat) (ht : tailOk ops m = true) (hh : headOk ops m = true) (hd : drawOk (headA ops m) = true)
    (h : regS g true (headA ops m) (headA ops m).toList fr s (fun fr' s'=>sepL (seps (headA ops m)) fr' = true ∧ regW g ops (ops.toList.drop m) fr' s' K)) {w0 w : World} {G0 G : Cx} {a : Act} {Q : Exit → Act → World → Prop} (hQ : ∀ a w,Post g w0 G0 K a w → Q .normal a w) (h0 : G0.le G) (hH : HR P w0 w G s) (hfr : FR G fr a) (hdf : a.defers = []) :
    (Code.region id ops true).wp P Q a w := by
  have hm : m ≤ ops.size := by unfold headOk at hh; simp only [Bool.and_eq_true,decide_eq_true_eq] at hh; exact hh.1
  obtain ⟨frs,sgs,res,eff,e1,e2,htr,hK⟩ := trace_of (headA ops m).toList 0 fr s rfl (Nat.zero_le _) h
  refine wp_region_any g.mixed ?_
  have hrep : ∀ (n j : Nat),(Array.replicate n false).getD j false = false := by
    intro n j
    rw [Array.getD_eq_getD_getElem?]
    rcases Nat.lt_or_ge j n with z | z
    · rw [Array.getElem?_eq_getElem (by simpa using z)]; simp
    · rw [Array.getElem?_eq_none (by simpa using z)]; rfl
  have hsz : (headA ops m).size = m := headA_size hm
  have key := head_any (P := P) (Q := Q) (T := fun a w=>Post g w0 G0 (fun fr' s'=>regW g ops (ops.toList.drop m) fr' s' K) a w) (fun i o ho=>⟨fun q j hj=>(tailOk_at ht ho).1 q j (by omega),(tailOk_at ht ho).2⟩) hh (fun a w hp f hf=>by
    obtain ⟨G',fr',s',q1,q2,q3,q4,q5⟩ := hp
    exact tail_any ht (ops.size - m) m a w (by omega) (Nat.le_refl _) (q5 w0 G0 G' a w Q hQ q1 q2 q3 q4) f hf) m (Array.replicate ops.size false) (Array.replicate m false) a { w with drawn := w.drawn + 1 } (by simp) (by simp) (fun j hj=>by rw [hrep,hrep]) (fun j hj=>hrep _ _) (fun i o _ hl=>by rw [hrep] at hl; cases hl)
  rw [show m + (ops.size - m) = ops.size by omega] at key
  refine key ?_
  have := reg_drawn (Q := fun e a w=>e = .normal ∧ Post g w0 G0 (fun fr' s'=>regW g ops (ops.toList.drop m) fr' s' K) a w) htr hd (fun a w hp=>⟨rfl,hp⟩) hK.2 hK.1 (headA ops m).size (Array.replicate (headA ops m).size false) G a { w with drawn := w.drawn + 1 } (by simp) (fun i o _ hl=>by rw [hrep] at hl; cases hl) (cnt_le _ _) h0 ?_ ?_ hdf
  · rw [hsz] at this; exact this
  · have e3 : obsR sgs eff (Array.replicate (headA ops m).size false) (headA ops m).size = fun k => s.obs[k]? := by
      funext k
      rw [obsR_keep (i := 0) (Nat.zero_le _) fun j _ _ _=>hrep _ j]
      show (sgs 0).obs[k]? = _
      rw [e2]
    have e4 : lnsL (headA ops m).size sgs eff (Array.replicate (headA ops m).size false) = fun k=>s.lns[k]? := by
      unfold lnsL
      rw [if_neg]
      · rw [← e2]; rfl
      · intro hl
        rw [List.any_eq_true] at hl
        obtain ⟨j,_,hl⟩ := hl
        rw [hrep] at hl; cases hl
    rw [e3,e4]
    exact hH.kept ((Kp.refl w).drew)
  · have : cfL (headA ops m) frs res (Array.replicate (headA ops m).size false) = fr := by
      rw [← e1]
      apply List.ext_getElem?
      intro t
      have hl1 := cf_len (headA ops m) frs res (Array.replicate (headA ops m).size false)
      rcases Nat.lt_or_ge t (frs 0).length with z | z
      · have a1 : (cfL (headA ops m) frs res (Array.replicate (headA ops m).size false))[t]? = some ((cfL (headA ops m) frs res (Array.replicate (headA ops m).size false)).getD t .undef) := by
          rw [List.getD_eq_getElem?_getD,List.getElem?_eq_getElem (by omega)]; rfl
        have a2 : (frs 0)[t]? = some ((frs 0).getD t .undef) := by
          rw [List.getD_eq_getElem?_getD,List.getElem?_eq_getElem z]; rfl
        rw [a1,a2,cf_getD]
        unfold valAt
        rw [lw_cut 0 (headA ops m).size (Nat.zero_le _) (fun j _ _ _=>hrep _ j)]
        rfl
      · rw [List.getElem?_eq_none (by omega),List.getElem?_eq_none z]
    rw [this]; exact hfr
theorem wantedS_head {ops : Array Oper} {m i : Nat} {o : Oper} (h : headOk ops m = true) (ho : ops[i]? = some o) (hi : i < m) (fr : Fr) : wantedS (headA ops m) fr o = wantedS ops fr o := by
 unfold wantedS
 cases hg : o.guard with
 | none=>rfl
 | some p =>
  obtain ⟨j,b⟩ := p
  simp only
  rw [headA_at,if_pos (headOk_at h ho hi hg)]
theorem regS_head {P : Program} {g : Pg P} {ops : Array Oper} {m : Nat} {K : Fr → Sg → Prop} (hh : headOk ops m = true) : ∀ (l : List Oper) (fr : Fr) (s : Sg),(∀ o ∈ l,o ∈ ops.toList.take m) → regS g true ops l fr s K → regS g true (headA ops m) l fr s K
 | [],fr,s,_,h=>h
 | o :: rest,fr,s,hl,h=>by
  have ih := fun fr s=>regS_head (P := P) (g := g) (K := K) hh rest fr s (fun x hx=>hl x (by simp [hx]))
  obtain ⟨i,hi⟩ := List.mem_iff_getElem?.1 (hl o (by simp))
  have him : i < m := by have := getElem_lt hi; simp at this; omega
  rw [List.getElem?_take,if_pos him] at hi
  unfold regS at h ⊢
  rw [wantedS_head hh (by simpa using hi) him]
  cases hw : wantedS ops fr o with
  | none=>rw [hw] at h; exact h.elim
  | some b =>
   rw [hw] at h
   simp only at h ⊢
   cases b with
   | false =>
    rw [if_neg (by simp)] at h ⊢
    exact ih _ _ h
   | true =>
    rw [if_pos rfl] at h ⊢
    split at h
    ·rename_i f args tys hop
     split at h
     ·rename_i fid xs hc
      simp only [if_true] at h ⊢
      obtain ⟨r,hs,hr⟩ := h
      exact ⟨r,hs,ih _ _ hr⟩
     ·exact h.elim
    ·split at h
     ·exact ih _ _ h
     ·exact h.elim
theorem SWs.regionT {P : Program} {g : Pg P} {id : Nat} {ops : Array Oper} {fr : Fr} {s : Sg} {Q : SQ} (m : Nat) (L : List (Tmp × Tmp)) (hL : (tailOk ops m,headOk ops m,drawOk (headA ops m),seps (headA ops m)) = (true,true,true,L))
  (h : regS g true ops (ops.toList.take m) fr s (fun fr' s'=>sepL L fr' = true ∧ regW g ops (ops.toList.drop m) fr' s' (Q .normal))) : SWs g (.region id ops true) Q fr s := by
 injection hL with ht hL
 injection hL with hh hL
 injection hL with hd hL
 exact fun _ w0 G0 G a w h0 hH hfr hdf=>region_tail m ht hh hd (by rw [hL]; exact regS_head hh _ _ _ (fun o ho=>ho) h) (fun _ _ q=>q) h0 hH hfr hdf
end Go.Proofs.YtjgngikiglhleaaGreatDoor
