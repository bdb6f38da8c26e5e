import Derived.Test.YtnnelopkjdgbgaaDoorSt
namespace Go.Proofs.YtnnelopkjdgbgaaDoor
open Go.RowKit
set_option linter.unusedVariables false
set_option linter.unusedSimpArgs false
def headOk (ops : Array Oper) (m : Nat) : Bool := decide (m ≤ ops.size) && (ops.toList.take m).all fun o=>match o.guard with | some (j,_)=>decide (j < m) | none=>true
def headA (ops : Array Oper) (m : Nat) : Array Oper := ⟨ops.toList.take m⟩
theorem headA_at {ops : Array Oper} {m j : Nat} : (headA ops m)[j]? = if j < m then ops[j]? else none := by
 show (ops.toList.take m).toArray[j]? = _
 rw [List.getElem?_toArray,List.getElem?_take]
 split
 ·simp
 ·rfl
theorem headA_size {ops : Array Oper} {m : Nat} (h : m ≤ ops.size) : (headA ops m).size = m := by
 show (ops.toList.take m).toArray.size = m
 simp; omega
theorem headOk_at {ops : Array Oper} {m i : Nat} {o : Oper} (h : headOk ops m = true) (ho : ops[i]? = some o) (hi : i < m) {j : Nat} {b : Bool} (hg : o.guard = some (j,b)) : j < m := by
 unfold headOk at h
 simp only [Bool.and_eq_true,List.all_eq_true] at h
 have := h.2 o (List.mem_of_getElem? (i := i) (by rw [List.getElem?_take,if_pos hi]; simpa using ho))
 rw [hg] at this
 simpa using this
theorem yielded_head {ops : Array Oper} {m j : Nat} {tm : Array Value} (h : j < m) : yielded (headA ops m) tm j = yielded ops tm j := by
 unfold yielded
 rw [headA_at,if_pos h]
theorem wanted_head {ops : Array Oper} {m i : Nat} {o : Oper} (h : headOk ops m = true) (ho : ops[i]? = some o) (hi : i < m) (tm : Array Value) : Region.wanted o (yielded (headA ops m) tm) = Region.wanted o (yielded ops tm) := by
 unfold Region.wanted
 cases hg : o.guard with
 | none=>rfl
 | some p =>
  obtain ⟨j,b⟩ := p
  simp only
  rw [yielded_head (headOk_at h ho hi hg)]
def full (n i : Nat) : Array Bool := ((List.range n).map fun j=>decide (j < i)).toArray
theorem full_size (n i : Nat) : (full n i).size = n := by simp [full]
theorem full_at {n i j : Nat} (d : Bool) (h : j < n) : (full n i).getD j d = decide (j < i) := by
 rw [Array.getD_eq_getD_getElem?]
 unfold full
 rw [List.getElem?_toArray,List.getElem?_map,List.getElem?_range h]
 rfl
theorem full_set {n i : Nat} (h : i < n) : (full n i).setIfInBounds i true = full n (i + 1) := by
 apply Array.ext
 ·simp [full_size]
 ·intro j h1 h2
  have hj : j < n := by simpa [full_size] using h2
  have e1 := full_at (i := i + 1) false hj
  rw [Array.getD_eq_getD_getElem?,Array.getElem?_eq_getElem h2] at e1
  simp only [Option.getD_some] at e1
  rw [e1]
  have e2 := getD_set (full n i) i j (by rw [full_size]; exact h)
  rw [Array.getD_eq_getD_getElem?,Array.getElem?_eq_getElem h1] at e2
  simp only [Option.getD_some] at e2
  rw [e2,full_at false hj]
  by_cases e : j = i
  ·subst e; simp
  ·rw [if_neg e]
   by_cases q : j < i
   ·simp [q]; omega
   ·simp [q]; omega
theorem wpOp_of {P : Program} {Q Q' : Exit → Act → World → Prop} {o : Oper} {K K' : Act → World → Prop} {a : Act} {w : World} (hQ' : ∀ e a w,e ≠ .normal → ¬ Q' e a w) (hK : ∀ a w,K' a w → K a w) (h : o.wp P a w K' Q' ∨ (o.asks P a w ∧ LetsOut Q')) : o.wp P a w K Q ∨ (o.asks P a w ∧ LetsOut Q) := by
 have hno : ¬ LetsOut Q' := fun ⟨a,w,q⟩=>hQ' _ a w (by simp) q
 rcases h with h | ⟨_,h⟩
 ·left
  unfold Oper.wp at *
  generalize (execOp a.eval o).run P w = r at *
  cases r with
  | ok n w' =>
   cases n with
   | value v=>exact hK _ _ h
   | skip=>exact hK _ _ h
   | defer d=>exact hK _ _ h
   | enter f args =>
    simp only [Oper.upon] at h ⊢
    refine Calls.mono h fun e w'' he=>?_
    cases e with
    | returned v=>exact hK _ _ he
    | panicked chain=>exact absurd he (hQ' _ _ _ (by simp))
    | outgrown=>exact absurd he hno
   | row row args =>
    simp only [Oper.upon] at h ⊢
    exact Rows.mono h fun v w'' he=>hK _ _ he
   | _=>first | (simp [Oper.upon] at h; done) | simpa [Oper.upon] using h
  | halt x w' =>
   cases x <;> simp only [Oper.upon] at h ⊢ <;> first | exact h | exact absurd h (hQ' _ _ _ (by simp))
 ·exact absurd h hno
section
variable {P : Program} {ops : Array Oper} {Q : Exit → Act → World → Prop} {m : Nat}
theorem head_any (ht : ∀ (i : Nat) (o : Oper), ops[i]? = some o → (m ≤ i → ∀ j, j < m → j ∈ (clos ops.toList []).getD i []) ∧ ∀ k ∈ preds o, k < i) (hh : headOk ops m = true) {T : Act → World → Prop} (hT : ∀ a w, T a w → ∀ f, ops.size - m ≤ f → wpAny P .any ops Q f (full ops.size m) a w) :
    ∀ (f : Nat) (L L' : Array Bool) (a : Act) (w : World),L.size = ops.size → L'.size = m → (∀ j,j < m → L.getD j false = L'.getD j false) → (∀ j,m ≤ j → L.getD j false = false) → (∀ i o,ops[i]? = some o → L.getD i false = true → ∀ p ∈ preds o,L.getD p false = true) →
      wpAny P .any (headA ops m) (fun e a w=>e = .normal ∧ T a w) f L' a w → wpAny P .any ops Q (f + (ops.size - m)) L a w := by
  have hm : m ≤ ops.size := by unfold headOk at hh; simp only [Bool.and_eq_true,decide_eq_true_eq] at hh; exact hh.1
  have gd : ∀ {L : Array Bool} {j : Nat} (d : Bool),j < L.size → L.getD j d = L.getD j false := by
    intro L j d h
    rw [Array.getD_eq_getD_getElem?,Array.getD_eq_getD_getElem?,Array.getElem?_eq_getElem h]; rfl
  have hrdy : ∀ (L L' : Array Bool),L.size = ops.size → L'.size = m → (∀ j,j < m → L.getD j false = L'.getD j false) → ∀ i,i < m → (i ∈ Region.ready .any (headA ops m) L' ↔ i ∈ Region.ready .any ops L) := by
    intro L L' h1 h2 h3 i hi
    rw [mem_ready,mem_ready,headA_at,if_pos hi,gd true (by omega),gd true (by omega),h3 i hi]
    constructor
    · rintro ⟨q1,o,ho,q2⟩
      refine ⟨q1,o,ho,fun e he hb=>?_⟩
      have hk : e.on ∈ preds o := by
        unfold preds
        exact List.mem_map.2 ⟨e,List.mem_filter.2 ⟨by simpa using he,hb⟩,rfl⟩
      have := (ht _ _ ho).2 _ hk
      rw [h3 _ (by omega)]; exact q2 e he hb
    · rintro ⟨q1,o,ho,q2⟩
      refine ⟨q1,o,ho,fun e he hb=>?_⟩
      have hk : e.on ∈ preds o := by
        unfold preds
        exact List.mem_map.2 ⟨e,List.mem_filter.2 ⟨by simpa using he,hb⟩,rfl⟩
      have := (ht _ _ ho).2 _ hk
      rw [← h3 _ (by omega)]; exact q2 e he hb
  have hall : ∀ (L L' : Array Bool),L.size = ops.size → L'.size = m → (∀ j,j < m → L.getD j false = L'.getD j false) → (∀ j,m ≤ j → L.getD j false = false) → (∀ j,j < m → L.getD j false = true) → Region.ready .any (headA ops m) L' = [] ∧ L = full ops.size m := by
    intro L L' h1 h2 h3 h4 h5
    constructor
    · cases hr : Region.ready .any (headA ops m) L' with
      | nil=>rfl
      | cons j js =>
        exfalso
        have hj : j ∈ Region.ready .any (headA ops m) L' := by rw [hr]; simp
        obtain ⟨q1,o,ho,_⟩ := mem_ready.1 hj
        have hjm : j < m := by have := ops_lt ho; rwa [headA_size hm] at this
        rw [gd true (by omega),← h3 j hjm,h5 j hjm] at q1; cases q1
    · apply Array.ext
      · rw [h1,full_size]
      · intro j q1 q2
        have hj : j < ops.size := by omega
        have e1 := full_at (i := m) false hj
        rw [Array.getD_eq_getD_getElem?,Array.getElem?_eq_getElem q2] at e1
        simp only [Option.getD_some] at e1
        rw [e1]
        have e2 : L.getD j false = L[j] := by rw [Array.getD_eq_getD_getElem?,Array.getElem?_eq_getElem q1]; rfl
        rw [← e2]
        rcases Nat.lt_or_ge j m with z | z
        · rw [h5 j z]; simp [z]
        · rw [h4 j z]; simp; omega
  have hnot : ∀ (L L' : Array Bool),L.size = ops.size → L'.size = m → (∀ j,j < m → L.getD j false = L'.getD j false) → ¬ (∀ j,j < m → L.getD j false = true) → Region.ready .any (headA ops m) L' ≠ [] := by
    intro L L' h1 h2 h3 h5 he
    apply h5
    intro i
    induction i using Nat.strongRecOn with
    | _ i ihi =>
      intro hlt
      cases hb : L.getD i false with
      | true=>rfl
      | false =>
        exfalso
        obtain ⟨o,ho⟩ : ∃ o,ops[i]? = some o := ⟨ops[i]'(by omega),Array.getElem?_eq_getElem (by omega)⟩
        have : i ∈ Region.ready .any (headA ops m) L' := by
          rw [mem_ready]
          refine ⟨by rw [gd true (by omega),← h3 i hlt]; exact hb,o,by rw [headA_at,if_pos hlt]; exact ho,fun e he hbd=>?_⟩
          have hk : e.on ∈ preds o := by
            unfold preds
            exact List.mem_map.2 ⟨e,List.mem_filter.2 ⟨by simpa using he,hbd⟩,rfl⟩
          have := (ht _ _ ho).2 _ hk
          rw [← h3 _ (by omega)]
          exact ihi e.on this (by omega)
        rw [he] at this; simp at this
  intro f
  induction f with
  | zero =>
    intro L L' a w h1 h2 h3 h4 h5 h
    by_cases hd : ∀ j,j < m → L.getD j false = true
    · rw [(hall L L' h1 h2 h3 h4 hd).2]
      exact hT a w h.2.2 _ (by omega)
    · exact absurd h.1 (hnot L L' h1 h2 h3 hd)
  | succ f ih =>
    intro L L' a w h1 h2 h3 h4 h5 h
    by_cases hd : ∀ j,j < m → L.getD j false = true
    · obtain ⟨q1,q2⟩ := hall L L' h1 h2 h3 h4 hd
      rw [q2]
      exact hT a w (h.1 q1).2 _ (by omega)
    · rw [show f + 1 + (ops.size - m) = (f + (ops.size - m)) + 1 by omega]
      refine ⟨fun he=>?_,fun i hi=>?_⟩
      · exfalso
        refine hnot L L' h1 h2 h3 hd ?_
        cases hr : Region.ready .any (headA ops m) L' with
        | nil=>rfl
        | cons j js =>
          exfalso
          have hj : j ∈ Region.ready .any (headA ops m) L' := by rw [hr]; simp
          obtain ⟨_,o,ho,_⟩ := mem_ready.1 hj
          have hjm : j < m := by have := ops_lt ho; rwa [headA_size hm] at this
          have := (hrdy L L' h1 h2 h3 j hjm).1 hj
          rw [he] at this; simp at this
      · obtain ⟨r1,o,ho,r2⟩ := mem_ready.1 hi
        have hlt := ops_lt ho
        have hpr : ∀ p ∈ preds o,L.getD p false = true := by
          intro p hpp
          obtain ⟨e,he,rfl⟩ := List.mem_map.1 hpp
          obtain ⟨he1,he2⟩ := List.mem_filter.1 he
          exact r2 e (by simpa using he1) he2
        have him : i < m := by
          rcases Nat.lt_or_ge i m with z | z
          · exact z
          · exfalso
            apply hd
            intro j hj
            have key := clos_ok (ops := ops) (lis := fun k=>L.getD k false = true ∨ k = i) (fun k y hy hk p hpy=>by
              rcases hk with hk | rfl
              · exact .inl (h5 k y hy hk p hpy)
              · rw [ho] at hy; injection hy with hy; subst hy; exact .inl (hpr p hpy)) ops.toList [] (fun k=>by simp) (fun k l h=>by simp at h) i j ((ht _ _ ho).1 z j hj) (.inr rfl)
            rcases key with z' | z'
            · exact z'
            · omega
        have hop := h.2 i ((hrdy L L' h1 h2 h3 i him).2 hi)
        unfold wpOp at hop ⊢
        rw [headA_at,if_pos him,ho] at hop
        rw [ho]
        simp only at hop ⊢
        rw [wanted_head hh ho him] at hop
        have hset : ∀ j,(L.setIfInBounds i true).getD j false = (if j = i then true else L.getD j false) := fun j=>getD_set L i j (by omega)
        have hset' : ∀ j,(L'.setIfInBounds i true).getD j false = (if j = i then true else L'.getD j false) := fun j=>getD_set L' i j (by omega)
        have hk : ∀ a w,wpAny P .any (headA ops m) (fun e a w=>e = .normal ∧ T a w) f (L'.setIfInBounds i true) a w → wpAny P .any ops Q (f + (ops.size - m)) (L.setIfInBounds i true) a w := by
          intro a w hh'
          refine ih _ _ a w (by simpa using h1) (by simpa using h2) (fun j hj=>?_) (fun j hj=>?_) (fun j x hx hj p hpp=>?_) hh'
          · rw [hset,hset',h3 j hj]
          · rw [hset,if_neg (by omega)]; exact h4 j hj
          · rw [hset] at hj ⊢
            split
            · rfl
            · by_cases ej : j = i
              · subst ej
                rw [ho] at hx; injection hx with hx; subst hx
                exact hpr p hpp
              · rw [if_neg ej] at hj
                exact h5 j x hx hj p hpp
        split
        · rename_i hw
          rw [if_pos hw] at hop
          exact wpOp_of (fun e a w he q=>he q.1) hk hop
        · rename_i hw
          rw [if_neg hw] at hop
          exact hk _ _ hop
end
theorem wantedS_head {ops : Array Oper} {m i : Nat} {o : Oper} (h : headOk ops m = true) (ho : ops[i]? = some o) (hi : i < m) (fr : Fr) : wantedS (headA ops m) fr o = wantedS ops fr o := by
 unfold wantedS
 cases hg : o.guard with
 | none=>rfl
 | some p =>
  obtain ⟨j,b⟩ := p
  simp only
  rw [headA_at,if_pos (headOk_at h ho hi hg)]
theorem regS_head {P : Program} {g : Pg P} {ops : Array Oper} {m : Nat} {K : Fr → Sg → Prop} (hh : headOk ops m = true) : ∀ (l : List Oper) (fr : Fr) (s : Sg),(∀ o ∈ l,o ∈ ops.toList.take m) → regS g true ops l fr s K → regS g true (headA ops m) l fr s K
 | [],fr,s,_,h=>h
 | o :: rest,fr,s,hl,h=>by
  have ih := fun fr s=>regS_head (P := P) (g := g) (K := K) hh rest fr s (fun x hx=>hl x (by simp [hx]))
  obtain ⟨i,hi⟩ := List.mem_iff_getElem?.1 (hl o (by simp))
  have him : i < m := by have := getElem_lt hi; simp at this; omega
  rw [List.getElem?_take,if_pos him] at hi
  unfold regS at h ⊢
  rw [wantedS_head hh (by simpa using hi) him]
  cases hw : wantedS ops fr o with
  | none=>rw [hw] at h; exact h.elim
  | some b =>
   rw [hw] at h
   simp only at h ⊢
   cases b with
   | false =>
    rw [if_neg (by simp)] at h ⊢
    exact ih _ _ h
   | true =>
    rw [if_pos rfl] at h ⊢
    split at h
    ·rename_i f args tys hop
     split at h
     ·rename_i fid xs hc
      simp only [if_true] at h ⊢
      obtain ⟨r,hs,hr⟩ := h
      exact ⟨r,hs,ih _ _ hr⟩
     ·exact h.elim
    ·split at h
     ·exact ih _ _ h
     ·exact h.elim
end Go.Proofs.YtnnelopkjdgbgaaDoor
