import Derived.Test.YtjgngikiglhleaaGreatDoorSu
namespace Go.Proofs.YtjgngikiglhleaaGreatDoor
open Go.RowKit
set_option linter.unusedVariables false
set_option linter.unusedSimpArgs false
def tailW (ops : Array Oper) (m : Nat) : Bool :=
 let C := clos ops.toList []
 (List.range ops.size).all fun i=>(decide (i < m) || (List.range m).all fun j=>(C.getD i []).contains j) && match ops[i]? with | some o=>(preds o).all fun k=>decide (k < i) | none=>true
theorem tailW_at {ops : Array Oper} {m i : Nat} {o : Oper} (h : tailW ops m = true) (ho : ops[i]? = some o) : (m ≤ i → ∀ j,j < m → j ∈ (clos ops.toList []).getD i []) ∧ ∀ k ∈ preds o,k < i := by
 unfold tailW at h
 simp only [List.all_eq_true,List.mem_range] at h
 have := h i (ops_lt ho)
 rw [ho] at this
 simp only [Bool.or_eq_true,decide_eq_true_eq,Bool.and_eq_true,List.all_eq_true,List.mem_range,List.contains_iff_mem] at this
 refine ⟨fun hm j hj=>?_,this.2⟩
 rcases this.1 with q | q
 ·omega
 ·exact q j hj
def regA {P : Program} (g : Pg P) (ops : Array Oper) (K : Fr → Sg → Prop) (L : Array Bool) (fr : Fr) (s : Sg) : Prop :=
 L.size = ops.size → ∀ f,cnt L ops.size ≤ f → ∀ (w0 : World) (G0 G : Cx) (a : Act) (w : World) (Q : Exit → Act → World → Prop),(∀ a w,Post g w0 G0 K a w → Q .normal a w) → G0.le G → HR P w0 w G s → FR G fr a → a.defers = [] → wpAny P .any ops Q f L a w
section
variable {P : Program} {g : Pg P} {ops : Array Oper} {K : Fr → Sg → Prop} {L : Array Bool} {fr : Fr} {s : Sg}
theorem regA.nil (hr : Region.ready .any ops L = []) (h : K fr s) : regA g ops K L fr s :=
 fun _ f _ w0 G0 G a w Q hQ h0 hH hfr hd=>wpAny_done hr (hQ _ _ ⟨G,fr,s,h0,hH,hfr,hd,h⟩) f
theorem regA.step {R : List Nat} (hr : Region.ready .any ops L = R) (hne : R ≠ []) (h : ∀ j ∈ R,∃ o,ops.toList[j]? = some o ∧ regW g ops [o] fr s (fun fr' s'=>regA g ops K (L.setIfInBounds j true) fr' s')) : regA g ops K L fr s := by
  subst hr
  intro hL f hf w0 G0 G a w Q hQ h0 hH hfr hd
  have hlis : ∀ j ∈ Region.ready .any ops L,j < L.size ∧ L.getD j false = false := by
    intro j hj
    obtain ⟨h1,o,ho,_⟩ := mem_ready.1 hj
    have hlt : j < L.size := by have := ops_lt ho; omega
    refine ⟨hlt,?_⟩
    rw [Array.getD_eq_getD_getElem?,Array.getElem?_eq_getElem hlt] at h1 ⊢
    exact h1
  have hpos : 0 < cnt L ops.size := by
    obtain ⟨j,hj⟩ := List.exists_mem_of_ne_nil _ hne
    obtain ⟨h1,h2⟩ := hlis j hj
    rcases Nat.eq_zero_or_pos (cnt L ops.size) with z | z
    · have := cnt_zero L _ z j (by omega)
      rw [h2] at this; cases this
    · exact z
  obtain ⟨f,rfl⟩ : ∃ q,f = q + 1 := ⟨f - 1,by omega⟩
  refine ⟨fun he=>absurd he hne,fun i hi=>?_⟩
  obtain ⟨o,ho,hw⟩ := h i hi
  obtain ⟨b1,b2⟩ := hlis i hi
  have hcnt := (cnt_set L i b1 b2 ops.size).1 (by omega)
  have hl := hw w0 G0 G a w (fun e a w=>e = .normal ∧ wpAny P .any ops Q f (L.setIfInBounds i true) a w) (fun a w hp=>by
    obtain ⟨G',fr',s',q1,q2,q3,q4,q5⟩ := hp
    exact ⟨rfl,q5 (by simpa using hL) f (by omega) w0 G0 G' a w Q hQ q1 q2 q3 q4⟩) h0 hH hfr hd
  unfold wpList at hl
  unfold wpOp
  rw [show ops[i]? = some o by simpa using ho]
  simp only at hl ⊢
  split
  · rename_i hw'
    rw [if_pos hw'] at hl
    exact wpOp_of (fun e a w he q=>he q.1) (fun a w q=>q.2) hl
  · rename_i hw'
    rw [if_neg hw'] at hl
    exact hl.2
theorem regA.one {j : Nat} {o : Oper} (hr : Region.ready .any ops L = [j]) (ho : ops.toList[j]? = some o) (h : regW g ops [o] fr s (fun fr' s'=>regA g ops K (L.setIfInBounds j true) fr' s')) : regA g ops K L fr s :=
 regA.step hr (by simp) (fun i hi=>by simp at hi; subst hi; exact ⟨o,ho,h⟩)
theorem regA.two {j k : Nat} {o p : Oper} (hr : Region.ready .any ops L = [j,k]) (ho : ops.toList[j]? = some o) (hp : ops.toList[k]? = some p) (h : regW g ops [o] fr s (fun fr' s'=>regA g ops K (L.setIfInBounds j true) fr' s'))
  (h2 : regW g ops [p] fr s (fun fr' s'=>regA g ops K (L.setIfInBounds k true) fr' s')) : regA g ops K L fr s :=
 regA.step hr (by simp) (fun i hi=>by
  simp at hi
  rcases hi with rfl | rfl
  ·exact ⟨o,ho,h⟩
  ·exact ⟨p,hp,h2⟩)
end
def blankO (o : Oper) : Oper := { o with op := (match o.dst with | some t=>.move (.tmp t) | none=>.move (.const (.bool false))),guard := none }
def blank (ops : Array Oper) (p : Nat) : Array Oper := ⟨(ops.toList.take p).map blankO ++ ops.toList.drop p⟩
theorem blank_at {ops : Array Oper} {p : Nat} (hp : p ≤ ops.size) (i : Nat) : (blank ops p)[i]? = if i < p then (ops[i]?).map blankO else ops[i]? := by
 show ((ops.toList.take p).map blankO ++ ops.toList.drop p).toArray[i]? = _
 have hl : ((ops.toList.take p).map blankO).length = p := by simp; omega
 rw [List.getElem?_toArray]
 split
 ·rename_i h
  rw [List.getElem?_append_left (by omega),List.getElem?_map,List.getElem?_take,if_pos h]
  simp
 ·rename_i h
  rw [List.getElem?_append_right (by omega),hl,List.getElem?_drop,show p + (i - p) = i by omega]
  simp
theorem blank_size {ops : Array Oper} {p : Nat} (hp : p ≤ ops.size) : (blank ops p).size = ops.size := by
 show ((ops.toList.take p).map blankO ++ ops.toList.drop p).toArray.size = _
 simp; omega
theorem blank_dst {ops : Array Oper} {p : Nat} (hp : p ≤ ops.size) (i : Nat) : ((blank ops p)[i]?).bind (·.dst) = (ops[i]?).bind (·.dst) := by
 rw [blank_at hp]
 split
 ·cases ops[i]? <;> rfl
 ·rfl
theorem blank_wanted {ops : Array Oper} {p : Nat} (hp : p ≤ ops.size) (fr : Fr) (o : Oper) : wantedS (blank ops p) fr o = wantedS ops fr o := by
 unfold wantedS
 cases o.guard with
 | none=>rfl
 | some q=>simp only [blank_dst hp]
theorem blank_yield {ops : Array Oper} {p : Nat} (hp : p ≤ ops.size) (tm : Array Value) : yielded (blank ops p) tm = yielded ops tm := by
 funext j
 unfold yielded
 rw [blank_dst hp]
theorem putF_self (fr : Fr) (t : Tmp) : putF fr (some t) (fr.getD t .undef) = fr := by
 show fr.set t (fr.getD t .undef) = fr
 apply List.ext_getElem?
 intro i
 rw [List.getElem?_set]
 split
 ·rename_i e
  subst e
  split
  ·rename_i h
   rw [List.getD_eq_getElem?_getD,List.getElem?_eq_getElem h]; rfl
  ·rename_i h
   rw [List.getElem?_eq_none (by omega)]
 ·rfl
section
variable {P : Program} {g : Pg P} {ops : Array Oper} {K : Fr → Sg → Prop}
theorem regS_same {ops ops' : Array Oper} (hw : ∀ fr o,wantedS ops' fr o = wantedS ops fr o) : ∀ (l : List Oper) (fr : Fr) (s : Sg),regS g true ops l fr s K → regS g true ops' l fr s K
 | [],fr,s,h=>h
 | o :: rest,fr,s,h=>by
  have ih := fun fr s=>regS_same hw rest fr s
  unfold regS at h ⊢
  rw [hw]
  cases hw' : wantedS ops fr o with
  | none=>rw [hw'] at h; exact h.elim
  | some b =>
   rw [hw'] at h
   simp only at h ⊢
   cases b with
   | false =>
    rw [if_neg (by simp)] at h ⊢
    exact ih _ _ h
   | true =>
    rw [if_pos rfl] at h ⊢
    split at h
    ·rename_i f args tys hop
     split at h
     ·rename_i fid xs hc
      simp only [if_true] at h ⊢
      obtain ⟨r,hs,hr⟩ := h
      exact ⟨r,hs,ih _ _ hr⟩
     ·exact h.elim
    ·split at h
     ·exact ih _ _ h
     ·exact h.elim
theorem regS_blank {B : Array Oper} {r : List Oper} : ∀ (l : List Oper) (fr : Fr) (s : Sg),regS g true B r fr s K → regS g true B (l.map blankO ++ r) fr s K
 | [],_,_,h=>h
 | o :: l,fr,s,h=>by
  have ih := regS_blank (B := B) (r := r) l fr s h
  show regS g true B (blankO o :: (l.map blankO ++ r)) fr s K
  unfold regS
  rw [show wantedS B fr (blankO o) = some true from rfl]
  simp only [if_true]
  cases hd : o.dst with
  | none =>
   have hop : (blankO o).op = .move (.const (.bool false)) := by unfold blankO; rw [hd]
   have hdst : (blankO o).dst = none := hd
   have hst : stepS g (fun k=>s.obs[k]?) (fun t=>s.lns[t]?) s.obs.length s.lns.length (blankO o) (evalO fr) = some (evalO fr (.const (.bool false)),.none) := by
    unfold stepS extS stepS0 pureS; rw [hop]
   rw [hop]
   simp only
   rw [hst,hdst]
   exact ih
  | some t =>
   have hop : (blankO o).op = .move (.tmp t) := by unfold blankO; rw [hd]
   have hdst : (blankO o).dst = some t := hd
   have hst : stepS g (fun k=>s.obs[k]?) (fun t=>s.lns[t]?) s.obs.length s.lns.length (blankO o) (evalO fr) = some (fr.getD t .undef,.none) := by
    unfold stepS extS stepS0 pureS; rw [hop]; rfl
   rw [hop]
   simp only
   rw [hst,hdst]
   simp only
   rw [putF_self]
   exact ih
theorem drawn_any {fr : Fr} {s : Sg} (h : regS g true ops ops.toList fr s (fun fr' s'=>sepL (seps ops) fr' = true ∧ K fr' s')) (hd : drawOk ops = true) {w0 w : World} {G0 G : Cx} {a : Act} {Q : Exit → Act → World → Prop} (hQ : ∀ a w,Post g w0 G0 K a w → Q .normal a w) (h0 : G0.le G) (hH : HR P w0 w G s) (hfr : FR G fr a) (hdf : a.defers = []) (f : Nat) (hf : ops.size ≤ f) :
  wpAny P .any ops Q f (Array.replicate ops.size false) a w := by
 obtain ⟨frs,sgs,res,eff,e1,e2,ht,hK⟩ := trace_of ops.toList 0 fr s rfl (Nat.zero_le _) h
 have hrep : ∀ j,(Array.replicate ops.size false).getD j false = false := by
  intro j
  rw [Array.getD_eq_getD_getElem?]
  rcases Nat.lt_or_ge j ops.size with z | z
  ·rw [Array.getElem?_eq_getElem (by simpa using z)]; simp
  ·rw [Array.getElem?_eq_none (by simpa using z)]; rfl
 refine reg_drawn ht hd hQ hK.2 hK.1 f (Array.replicate ops.size false) G a _ (by simp) (fun i o _ hl=>by rw [hrep] at hl; cases hl) (Nat.le_trans (cnt_le _ _) hf) h0 ?_ ?_ hdf
 ·have e3 : obsR sgs eff (Array.replicate ops.size false) ops.size = fun k=>s.obs[k]? := by
   funext k
   rw [obsR_keep (i := 0) (Nat.zero_le _) fun j _ _ _=>hrep j]
   show (sgs 0).obs[k]? = _
   rw [e2]
  have e4 : lnsL ops.size sgs eff (Array.replicate ops.size false) = fun k=>s.lns[k]? := by
   unfold lnsL
   rw [if_neg]
   ·rw [← e2]; rfl
   ·intro hl
    rw [List.any_eq_true] at hl
    obtain ⟨j,_,hl⟩ := hl
    rw [hrep] at hl; cases hl
  rw [e3,e4]
  exact hH
 ·have : cfL ops frs res (Array.replicate ops.size false) = fr := by
   rw [← e1]
   apply List.ext_getElem?
   intro t
   have hl1 := cf_len ops frs res (Array.replicate ops.size false)
   rcases Nat.lt_or_ge t (frs 0).length with z | z
   ·have a1 : (cfL ops frs res (Array.replicate ops.size false))[t]? = some ((cfL ops frs res (Array.replicate ops.size false)).getD t .undef) := by
     rw [List.getD_eq_getElem?_getD,List.getElem?_eq_getElem (by omega)]; rfl
    have a2 : (frs 0)[t]? = some ((frs 0).getD t .undef) := by
     rw [List.getD_eq_getElem?_getD,List.getElem?_eq_getElem z]; rfl
    rw [a1,a2,cf_getD]
    unfold valAt
    rw [lw_cut 0 ops.size (Nat.zero_le _) (fun j _ _ _=>hrep j)]
    rfl
   ·rw [List.getElem?_eq_none (by omega),List.getElem?_eq_none z]
  rw [this]; exact hfr
theorem put_self (a : Act) (t : Tmp) : a.put (some t) (a.eval (.tmp t)) = a := by
 have : a.tmps.setIfInBounds t (a.tmps.getD t undef) = a.tmps := by
  apply Array.ext
  ·simp
  ·intro i h1 h2
   rw [Array.getElem_setIfInBounds]
   split
   ·rename_i e
    subst e
    rw [Array.getD_eq_getD_getElem?,Array.getElem?_eq_getElem h2]; rfl
   ·rfl
 show { a with tmps := a.tmps.setIfInBounds t (a.tmps.getD t undef) } = a
 rw [this]
theorem full_zero (n : Nat) : full n 0 = Array.replicate n false := by
 apply Array.ext
 ·simp [full_size]
 ·intro i h1 h2
  have := full_at (n := n) (i := 0) (j := i) false (by simpa using h2)
  rw [Array.getD_eq_getD_getElem?,Array.getElem?_eq_getElem h1] at this
  simpa using this
theorem blank_run {B : Array Oper} {p : Nat} {Q : Exit → Act → World → Prop} {a : Act} {w : World} (hB : ∀ i,i < p → ∃ o,B[i]? = some (blankO o)) (hpr : ∀ i o,B[i]? = some o → ∀ k ∈ preds o,k < i) : ∀ (r i : Nat),i + r = p → ∀ f,wpAny P .any B Q (f + r) (full B.size i) a w → wpAny P .any B Q f (full B.size p) a w
 | 0,i,hi,f,h=>by
  have : i = p := by omega
  subst this; exact h
 | r + 1,i,hi,f,h=>by
  obtain ⟨o,ho⟩ := hB i (by omega)
  have hlt := ops_lt ho
  have hready : i ∈ Region.ready .any B (full B.size i) := by
   rw [mem_ready]
   refine ⟨by rw [full_at true hlt]; simp,_,ho,fun e he hb=>?_⟩
   have hk : e.on ∈ preds (blankO o) := by
    unfold preds
    exact List.mem_map.2 ⟨e,List.mem_filter.2 ⟨by simpa using he,hb⟩,rfl⟩
   have := hpr _ _ ho _ hk
   rw [full_at false (by omega)]
   simpa using this
  have h1 := h.2 i hready
  unfold wpOp at h1
  rw [ho] at h1
  simp only at h1
  rw [if_pos (show Region.wanted (blankO o) (yielded B a.tmps) = true from rfl),full_set hlt] at h1
  have key : wpAny P .any B Q (f + r) (full B.size (i + 1)) a w := by
   rcases h1 with h1 | ⟨h1,_⟩
   ·cases hd : o.dst with
    | none =>
     have hop : (blankO o).op = .move (.const (.bool false)) := by unfold blankO; rw [hd]
     have hdst : (blankO o).dst = none := hd
     unfold Oper.wp execOp at h1
     rw [hop] at h1
     simp only [Sem.run_pure,Oper.upon,hdst,Act.put] at h1
     exact h1
    | some t =>
     have hop : (blankO o).op = .move (.tmp t) := by unfold blankO; rw [hd]
     have hdst : (blankO o).dst = some t := hd
     unfold Oper.wp execOp at h1
     rw [hop] at h1
     simp only [Sem.run_pure,Oper.upon,hdst] at h1
     rwa [put_self] at h1
   ·exfalso
    unfold Oper.asks execOp at h1
    cases hd : o.dst with
    | none =>
     have hop : (blankO o).op = .move (.const (.bool false)) := by unfold blankO; rw [hd]
     rw [hop] at h1
     simp [Sem.run_pure] at h1
     exact absurd (show noRoomEvent ∈ (#[] : Array _) from h1) (by simp)
    | some t =>
     have hop : (blankO o).op = .move (.tmp t) := by unfold blankO; rw [hd]
     rw [hop] at h1
     simp [Sem.run_pure] at h1
     exact absurd (show noRoomEvent ∈ (#[] : Array _) from h1) (by simp)
  exact blank_run hB hpr r (i + 1) (by omega) f key
theorem blank_swap {p : Nat} (hp : p ≤ ops.size) {Q : Exit → Act → World → Prop} : ∀ (f : Nat) (L : Array Bool) (a : Act) (w : World),L.size = ops.size → (∀ j,j < p → L.getD j false = true) → wpAny P .any (blank ops p) Q f L a w → wpAny P .any ops Q f L a w := by
 have hge : ∀ (L : Array Bool) (i : Nat),L.size = ops.size → i < ops.size → (∀ j,j < p → L.getD j false = true) → L.getD i true = false → p ≤ i := by
  intro L i hL hi h1 h2
  rcases Nat.lt_or_ge i p with z | z
  ·have := h1 i z
   rw [Array.getD_eq_getD_getElem?,Array.getElem?_eq_getElem (by omega)] at this h2
   simp at this h2
   rw [this] at h2; cases h2
  ·exact z
 have hrdy : ∀ (L : Array Bool),L.size = ops.size → (∀ j,j < p → L.getD j false = true) → ∀ i,(i ∈ Region.ready .any (blank ops p) L ↔ i ∈ Region.ready .any ops L) := by
  intro L hL h1 i
  rw [mem_ready,mem_ready]
  constructor
  ·rintro ⟨q1,o,ho,q2⟩
   have hi := ops_lt ho
   rw [blank_size hp] at hi
   have := hge L i hL hi h1 q1
   rw [blank_at hp,if_neg (by omega)] at ho
   exact ⟨q1,o,ho,q2⟩
  ·rintro ⟨q1,o,ho,q2⟩
   have := hge L i hL (ops_lt ho) h1 q1
   exact ⟨q1,o,by rw [blank_at hp,if_neg (by omega)]; exact ho,q2⟩
 have hnil : ∀ (L : Array Bool),L.size = ops.size → (∀ j,j < p → L.getD j false = true) → (Region.ready .any ops L = [] → Region.ready .any (blank ops p) L = []) ∧ (Region.ready .any (blank ops p) L = [] → Region.ready .any ops L = []) := by
  intro L hL h1
  refine ⟨fun h=>?_,fun h=>?_⟩
  ·cases hr : Region.ready .any (blank ops p) L with
   | nil=>rfl
   | cons j js=>have := (hrdy L hL h1 j).1 (by rw [hr]; simp); rw [h] at this; simp at this
  ·cases hr : Region.ready .any ops L with
   | nil=>rfl
   | cons j js=>have := (hrdy L hL h1 j).2 (by rw [hr]; simp); rw [h] at this; simp at this
 intro f
 induction f with
 | zero=>intro L a w hL h1 h; exact ⟨(hnil L hL h1).2 h.1,h.2⟩
 | succ f ih =>
  intro L a w hL h1 h
  refine ⟨fun he=>h.1 ((hnil L hL h1).1 he),fun i hi=>?_⟩
  have h2 := h.2 i ((hrdy L hL h1 i).2 hi)
  obtain ⟨q1,o,ho,_⟩ := mem_ready.1 hi
  have hpi := hge L i hL (ops_lt ho) h1 q1
  have hset : ∀ j,j < p → (L.setIfInBounds i true).getD j false = true := fun j hj=>by
   rw [getD_set L i j (by have := ops_lt ho; omega)]
   split
   ·rfl
   ·exact h1 j hj
  unfold wpOp at h2 ⊢
  rw [blank_at hp,if_neg (by omega),ho] at h2
  rw [ho]
  simp only at h2 ⊢
  rw [blank_yield hp] at h2
  have hk : ∀ a w,wpAny P .any (blank ops p) Q f (L.setIfInBounds i true) a w → wpAny P .any ops Q f (L.setIfInBounds i true) a w := fun a w q=>ih _ a w (by simpa using hL) hset q
  split
  ·rename_i hw
   rw [if_pos hw] at h2
   rcases h2 with h2 | h2
   ·exact .inl (Oper.wp_mono hk h2)
   ·exact .inr h2
  ·rename_i hw
   rw [if_neg hw] at h2
   exact hk _ _ h2
theorem cnt_full (n p : Nat) : ∀ m,m ≤ n → m ≤ cnt (full n p) m + p
 | 0,_=>by omega
 | m + 1,h=>by
  have ih := cnt_full n p m (by omega)
  unfold cnt
  rw [full_at false (by omega)]
  by_cases q : m < p
  ·simp only [q,decide_true,if_true]
   rcases Nat.lt_or_ge m p with z | z
   ·have : m + 1 ≤ p := z
    omega
   ·omega
  ·simp only [q,decide_false,Bool.false_eq_true,if_false]; omega
theorem cnt_fullL (n p : Nat) : ∀ m,m ≤ n → cnt (full n p) m + min p m ≤ m
 | 0,_=>by simp [cnt]
 | m + 1,h=>by
  have ih := cnt_fullL n p m (by omega)
  unfold cnt
  rw [full_at false (by omega)]
  by_cases q : m < p
  ·simp only [q,decide_true,if_true]
   omega
  ·simp only [q,decide_false,Bool.false_eq_true,if_false]; omega
theorem blank_pred {B : Array Oper} (h : drawOk B = true) : ∀ i o,B[i]? = some o → ∀ k ∈ preds o,k < i := fun i o ho k hk=>drawOk_pred h ho hk
theorem regA.draw {L : Array Bool} {fr : Fr} {s : Sg} (p : Nat) (Ls : List (Tmp × Tmp)) (hc : (decide (L = full ops.size p),decide (p ≤ ops.size),drawOk (blank ops p),seps (blank ops p)) = (true,true,true,Ls)) (h : regS g true ops (ops.toList.drop p) fr s (fun fr' s'=>sepL Ls fr' = true ∧ K fr' s')) : regA g ops K L fr s := by
  injection hc with c1 hc
  injection hc with c2 hc
  injection hc with c3 c4
  have c1 := of_decide_eq_true c1
  have c2 := of_decide_eq_true c2
  subst c1
  intro _ f hf w0 G0 G a w Q hQ h0 hH hfr hd
  refine blank_swap c2 f _ a w (full_size _ _) (fun j hj=>by rw [full_at false (by omega)]; simpa using hj) ?_
  have hsz := blank_size c2
  have h1 : regS g true (blank ops p) (blank ops p).toList fr s (fun fr' s'=>sepL (seps (blank ops p)) fr' = true ∧ K fr' s') := by
    rw [c4]
    exact regS_blank (ops.toList.take p) fr s (regS_same (fun fr o=>blank_wanted c2 fr o) _ _ _ h)
  have hcf := cnt_full ops.size p ops.size (Nat.le_refl _)
  have h2 := drawn_any h1 c3 hQ h0 hH hfr hd (f + p) (by rw [hsz]; omega)
  have h3 := blank_run (p := p) (fun i hi=>by
    rw [blank_at c2,if_pos hi]
    obtain ⟨o,ho⟩ : ∃ o,ops[i]? = some o := ⟨ops[i]'(by omega),Array.getElem?_eq_getElem (by omega)⟩
    exact ⟨o,by rw [ho]; rfl⟩) (blank_pred c3) p 0 (by omega) f (by rw [full_zero]; exact h2)
  rw [hsz] at h3
  exact h3
end
theorem region_tailA {P : Program} {g : Pg P} {id : Nat} {ops : Array Oper} {fr : Fr} {s : Sg} {K : Fr → Sg → Prop} (m : Nat) (ht : tailW ops m = true) (hh : headOk ops m = true) (hd : drawOk (headA ops m) = true)
    (h : regS g true (headA ops m) (headA ops m).toList fr s (fun fr' s'=>sepL (seps (headA ops m)) fr' = true ∧ regA g ops K (full ops.size m) fr' s')) {w0 w : World} {G0 G : Cx} {a : Act} {Q : Exit → Act → World → Prop} (hQ : ∀ a w,Post g w0 G0 K a w → Q .normal a w) (h0 : G0.le G) (hH : HR P w0 w G s) (hfr : FR G fr a) (hdf : a.defers = []) :
    (Code.region id ops true).wp P Q a w := by
  have hm : m ≤ ops.size := by unfold headOk at hh; simp only [Bool.and_eq_true,decide_eq_true_eq] at hh; exact hh.1
  obtain ⟨frs,sgs,res,eff,e1,e2,htr,hK⟩ := trace_of (headA ops m).toList 0 fr s rfl (Nat.zero_le _) h
  refine wp_region_any g.mixed ?_
  have hrep : ∀ (n j : Nat),(Array.replicate n false).getD j false = false := by
    intro n j
    rw [Array.getD_eq_getD_getElem?]
    rcases Nat.lt_or_ge j n with z | z
    · rw [Array.getElem?_eq_getElem (by simpa using z)]; simp
    · rw [Array.getElem?_eq_none (by simpa using z)]; rfl
  have hsz : (headA ops m).size = m := headA_size hm
  have key := head_any (P := P) (Q := Q) (T := fun a w=>Post g w0 G0 (fun fr' s'=>regA g ops K (full ops.size m) fr' s') a w) (fun i o ho=>tailW_at ht ho) hh (fun a w hp f hf=>by
    obtain ⟨G',fr',s',q1,q2,q3,q4,q5⟩ := hp
    exact q5 (full_size _ _) f (by have := cnt_fullL ops.size m ops.size (Nat.le_refl _); omega) w0 G0 G' a w Q hQ q1 q2 q3 q4) m (Array.replicate ops.size false) (Array.replicate m false) a { w with drawn := w.drawn + 1 } (by simp) (by simp) (fun j hj=>by rw [hrep,hrep]) (fun j hj=>hrep _ _) (fun i o _ hl=>by rw [hrep] at hl; cases hl)
  rw [show m + (ops.size - m) = ops.size by omega] at key
  refine key ?_
  have := reg_drawn (Q := fun e a w=>e = .normal ∧ Post g w0 G0 (fun fr' s'=>regA g ops K (full ops.size m) fr' s') a w) htr hd (fun a w hp=>⟨rfl,hp⟩) hK.2 hK.1 (headA ops m).size (Array.replicate (headA ops m).size false) G a { w with drawn := w.drawn + 1 } (by simp) (fun i o _ hl=>by rw [hrep] at hl; cases hl) (cnt_le _ _) h0 ?_ ?_ hdf
  · rw [hsz] at this; exact this
  · have e3 : obsR sgs eff (Array.replicate (headA ops m).size false) (headA ops m).size = fun k => s.obs[k]? := by
      funext k
      rw [obsR_keep (i := 0) (Nat.zero_le _) fun j _ _ _=>hrep _ j]
      show (sgs 0).obs[k]? = _
      rw [e2]
    have e4 : lnsL (headA ops m).size sgs eff (Array.replicate (headA ops m).size false) = fun k=>s.lns[k]? := by
      unfold lnsL
      rw [if_neg]
      · rw [← e2]; rfl
      · intro hl
        rw [List.any_eq_true] at hl
        obtain ⟨j,_,hl⟩ := hl
        rw [hrep] at hl; cases hl
    rw [e3,e4]
    exact hH.kept ((Kp.refl w).drew)
  · have : cfL (headA ops m) frs res (Array.replicate (headA ops m).size false) = fr := by
      rw [← e1]
      apply List.ext_getElem?
      intro t
      have hl1 := cf_len (headA ops m) frs res (Array.replicate (headA ops m).size false)
      rcases Nat.lt_or_ge t (frs 0).length with z | z
      · have a1 : (cfL (headA ops m) frs res (Array.replicate (headA ops m).size false))[t]? = some ((cfL (headA ops m) frs res (Array.replicate (headA ops m).size false)).getD t .undef) := by
          rw [List.getD_eq_getElem?_getD,List.getElem?_eq_getElem (by omega)]; rfl
        have a2 : (frs 0)[t]? = some ((frs 0).getD t .undef) := by
          rw [List.getD_eq_getElem?_getD,List.getElem?_eq_getElem z]; rfl
        rw [a1,a2,cf_getD]
        unfold valAt
        rw [lw_cut 0 (headA ops m).size (Nat.zero_le _) (fun j _ _ _=>hrep _ j)]
        rfl
      · rw [List.getElem?_eq_none (by omega),List.getElem?_eq_none z]
    rw [this]; exact hfr
def atF (F1 : Fr) (S1 : Sg) (fr : Fr) (s : Sg) : Prop := fr = F1 ∧ s = S1
theorem SWs.regionA {P : Program} {g : Pg P} {id : Nat} {ops : Array Oper} {fr : Fr} {s : Sg} {Q : SQ} (m : Nat) (L : List (Tmp × Tmp)) (F1 : Fr) (S1 : Sg) (hL : (tailW ops m,headOk ops m,drawOk (headA ops m),seps (headA ops m)) = (true,true,true,L))
  (h : regS g true ops (ops.toList.take m) fr s (fun fr' s'=>sepL L fr' = true ∧ regA g ops (atF F1 S1) (full ops.size m) fr' s')) (h2 : Q .normal F1 S1) : SWs g (.region id ops true) Q fr s := by
 injection hL with ht hL
 injection hL with hh hL
 injection hL with hd hL
 refine fun _ w0 G0 G a w h0 hH hfr hdf=>region_tailA (K := atF F1 S1) m ht hh hd (by rw [hL]; exact regS_head hh _ _ _ (fun o ho=>ho) h) (fun _ _ q=>?_) h0 hH hfr hdf
 obtain ⟨G',fr',s',q1,q2,q3,q4,rfl,rfl⟩ := q
 exact ⟨G',_,_,q1,q2,q3,q4,h2⟩
end Go.Proofs.YtjgngikiglhleaaGreatDoor
