import Derived.Test.YtjamgiobipdfhaaGreatDoorSu
namespace Go.Proofs.YtjamgiobipdfhaaGreatDoor
open Go.RowKit
set_option linter.unusedVariables false
set_option linter.unusedSimpArgs false
def tailW (ops : Array Oper) (m : Nat) : Bool :=
 let C := clos ops.toList []
 (List.range ops.size).all λi=>(decide (i < m) || (List.range m).all λj=>(C.getD i []).contains j) && match ops[i]? with | some o=>(preds o).all λk=>decide (k < i) | none=>true
theorem tailW_at {ops : Array Oper} {m i : Nat} {o : Oper} (h : tailW ops m = true) (ho : ops[i]? = some o) : (m ≤ i → ∀ j,j < m → j ∈ (clos ops.toList []).getD i []) ∧ ∀ k ∈ preds o,k < i := by
 unfold tailW at h
 simp only [List.all_eq_true,List.mem_range] at h
 have := h i (ops_lt ho)
 rw [ho] at this
 simp only [Bool.or_eq_true,decide_eq_true_eq,Bool.and_eq_true,List.all_eq_true,List.mem_range,List.contains_iff_mem] at this
 refine ⟨λhm j hj=>?_,this.2⟩
 rcases this.1 with q | q
 ·omega
 ·exact q j hj
def regA {P : Program} (g : Pg P) (ops : Array Oper) (K : Fr → Sg → Prop) (L : Array Bool) (fr : Fr) (s : Sg) : Prop :=
 L.size = ops.size → ∀ f,cnt L ops.size ≤ f → ∀ (w0 : World) (G0 G : Cx) (a : Act) (w : World) (Q : Exit → Act → World → Prop),(∀ a w,Post g w0 G0 K a w → Q .normal a w) → G0.le G → HR P w0 w G s → FR G fr a → a.defers = [] → wpAny P .any ops Q f L a w
section
variable {P : Program} {g : Pg P} {ops : Array Oper} {K : Fr → Sg → Prop} {L : Array Bool} {fr : Fr} {s : Sg}
theorem regA.nil (hr : Region.ready .any ops L = []) (h : K fr s) : regA g ops K L fr s :=
 λ_ f _ w0 G0 G a w Q hQ h0 hH hfr hd=>wpAny_done hr (hQ _ _ ⟨G,fr,s,h0,hH,hfr,hd,h⟩) f
theorem regA.step {R : List Nat} (hr : Region.ready .any ops L = R) (hne : R ≠ []) (h : ∀ j ∈ R,∃ o,ops.toList[j]? = some o ∧ regW g ops [o] fr s (λfr' s'=>regA g ops K (L.setIfInBounds j true) fr' s')) : regA g ops K L fr s := by
  subst hr
  intro hL f hf w0 G0 G a w Q hQ h0 hH hfr hd
  have hlis : ∀ j ∈ Region.ready .any ops L,j < L.size ∧ L.getD j false = false := by
    intro j hj
    obtain ⟨h1,o,ho,_⟩ := mem_ready.1 hj
    have hlt : j < L.size := by have := ops_lt ho; omega
    refine ⟨hlt,?_⟩
    rw [Array.getD_eq_getD_getElem?,Array.getElem?_eq_getElem hlt] at h1 ⊢
    exact h1
  have hpos : 0 < cnt L ops.size := by
    obtain ⟨j,hj⟩ := List.exists_mem_of_ne_nil _ hne
    obtain ⟨h1,h2⟩ := hlis j hj
    rcases Nat.eq_zero_or_pos (cnt L ops.size) with z | z
    · have := cnt_zero L _ z j (by omega)
      rw [h2] at this; cases this
    · exact z
  obtain ⟨f,rfl⟩ : ∃ q,f = q + 1 := ⟨f - 1,by omega⟩
  refine ⟨λhe=>absurd he hne,λi hi=>?_⟩
  obtain ⟨o,ho,hw⟩ := h i hi
  obtain ⟨b1,b2⟩ := hlis i hi
  have hcnt := (cnt_set L i b1 b2 ops.size).1 (by omega)
  have hl := hw w0 G0 G a w (λe a w=>e = .normal ∧ wpAny P .any ops Q f (L.setIfInBounds i true) a w) (λa w hp=>by
    obtain ⟨G',fr',s',q1,q2,q3,q4,q5⟩ := hp
    exact ⟨rfl,q5 (by simpa using hL) f (by omega) w0 G0 G' a w Q hQ q1 q2 q3 q4⟩) h0 hH hfr hd
  unfold wpList at hl
  unfold wpOp
  rw [show ops[i]? = some o by simpa using ho]
  simp only at hl ⊢
  split
  · rename_i hw'
    rw [if_pos hw'] at hl
    exact wpOp_of (λe a w he q=>he q.1) (λa w q=>q.2) hl
  · rename_i hw'
    rw [if_neg hw'] at hl
    exact hl.2
theorem regA.one {j : Nat} {o : Oper} (hr : Region.ready .any ops L = [j]) (ho : ops.toList[j]? = some o) (h : regW g ops [o] fr s (λfr' s'=>regA g ops K (L.setIfInBounds j true) fr' s')) : regA g ops K L fr s :=
 regA.step hr (by simp) (λi hi=>by simp at hi; subst hi; exact ⟨o,ho,h⟩)
theorem regA.two {j k : Nat} {o p : Oper} (hr : Region.ready .any ops L = [j,k]) (ho : ops.toList[j]? = some o) (hp : ops.toList[k]? = some p) (h : regW g ops [o] fr s (λfr' s'=>regA g ops K (L.setIfInBounds j true) fr' s'))
  (h2 : regW g ops [p] fr s (λfr' s'=>regA g ops K (L.setIfInBounds k true) fr' s')) : regA g ops K L fr s :=
 regA.step hr (by simp) (λi hi=>by
  simp at hi
  rcases hi with rfl | rfl
  ·exact ⟨o,ho,h⟩
  ·exact ⟨p,hp,h2⟩)
theorem regA.three {j k l : Nat} {o p q : Oper} (hr : Region.ready .any ops L = [j,k,l]) (ho : ops.toList[j]? = some o) (hp : ops.toList[k]? = some p) (hq : ops.toList[l]? = some q) (h : regW g ops [o] fr s (λfr' s'=>regA g ops K (L.setIfInBounds j true) fr' s'))
  (h2 : regW g ops [p] fr s (λfr' s'=>regA g ops K (L.setIfInBounds k true) fr' s')) (h3 : regW g ops [q] fr s (λfr' s'=>regA g ops K (L.setIfInBounds l true) fr' s')) : regA g ops K L fr s :=
 regA.step hr (by simp) (λi hi=>by
  simp at hi
  rcases hi with rfl | rfl | rfl
  ·exact ⟨o,ho,h⟩
  ·exact ⟨p,hp,h2⟩
  ·exact ⟨q,hq,h3⟩)
end
section
variable {P : Program} {g : Pg P} {ops : Array Oper} {K : Fr → Sg → Prop}
theorem cnt_fullL (n p : Nat) : ∀ m,m ≤ n → cnt (full n p) m + min p m ≤ m
 | 0,_=>by simp [cnt]
 | m + 1,h=>by
  have ih := cnt_fullL n p m (by omega)
  unfold cnt
  rw [full_at false (by omega)]
  by_cases q : m < p
  ·simp only [q,decide_true,if_true]
   omega
  ·simp only [q,decide_false,Bool.false_eq_true,if_false]; omega
end
theorem region_tailA {P : Program} {g : Pg P} {id : Nat} {ops : Array Oper} {fr : Fr} {s : Sg} {K : Fr → Sg → Prop} (m : Nat) (ht : tailW ops m = true) (hh : headOk ops m = true) (hd : drawOk (headA ops m) = true)
    (h : regS g true (headA ops m) (headA ops m).toList fr s (λfr' s'=>sepL (seps (headA ops m)) fr' = true ∧ regA g ops K (full ops.size m) fr' s')) {w0 w : World} {G0 G : Cx} {a : Act} {Q : Exit → Act → World → Prop} (hQ : ∀ a w,Post g w0 G0 K a w → Q .normal a w) (h0 : G0.le G) (hH : HR P w0 w G s) (hfr : FR G fr a) (hdf : a.defers = []) :
    (Code.region id ops true).wp P Q a w := by
  have hm : m ≤ ops.size := by unfold headOk at hh; simp only [Bool.and_eq_true,decide_eq_true_eq] at hh; exact hh.1
  obtain ⟨frs,sgs,res,eff,e1,e2,htr,hK⟩ := trace_of (headA ops m).toList 0 fr s rfl (Nat.zero_le _) h
  refine wp_region_any g.mixed ?_
  have hrep : ∀ (n j : Nat),(Array.replicate n false).getD j false = false := by
    intro n j
    rw [Array.getD_eq_getD_getElem?]
    rcases Nat.lt_or_ge j n with z | z
    · rw [Array.getElem?_eq_getElem (by simpa using z)]; simp
    · rw [Array.getElem?_eq_none (by simpa using z)]; rfl
  have hsz : (headA ops m).size = m := headA_size hm
  have key := head_any (P := P) (Q := Q) (T := λa w=>Post g w0 G0 (λfr' s'=>regA g ops K (full ops.size m) fr' s') a w) (λi o ho=>tailW_at ht ho) hh (λa w hp f hf=>by
    obtain ⟨G',fr',s',q1,q2,q3,q4,q5⟩ := hp
    exact q5 (full_size _ _) f (by have := cnt_fullL ops.size m ops.size (Nat.le_refl _); omega) w0 G0 G' a w Q hQ q1 q2 q3 q4) m (Array.replicate ops.size false) (Array.replicate m false) a { w with drawn := w.drawn + 1 } (by simp) (by simp) (λj hj=>by rw [hrep,hrep]) (λj hj=>hrep _ _) (λi o _ hl=>by rw [hrep] at hl; cases hl)
  rw [show m + (ops.size - m) = ops.size by omega] at key
  refine key ?_
  have := reg_drawn (Q := λe a w=>e = .normal ∧ Post g w0 G0 (λfr' s'=>regA g ops K (full ops.size m) fr' s') a w) htr hd (λa w hp=>⟨rfl,hp⟩) hK.2 hK.1 (headA ops m).size (Array.replicate (headA ops m).size false) G a { w with drawn := w.drawn + 1 } (by simp) (λi o _ hl=>by rw [hrep] at hl; cases hl) (cnt_le _ _) h0 ?_ ?_ hdf
  · rw [hsz] at this; exact this
  · have e3 : obsR sgs eff (Array.replicate (headA ops m).size false) (headA ops m).size = λk => s.obs[k]? := by
      funext k
      rw [obsR_keep (i := 0) (Nat.zero_le _) λj _ _ _=>hrep _ j]
      show (sgs 0).obs[k]? = _
      rw [e2]
    have e4 : lnsL (headA ops m).size sgs eff (Array.replicate (headA ops m).size false) = λk=>s.lns[k]? := by
      unfold lnsL
      rw [if_neg]
      · rw [← e2]; rfl
      · intro hl
        rw [List.any_eq_true] at hl
        obtain ⟨j,_,hl⟩ := hl
        rw [hrep] at hl; cases hl
    rw [e3,e4]
    exact hH.kept ((Kp.refl w).drew)
  · have : cfL (headA ops m) frs res (Array.replicate (headA ops m).size false) = fr := by
      rw [← e1]
      apply List.ext_getElem?
      intro t
      have hl1 := cf_len (headA ops m) frs res (Array.replicate (headA ops m).size false)
      rcases Nat.lt_or_ge t (frs 0).length with z | z
      · have a1 : (cfL (headA ops m) frs res (Array.replicate (headA ops m).size false))[t]? = some ((cfL (headA ops m) frs res (Array.replicate (headA ops m).size false)).getD t .undef) := by
          rw [List.getD_eq_getElem?_getD,List.getElem?_eq_getElem (by omega)]; rfl
        have a2 : (frs 0)[t]? = some ((frs 0).getD t .undef) := by
          rw [List.getD_eq_getElem?_getD,List.getElem?_eq_getElem z]; rfl
        rw [a1,a2,cf_getD]
        unfold valAt
        rw [lw_cut 0 (headA ops m).size (Nat.zero_le _) (λj _ _ _=>hrep _ j)]
        rfl
      · rw [List.getElem?_eq_none (by omega),List.getElem?_eq_none z]
    rw [this]; exact hfr
def atF (F1 : Fr) (S1 : Sg) (fr : Fr) (s : Sg) : Prop := fr = F1 ∧ s = S1
theorem SWs.regionA {P : Program} {g : Pg P} {id : Nat} {ops : Array Oper} {fr : Fr} {s : Sg} {Q : SQ} (m : Nat) (L : List (Tmp × Tmp)) (F1 : Fr) (S1 : Sg) (hL : (tailW ops m,headOk ops m,drawOk (headA ops m),seps (headA ops m)) = (true,true,true,L))
  (h : regS g true ops (ops.toList.take m) fr s (λfr' s'=>sepL L fr' = true ∧ regA g ops (atF F1 S1) (full ops.size m) fr' s')) (h2 : Q .normal F1 S1) : SWs g (.region id ops true) Q fr s := by
 injection hL with ht hL
 injection hL with hh hL
 injection hL with hd hL
 refine λ_ w0 G0 G a w h0 hH hfr hdf=>region_tailA (K := atF F1 S1) m ht hh hd (by rw [hL]; exact regS_head hh _ _ _ (λo ho=>ho) h) (λ_ _ q=>?_) h0 hH hfr hdf
 obtain ⟨G',fr',s',q1,q2,q3,q4,rfl,rfl⟩ := q
 exact ⟨G',_,_,q1,q2,q3,q4,h2⟩
end Go.Proofs.YtjamgiobipdfhaaGreatDoor
