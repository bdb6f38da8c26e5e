/-
  Step of the interpreter: it ends; its motions are connected, in range, and have a length.
-/
import Derived.Test.YtlcfgpjgjdjpoaaDoorQb
namespace Go.Proofs.YtlcfgpjgjdjpoaaDoor
open Go.RowKit

theorem cy_Expand_tot (c : CycleCycle) (p : ApiPos) (l : List ApiGrid2) (hl : l.length ≤ 100) : Tot (cy_Expand c p l) (fun r => r.1.length ≤ 300000) := by
  unfold cy_Expand
  refine Tot.bind (cy_Depths_tot c) fun ds hd => Tot.ite (fun _ => .ok (by simp)) (fun _ => ?_)
  refine Tot.bind (E := fun _ => True) (Tot.bind (E := fun _ => True) (.ok trivial) fun _ _ => Tot.ite (fun _ => .ok trivial) (fun _ => Tot.bind (E := fun _ => True) (.ok trivial) fun _ _ => Tot.ite (fun _ => .ok trivial) (fun _ => Tot.bind (E := fun _ => True) (.ok trivial) fun _ _ => .ok trivial))) fun b _ => ?_
  refine Tot.bind (E := fun _ => True) (Tot.guard (okIdx_of (by omega)) (Tot.range (fun _ _ => True) _ trivial (fun i x v _ _ => TotX.bind (E := fun _ => True) (Tot.ite (fun _ => .ok trivial) (fun _ => Tot.bind (E := fun _ => True) (.ok trivial) fun _ _ => Tot.ite (fun _ => .ok trivial) (fun _ => Tot.bind (E := fun _ => True) (.ok trivial) fun _ _ => .ok trivial))) fun _ _ => .go trivial) (fun v _ => .ok trivial))) fun far _ => Tot.ite (fun _ => .ok (by simp)) (fun _ => ?_)
  refine Tot.bindX (E := fun v : ApiPos × List ApiMove => v.2.length ≤ 300000) (TotX.guard (okIdx_of (by omega)) (TotX.of (Tot.range (fun i v => v.2.length ≤ i * 3000) _ (by simp) (fun i x v hx hr => ?_) (fun v hv => .ok (by simp only; omega))))) (fun v hv => .ok hv)
  have hi := getElem_lt hx
  have e1 : (i + 1) * 3000 = i * 3000 + 3000 := by omega
  have e2 : i * 3000 ≤ 297000 := by omega
  rw [e1]
  generalize i * 3000 = B at hr e2
  refine TotX.bindX (E := fun v : ApiPos × List ApiMove => v.2.length ≤ B + 3000) (TotX.of ?_) (fun v hv => .go hv)
  refine Tot.bind (E := fun u : Int × List ApiMove => u.2.length ≤ B + 1) (Tot.ite (fun _ => Tot.bind (E := fun u : Int × List ApiMove => u.2.length ≤ B + 1) (Tot.ite (fun _ => Tot.guard (okLen_of (by omega)) (.ok (by simp; omega))) (fun _ => .ok (by simp only; omega))) fun u hu => .ok hu) (fun _ => .ok (by simp only; omega))) fun u1 h1 => ?_
  refine Tot.bind (E := fun u : ApiPos × List ApiMove => u.2.length ≤ B + 2) (Tot.ite (fun _ => Tot.guard (okLen_of (by omega)) (.ok (by simp; omega))) (fun _ => .ok (by simp only; omega))) fun u2 h2 => ?_
  refine Tot.bind (E := fun u : ApiPos × List ApiMove => u.2.length ≤ B + 3) (Tot.ite (fun _ => Tot.guard (okLen_of (by omega)) (.ok (by simp; omega))) (fun _ => .ok (by simp only; omega))) fun u3 h3 => ?_
  refine Tot.bind (E := fun u : ApiPos × List ApiMove => u.2.length ≤ B + 2010) (Tot.guard (okIdx_of (by omega)) (Tot.range (fun j v => v.2.length ≤ B + 3 + 2 * j) _ (by simpa using h3) (fun j z w hz hw => ?_) (fun v hv => .ok (by simp only; omega)))) fun u4 h4 => ?_
  · have hj := getElem_lt hz
    refine TotX.bind (E := fun u : ApiPos × List ApiMove => u.2.length ≤ B + 3 + 2 * j + 1) (Tot.ite (fun _ => Tot.guard (okLen_of (by omega)) (.ok (by simp; omega))) (fun _ => .ok (by simp only; omega))) fun a ha => TotX.bind (E := fun u : ApiPos × List ApiMove => u.2.length ≤ B + 3 + 2 * j + 2) (Tot.ite (fun _ => Tot.guard (okLen_of (by omega)) (.ok (by simp; omega))) (fun _ => .ok (by simp only; omega))) fun b hb => .go (by simp only; omega)
  · refine Tot.bind (E := fun u : ApiPos × List ApiMove => u.2.length ≤ B + 2011) (Tot.ite (fun _ => Tot.bind (E := fun u : ApiPos × List ApiMove => u.2.length ≤ B + 2011) (Tot.ite (fun _ => Tot.guard (okLen_of (by omega)) (.ok (by simp; omega))) (fun _ => .ok (by simp only; omega))) fun u hu => .ok hu) (fun _ => .ok (by simp only; omega))) fun u5 h5 => Tot.ite (fun _ => .ok (by simp)) (fun _ => .ok (by simp only; omega))
theorem cy_Read_tot (b : ApiBlock) (k f i : Int) (h : Bool) (c : CycleCycle) (hl : b.Words.length ≤ 1000) : Tot (cy_Read b k f i h c) (fun _ => True) := by
  unfold cy_Read
  refine Tot.bind (cy_Read_c1_tot _ _ _ hl) fun _ _ => Tot.bind (cy_Read_c1_tot _ _ _ hl) fun _ _ => Tot.bind (cy_Read_c1_tot _ _ _ hl) fun _ _ => Tot.bind (cy_Read_c1_tot _ _ _ hl) fun _ _ => Tot.bind (cy_Valid_tot _) fun _ _ => Tot.ite (fun _ => .ok trivial) (fun _ => .ok trivial)
theorem inp_canned_tot (s : ModalState) (c : CycleCycle) (b : ApiBlock) (p q : ApiPos) (hl : b.Words.length ≤ 1000) : Tot (inp_canned s c b p q) (fun r => r.1.length ≤ 300000) := by
  unfold inp_canned
  refine Tot.bind (E := fun _ => True) (Tot.ite (fun _ => .ok trivial) (fun _ => .ok trivial)) fun i _ => Tot.bind (cy_Read_tot _ _ _ _ _ _ hl) fun r _ => Tot.ite (fun _ => .ok (by simp)) (fun _ => Tot.bind (cy_Expand_tot _ _ _ (by simp)) fun m hm => Tot.ite (fun _ => .ok (by simp)) (fun _ => Tot.bind (E := fun l : List InterpreterReached => l.length ≤ 300000) ?_ fun l hl => .ok hl))
  refine Tot.guard (okIdx_of (by omega)) (Tot.range (fun i v => v.length ≤ i) _ (by simp) (fun i x v hx hr' => ?_) (fun v hv => .ok (by omega)))
  have hlt := getElem_lt hx
  exact TotX.guard (okLen_of (by omega)) (.go (by simp; omega))
theorem inp_target_tot (s : ModalState) (b : ApiBlock) (p : ApiPos) (hl : b.Words.length ≤ 1000) : Tot (inp_target s b p) (fun _ => True) := by
  unfold inp_target
  simp only [bk_Find_eq b _ hl, bindO_s]
  refine Tot.bind (E := fun _ => True) (Tot.bind (E := fun _ => True) (Tot.ite (fun _ => .ok trivial) (fun _ => Tot.ite (fun _ => .ok trivial) (fun _ => .ok trivial))) fun _ _ => Tot.bind (E := fun _ => True) (Tot.ite (fun _ => .ok trivial) (fun _ => Tot.ite (fun _ => .ok trivial) (fun _ => .ok trivial))) fun _ _ => Tot.bind (E := fun _ => True) (Tot.ite (fun _ => .ok trivial) (fun _ => Tot.ite (fun _ => .ok trivial) (fun _ => .ok trivial))) fun _ _ => .ok trivial) fun _ _ => .ok trivial
theorem inp_positions_tot (s : ModalState) (c : CycleCycle) (b : ApiBlock) (p : ApiPos) (hl : b.Words.length ≤ 1000) : Tot (inp_positions s c b p) (fun r => r.1.length ≤ 300000) := by
  unfold inp_positions
  refine Tot.bind (inp_target_tot s ⟨b.Skip, b.Words, b.Comment⟩ p hl) fun q _ => Tot.ite (fun _ => .ok (by simp)) (fun _ => Tot.ite (fun _ => .ok (by simp)) (fun _ => Tot.bind (E := fun _ => True) (.ok trivial) fun y _ => Tot.ite (fun _ => Tot.bind (inp_canned_tot _ _ _ _ _ hl) fun r hr => .ok hr) (fun _ => Tot.bind (inp_arc_tot _ ⟨b.Skip, b.Words, b.Comment⟩ _ _ hl) fun r hr => .ok (by simp only; omega))))

theorem endW_cons (x : ApiMotion) (l : List ApiMotion) (p : ApiPos) : endW p (x :: l) = endW x.To l := by
  cases l with
  | nil => rfl
  | cons y r =>
    unfold endW
    rw [List.getLast?_cons_cons]
    cases h : (y :: r).getLast? with
    | none => simp at h
    | some z => rfl
theorem connW_snoc (l : List ApiMotion) (m : ApiMotion) : ∀ p, connW p (l ++ [m]) = (connW p l && posEq m.From (endW p l)) := by
  induction l with
  | nil => intro p; simp [connW, endW]
  | cons x l ih =>
    intro p
    simp only [List.cons_append, connW, ih]
    rw [endW_cons, Bool.and_assoc]
theorem endW_snoc (l : List ApiMotion) (m : ApiMotion) (p : ApiPos) : endW p (l ++ [m]) = m.To := by simp [endW]
theorem posEq_refl (p : ApiPos) : posEq p p = true := posEq_iff.2 rfl
/-- What holds of a list of motions that begins at a position. -/
def goodM (p : ApiPos) (l : List ApiMotion) : Prop := connW p l = true ∧ (∀ m ∈ l, inR m.From ∧ inR m.To ∧ m.From ≠ m.To) ∧ inR (endW p l)
def okS (b : ApiBlock) : Prop := (∀ w ∈ b.Words, u8W w) ∧ b.Words.length ≤ 1000 ∧ b.Comment.length ≤ 1000
def failW (r : List ApiMotion × ModalState × CycleCycle × Int) : Prop := r.2.2.2 ≠ 0
def stepE (p : ApiPos) (b : ApiBlock) (r : List ApiMotion × ModalState × CycleCycle × Int) : Prop := r.1.length ≤ 300000 ∧ (∀ m ∈ r.1, m.Block = 0) ∧ (r.2.2.2 = 0 → goodM p r.1 ∧ goodW [] b.Words = true)
theorem stepE_fail {p : ApiPos} {b : ApiBlock} {s : ModalState} {c : CycleCycle} {e : Int} (h : e ≠ 0) : stepE p b ([], s, c, e) := ⟨by simp, by simp, fun q => absurd q h⟩
theorem inp_Step_tot (s : ModalState) (c : CycleCycle) (b : ApiBlock) (t : TableTable) (p : ApiPos) (hb : okS b) (ht : t.Lengths.length ≤ 1000) : Tot (inp_Step s c b t p) (stepE p b) := by
  obtain ⟨hu, hl, hc⟩ := hb
  have hok : okB b := ⟨hu, by omega⟩
  unfold inp_Step
  refine Tot.bind (inp_checked_tot t p ht) fun e he => Tot.ite (fun h => .ok (stepE_fail (by simpa using h))) (fun h0 => ?_)
  have hp := he (by simpa using h0)
  refine Tot.bind (E := fun x => x = true ∨ goodW [] b.Words = true) (Tot.bind (bk_Valid_tot b hl hc) fun _ _ => Tot.ite (fun _ => .ok (.inl rfl)) (fun _ => Tot.bind (E := fun x => x = if goodW [] b.Words = true then 0 else 1) (.eq (md_Check_eq b hu (by omega)) rfl) fun x hx => Tot.ite (fun _ => .ok (.inl rfl)) (fun hx0 => Tot.bind (inp_known_tot b hl) fun _ _ => .ok (.inr ?_)))) fun bad hbad => Tot.ite (fun _ => .ok (stepE_fail (by decide))) (fun hbf => ?_)
  · rw [hx] at hx0
    cases hg : goodW [] b.Words with
    | true => rfl
    | false => simp [hg] at hx0
  have hgood := hbad.resolve_left (by simp [hbf])
  refine Tot.bind (E := fun _ => True) (.eq (md_Apply_eq s b hok) trivial) fun r _ => Tot.ite (fun h => .ok (stepE_fail (by simpa using h))) (fun _ => ?_)
  refine Tot.bind (E := fun _ => True) (.ok trivial) fun cy _ => Tot.bind (E := fun _ => True) (Tot.ite (fun _ => .ok trivial) (fun _ => .ok trivial)) fun c2 _ => ?_
  simp only [inp_has_eq b _ hl (show ([88, 89, 90, 73, 74, 81, 82] : List UInt8).length ≤ 1000 by decide), inp_has_eq b _ hl (show ([73, 74] : List UInt8).length ≤ 1000 by decide), inp_has_eq b _ hl (show ([81, 82] : List UInt8).length ≤ 1000 by decide), bindO_s, inp_cycles]
  refine Tot.ite (fun _ => .ok ⟨by simp, by simp, fun _ => ⟨⟨rfl, by simp, hp⟩, hgood⟩⟩) (fun _ => ?_)
  refine Tot.bind (E := fun _ => True) ?_ fun bad _ => Tot.ite (fun _ => .ok (stepE_fail (by decide))) (fun _ => Tot.ite (fun _ => .ok (stepE_fail (by decide))) (fun _ => ?_))
  · repeat' (first | exact .ok trivial | refine Tot.ite (fun _ => ?_) (fun _ => ?_))
  refine Tot.bind (E := fun _ => True) (Tot.ite (fun _ => .ok trivial) (fun _ => .ok trivial)) fun num _ => Tot.bind (tb_Work_tot ⟨t.Work, t.Lengths⟩ _ _ _ ht) fun wp _ => Tot.ite (fun h => .ok (stepE_fail (by simpa using h))) (fun _ => ?_)
  refine Tot.bind (inp_positions_tot _ _ ⟨b.Skip, b.Words, b.Comment⟩ _ hl) fun ps hps => Tot.ite (fun h => .ok (stepE_fail (by simpa using h))) (fun _ => ?_)
  refine Tot.bindX (E := fun v : List ApiMotion × ApiPos => v.1.length ≤ 300000 ∧ (∀ m ∈ v.1, m.Block = 0) ∧ goodM p v.1) (TotX.guard (okIdx_of (by omega)) (TotX.of (Tot.range (fun (i : Nat) (v : List ApiMotion × ApiPos) => v.1.length ≤ i ∧ (∀ m ∈ v.1, m.Block = 0) ∧ goodM p v.1 ∧ v.2 = endW p v.1) _ ⟨by simp, by simp, ⟨rfl, by simp, hp⟩, rfl⟩ (fun i x v hx hr => ?_) (fun v hv => .ok ⟨by have := hv.1; simp only; omega, hv.2.1, hv.2.2.1⟩)))) (fun v hv => .ok ⟨hv.1, hv.2.1, fun _ => ⟨hv.2.2, hgood⟩⟩)
  have hi := getElem_lt hx
  obtain ⟨a1, a2, a3, a4⟩ := hr
  refine TotX.bind (tb_Machine_tot ⟨t.Work, t.Lengths⟩ _ _ _ ht) fun q2 hto => TotX.ite (fun h => .ret (stepE_fail (by simpa using h))) (fun h => ?_)
  have hto' := hto (by simpa using h)
  have hv2 : inR v.2 := a4 ▸ a3.2.2
  refine TotX.bind (E := fun l => l.length ≤ i + 1 ∧ (∀ m ∈ l, m.Block = 0) ∧ goodM p l ∧ q2.1 = endW p l) (Tot.ite (fun hne => Tot.guard (okLen_of (by omega)) (.ok ?_)) (fun heq => .ok ?_)) fun l hl => .go hl
  · have hne' : ¬ (q2.1 = v.2) := by
      intro e
      have : posEq q2.1 v.2 = true := posEq_iff.2 e
      unfold posEq at this
      simp [this] at hne
    refine ⟨by simp; omega, ?_, ⟨?_, ?_, ?_⟩, ?_⟩
    · intro m hm
      rcases List.mem_append.1 hm with q | q
      · exact a2 m q
      · simp at q; subst q; rfl
    · rw [connW_snoc, a3.1, a4]
      exact posEq_refl _
    · intro m hm
      rcases List.mem_append.1 hm with q | q
      · exact a3.2.1 m q
      · simp at q; subst q; exact ⟨hv2, hto', fun e => hne' e.symm⟩
    · rw [endW_snoc]; exact hto'
    · rw [endW_snoc]
  · have he : q2.1 = v.2 := by
      refine posEq_iff.1 ?_
      unfold posEq
      simpa using heq
    exact ⟨by omega, a2, a3, by rw [he]; exact a4⟩

end Go.Proofs.YtlcfgpjgjdjpoaaDoor
