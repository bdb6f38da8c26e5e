/-
  BlockPrint: what its mirror computes is true.
-/
import Derived.Test.YtijihbegfmkceaaGreatDoorBp
import Derived.Test.YtijihbegfmkceaaGreatDoorMLBlockPrint
namespace Go.Proofs.YtijihbegfmkceaaGreatDoor
open Go.RowKit
set_option linter.unusedVariables false
set_option linter.unusedSimpArgs false

theorem fmt_bad (b : ApiBlock) (h : bk_Valid b = some 1) : bk_Format b = some ([], 1) := by
  unfold bk_Format
  rw [h, bindO_s]; rfl
theorem fmt_bad2 (b : ApiBlock) (h : r41_Valid b = some 1) : r41_Format b = some ([], 1) := by
  unfold r41_Format
  rw [h, bindO_s]; rfl
theorem fmt_len (b : ApiBlock) (h : validP b) : (fmtV b).length ≤ 2000 := by
  have hpl := parts_len h
  have hjl := jn_len 102 _ hpl
  have hwl := h.1
  have hpn : (b.Words.map wt ++ cmT b.Comment).length ≤ 17 := by
    unfold cmT; rw [List.length_append, List.length_map]; split <;> simp <;> omega
  have hjl2 := Nat.mul_le_mul_right (102 + 1) hpn
  unfold fmtV
  rw [List.length_append]
  have : (if b.Skip = true then ([47] : List UInt8) else []).length ≤ 1 := by split <;> simp
  omega
def prtO (l : List ApiBlock) (r : List UInt8 × Int) : Prop := (r = (prt l, 0) ∧ ∀ b ∈ l, validP b) ∨ (r = ([], 1) ∧ ¬ ∀ b ∈ l, validP b)
theorem prt_snoc (l : List ApiBlock) (i : Nat) (x : ApiBlock) (h : l[i]? = some x) : prt (l.take (i + 1)) = (prt (l.take i) ++ fmtV x) ++ [10] := by
  have hlt := getElem_lt h
  rw [List.take_add_one, h]
  simp [prt]
theorem print_tot (l : List ApiBlock) (hl : fewP l 20) : Tot (bk_Print l) (prtO l) := by
  unfold bk_Print
  have h1 := hl.1
  refine Tot.bindX (E := fun v : List UInt8 => v = prt l ∧ ∀ b ∈ l, validP b) (TotX.of (Tot.mono (E := fun x => match x with | .ret e => prtO l e | .go v => v = prt l ∧ ∀ b ∈ l, validP b) ?_ (fun x h => by cases x <;> exact h))) (fun v hv => .ok (.inl ⟨by rw [hv.1], hv.2⟩))
  refine Tot.guard (okIdx_of (by omega)) (Tot.range (fun i v => v = prt (l.take i) ∧ v.length ≤ i * 2001 ∧ ∀ (k : Nat) b, k < i → l[k]? = some b → validP b) _ ⟨by simp [prt], by simp, fun k b q => by omega⟩ (fun i x v hx hr => ?_) (fun v hr => .ok ⟨by rw [hr.1, List.take_length], fun b hb => ?_⟩))
  · obtain ⟨hv, hvl, hk⟩ := hr
    have hlt := getElem_lt hx
    obtain ⟨hw, hc⟩ := hl.2 x (List.mem_of_getElem? hx)
    obtain ⟨e, he, hval⟩ := bk_Valid_tot x (by omega) (by omega)
    rcases hval with ⟨rfl, hval⟩ | ⟨rfl, hval⟩
    · have hfl := fmt_len x hval
      have hvl2 : v.length ≤ 20 * 2001 := Nat.le_trans hvl (Nat.mul_le_mul_right _ (by omega))
      rw [bk_Format_ok x hval, bindO_s, if_neg (by simp), okLen_of (by simp only; omega), guardO_t, okLen_of (by simp only [List.length_append]; omega), guardO_t]
      refine .go ⟨by rw [prt_snoc l i x hx, hv], ?_, fun k b hki hkb => ?_⟩
      · simp only [List.length_append, List.length_cons, List.length_nil, Nat.add_mul]; omega
      · rcases Nat.lt_or_ge k i with q | q
        · exact hk k b q hkb
        · obtain rfl : k = i := by omega
          rw [hx] at hkb; injection hkb with hkb; subst hkb; exact hval
    · rw [fmt_bad x he, bindO_s]
      exact .ret (.inr ⟨rfl, fun q => hval (q x (List.mem_of_getElem? hx))⟩)
  · obtain ⟨k, hk⟩ := List.mem_iff_getElem?.1 hb
    exact hr.2.2 k b (getElem_lt hk) hk
theorem print_tot2 (l : List ApiBlock) (hl : fewP l 20) : Tot (r41_Print l) (prtO l) := by
  unfold r41_Print
  have h1 := hl.1
  refine Tot.bindX (E := fun v : List UInt8 => v = prt l ∧ ∀ b ∈ l, validP b) (TotX.of (Tot.mono (E := fun x => match x with | .ret e => prtO l e | .go v => v = prt l ∧ ∀ b ∈ l, validP b) ?_ (fun x h => by cases x <;> exact h))) (fun v hv => .ok (.inl ⟨by rw [hv.1], hv.2⟩))
  refine Tot.guard (okIdx_of (by omega)) (Tot.range (fun i v => v = prt (l.take i) ∧ v.length ≤ i * 2001 ∧ ∀ (k : Nat) b, k < i → l[k]? = some b → validP b) _ ⟨by simp [prt], by simp, fun k b q => by omega⟩ (fun i x v hx hr => ?_) (fun v hr => .ok ⟨by rw [hr.1, List.take_length], fun b hb => ?_⟩))
  · obtain ⟨hv, hvl, hk⟩ := hr
    have hlt := getElem_lt hx
    obtain ⟨hw, hc⟩ := hl.2 x (List.mem_of_getElem? hx)
    obtain ⟨e, he, hval⟩ := r41_Valid_tot x (by omega) (by omega)
    rcases hval with ⟨rfl, hval⟩ | ⟨rfl, hval⟩
    · have hfl := fmt_len x hval
      have hvl2 : v.length ≤ 20 * 2001 := Nat.le_trans hvl (Nat.mul_le_mul_right _ (by omega))
      rw [r41_Format_ok x hval, bindO_s, if_neg (by simp), okStr_of (by simp only; omega), guardO_t, okStr_of (by simp only [List.length_append, List.length_cons, List.length_nil]; omega), guardO_t]
      refine .go ⟨by rw [prt_snoc l i x hx, hv], ?_, fun k b hki hkb => ?_⟩
      · simp only [List.length_append, List.length_cons, List.length_nil, Nat.add_mul]; omega
      · rcases Nat.lt_or_ge k i with q | q
        · exact hk k b q hkb
        · obtain rfl : k = i := by omega
          rw [hx] at hkb; injection hkb with hkb; subst hkb; exact hval
    · rw [fmt_bad2 x he, bindO_s]
      exact .ret (.inr ⟨rfl, fun q => hval (q x (List.mem_of_getElem? hx))⟩)
  · obtain ⟨k, hk⟩ := List.mem_iff_getElem?.1 hb
    exact hr.2.2 k b (getElem_lt hk) hk
theorem blockPrint_plain (l : List ApiBlock) (_ : (inList inApiBlock) l) : l41_BlockPrint l = some true := by
  unfold l41_BlockPrint
  obtain ⟨q, hq, hf⟩ := r41_Few_tot l 20 (by omega)
  simp only [awake41, bindO_s, if_true, hq]
  cases q with
  | false => rfl
  | true =>
    have hl := hf rfl
    have h1 := hl.1
    obtain ⟨y, hy, hy2⟩ := print_tot l hl
    obtain ⟨z, hz, hz2⟩ := print_tot2 l hl
    simp only [Bool.not_true, Bool.false_eq_true, if_false, hy, hz, bindO_s]
    rcases hy2 with ⟨rfl, hv⟩ | ⟨rfl, hv⟩
    · have : z = (prt l, 0) := by rcases hz2 with h | h; exact h.1; exact absurd hv h.2
      subst this
      have hpl := prt_len l (fun b hb => fmt_len b (hv b hb))
      have hcp := count_prt l hv
      have hlen : l.length * 2001 ≤ 20 * 2001 := Nat.mul_le_mul_right _ (by omega)
      obtain ⟨w, hw, rfl⟩ := bk_Program_tot (prt l) (by omega) (by rw [hcp]; omega)
      have hge : l.length < (prt l).length + 1 := by
        have : ∀ m : List ApiBlock, m.length ≤ (prt m).length := by
          intro m
          induction m with
          | nil => simp
          | cons b m ih =>
            have hp : prt (b :: m) = (fmtV b ++ [10]) ++ prt m := by simp [prt]
            rw [hp, List.length_append, List.length_append, List.length_cons, List.length_cons, List.length_nil]
            omega
        have := this l
        omega
      rw [pgV_prt l _ [] hv hge] at hw
      simp only [beq_self_eq_true, Bool.not_true, bne_self_eq_false, Bool.or_self, Bool.false_eq_true, if_false, hw, bindO_s, if_true, List.nil_append]
      rw [same_refl l (by omega) (fun b hb => by have := (hl.2 b hb).1; omega)]
      rfl
    · have : z = ([], 1) := by rcases hz2 with h | h; exact absurd h.2 hv; exact h.1
      subst this
      obtain ⟨w, hw, _⟩ := bk_Program_tot [] (by simp) (by decide)
      simp only [beq_self_eq_true, Bool.not_true, bne_self_eq_false, Bool.or_self, Bool.false_eq_true, if_false, hw, bindO_s]
      rfl
end Go.Proofs.YtijihbegfmkceaaGreatDoor
