/-
  BlockFormat: what its mirror computes is true.
-/
import Derived.Test.YtijihbegfmkceaaDoorBg
import Derived.Test.YtijihbegfmkceaaDoorMLBlockFormat
namespace Go.Proofs.YtijihbegfmkceaaDoor
open Go.RowKit
set_option linter.unusedVariables false
set_option linter.unusedSimpArgs false

theorem bk_Format_bad (b : ApiBlock) (h : bk_Valid b = some 1) : bk_Format b = some ([], 1) := by
  unfold bk_Format
  rw [h, bindO_s]; rfl
theorem r41_Format_bad (b : ApiBlock) (h : r41_Valid b = some 1) : r41_Format b = some ([], 1) := by
  unfold r41_Format
  rw [h, bindO_s]; rfl
theorem fmt_len (b : ApiBlock) (h : validP b) : (fmtV b).length ≤ 2000 := by
  have hpl := parts_len h
  have hjl := jn_len 102 _ hpl
  have hwl := h.1
  have hpn : (b.Words.map wt ++ cmT b.Comment).length ≤ 17 := by
    unfold cmT; rw [List.length_append, List.length_map]; split <;> simp <;> omega
  have hjl2 := Nat.mul_le_mul_right (102 + 1) hpn
  unfold fmtV
  rw [List.length_append]
  have : (if b.Skip = true then ([47] : List UInt8) else []).length ≤ 1 := by split <;> simp
  omega
theorem blockFormat_plain (b : ApiBlock) (_ : inApiBlock b) : l41_BlockFormat b = some true := by
  unfold l41_BlockFormat
  obtain ⟨q, hq, hf⟩ := r41_Few_tot [b] 1 (by omega)
  simp only [awake41, bindO_s, if_true, hq]
  cases q with
  | false => rfl
  | true =>
    obtain ⟨hw, hc⟩ := (hf rfl).2 b (by simp)
    obtain ⟨e, he, hv⟩ := bk_Valid_tot b (by omega) (by omega)
    obtain ⟨e2, he2, hv2⟩ := r41_Valid_tot b (by omega) (by omega)
    rcases hv with ⟨rfl, hv⟩ | ⟨rfl, hv⟩
    · have : e2 = 0 := by rcases hv2 with h | h; exact h.1; exact absurd hv h.2
      subst this
      have hl := fmt_len b hv
      obtain ⟨y, hy, rfl⟩ := bk_Parse_tot (fmtV b) (by omega)
      rw [parse_fmt b hv] at hy
      simp only [Bool.not_true, Bool.false_eq_true, if_false, bk_Format_ok b hv, r41_Format_ok b hv, he, he2, hy, ← equal_same, equal_eq b b (by omega), bindO_s, bne_self_eq_false, beq_self_eq_true, if_true, decide_true]
    · have : e2 = 1 := by rcases hv2 with h | h; exact absurd h.2 hv; exact h.1
      subst this
      simp only [Bool.not_true, Bool.false_eq_true, if_false, bk_Format_bad b he, r41_Format_bad b he2, he, he2, bindO_s, bne_self_eq_false, beq_self_eq_true, if_true]
      rfl
end Go.Proofs.YtijihbegfmkceaaDoor
