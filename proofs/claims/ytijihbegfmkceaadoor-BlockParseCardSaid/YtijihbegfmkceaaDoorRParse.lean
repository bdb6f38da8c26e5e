/-
  BlockParse: what its mirror computes is true.
-/
import Derived.Test.YtijihbegfmkceaaDoorBg
import Derived.Test.YtijihbegfmkceaaDoorMLBlockParse
namespace Go.Proofs.YtijihbegfmkceaaDoor
open Go.RowKit
set_option linter.unusedVariables false
set_option linter.unusedSimpArgs false

theorem blockParse_plain (s : List UInt8) (_ : inStr s) : l41_BlockParse s = some true := by
  unfold l41_BlockParse
  rw [awake41, bindO_s, if_pos rfl, bindO_s]
  cases hb : decide ((s.length : Int) > 400) with
  | true => rfl
  | false =>
    have hl : (s.length : Int) ≤ 400 := by simpa using hb
    obtain ⟨y, hy, rfl⟩ := bk_Parse_tot s (by omega)
    obtain ⟨z, hz, rfl⟩ := r41_Parse_tot s (by omega)
    rw [if_neg (by simp), hy, bindO_s, hz, bindO_s]
    rcases prs_inv s with ⟨a, e, h1, h2⟩ | ⟨b, h1, h2, h3⟩
    · rw [h2]
      unfold badR
      simp only [← equal_same, equal_eq (ApiBlock.mk false [] []) (ApiBlock.mk false [] []) (by simp), bne_self_eq_false, Bool.false_eq_true, if_false, bindO_s, decide_true, Bool.not_true]
      rw [show (e != 0) = true by simpa using h1, if_pos rfl]
    · rw [h1]
      have hwl := h2.1
      simp only [← equal_same, equal_eq b b (by omega), bne_self_eq_false, Bool.false_eq_true, if_false, bindO_s, decide_true, Bool.not_true, bk_Format_ok b h2, h3, beq_self_eq_true, Bool.and_self]
end Go.Proofs.YtijihbegfmkceaaDoor
