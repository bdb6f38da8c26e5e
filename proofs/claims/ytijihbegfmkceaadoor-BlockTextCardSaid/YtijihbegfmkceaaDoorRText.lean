/-
  BlockText: what its mirror computes is true.
-/
import Derived.Test.YtijihbegfmkceaaDoorBe
import Derived.Test.YtijihbegfmkceaaDoorMLBlockText
namespace Go.Proofs.YtijihbegfmkceaaDoor
open Go.RowKit
set_option linter.unusedVariables false
set_option linter.unusedSimpArgs false

theorem txt_len (n : Int) (h1 : -9223372036854775808 ≤ n) (h2 : n ≤ 9223372036854775807) : (txtV n).length ≤ 100 := by
  unfold txtV txtU
  have hl := dd_len (n.natAbs / 1000) (by omega)
  have hf := fr3_len (d3 (n.natAbs % 1000)).1 (d3 (n.natAbs % 1000)).2.1 (d3 (n.natAbs % 1000)).2.2
  have hf' : (frac (n.natAbs % 1000)).length ≤ 3 := hf
  rw [List.length_append, List.length_append]
  have e1 : (if n < 0 then ([45] : List UInt8) else []).length ≤ 1 := by split <;> simp
  have e2 : (if n.natAbs % 1000 = 0 then [] else 46 :: frac (n.natAbs % 1000)).length ≤ 4 := by split <;> simp; omega
  omega
theorem in_i64 {n : Int} (h : inInt .i64 n) : -9223372036854775808 ≤ n ∧ n ≤ 9223372036854775807 := by
  simp [inInt, Lit.wf, IntKind.min, IntKind.max, IntKind.signed, IntKind.bits] at h
  omega
theorem blockText_plain (n : Int) (hn : (inInt .i64) n) : l41_BlockText n = some true := by
  obtain ⟨h1, h2⟩ := in_i64 hn
  unfold l41_BlockText
  have hl := txt_len n h1 h2
  rw [awake41, bindO_s, bk_Text_eq n h1 h2, bindO_s, bk_Value_eq _ (by omega), bindO_s, r41_Text_eq n h1 h2, val_txt]
  by_cases hb : n.natAbs > 1000000000000
  · rw [if_pos hb]
    have : (decide (n > 1000000000000) || decide (n < -1000000000000)) = true := by
      simp only [Bool.or_eq_true, decide_eq_true_eq]; omega
    rw [this]
    simp
  · rw [if_neg hb]
    have : (decide (n > 1000000000000) || decide (n < -1000000000000)) = false := by
      simp only [Bool.or_eq_false_iff, decide_eq_false_iff_not]; omega
    rw [this]
    simp
end Go.Proofs.YtijihbegfmkceaaDoor
