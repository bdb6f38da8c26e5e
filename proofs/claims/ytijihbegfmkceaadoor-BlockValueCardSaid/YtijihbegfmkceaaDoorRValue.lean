/-
  BlockValue: what its mirror computes is true.
-/
import Derived.Test.YtijihbegfmkceaaDoorBh
import Derived.Test.YtijihbegfmkceaaDoorMLBlockValue
namespace Go.Proofs.YtijihbegfmkceaaDoor
open Go.RowKit
set_option linter.unusedVariables false
set_option linter.unusedSimpArgs false

theorem val_bound (s : List UInt8) : -1000000000000 ≤ (valV s).1 ∧ (valV s).1 ≤ 1000000000000 := by
  unfold valV valN
  split
  · exact ⟨by decide, by decide⟩
  · split
    · exact ⟨by decide, by decide⟩
    · split
      · exact ⟨by decide, by decide⟩
      · simp only
        split <;> omega
theorem blockValue_plain (s : List UInt8) (_ : inStr s) : l41_BlockValue s = some true := by
  unfold l41_BlockValue
  rw [awake41, bindO_s, if_pos rfl, bindO_s]
  cases hb : decide ((s.length : Int) > 60) with
  | true => rfl
  | false =>
    have hl : (s.length : Int) ≤ 60 := by simpa using hb
    rw [if_neg (by simp), bk_Value_eq s (by omega), bindO_s, r41_Value_eq s (by omega), bindO_s]
    have hbd := val_bound s
    obtain ⟨⟨n, e⟩, hv⟩ : ∃ v, valV s = v := ⟨_, rfl⟩
    rw [hv] at hbd ⊢
    simp only at hbd ⊢
    rw [beq_self_eq_true, if_pos rfl, beq_self_eq_true, if_pos rfl]
    cases he : (e != 0) with
    | true => rfl
    | false =>
      have he0 : e = 0 := by simpa using he
      subst he0
      rw [if_neg (by simp), r41_Text_eq n (by omega) (by omega), bindO_s, txt_val s n hv, beq_self_eq_true]
      rfl
end Go.Proofs.YtijihbegfmkceaaDoor
