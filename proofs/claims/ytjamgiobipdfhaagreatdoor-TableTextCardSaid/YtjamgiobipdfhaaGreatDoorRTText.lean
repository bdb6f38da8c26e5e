import Derived.Test.YtjamgiobipdfhaaGreatDoorYw
import Derived.Test.YtjamgiobipdfhaaGreatDoorMLTableText
namespace Go.Proofs.YtjamgiobipdfhaaGreatDoor
open Go.RowKit
theorem tableText_plain (t : R45Table) (_ : inR45Table t) : l45_TableText t = some true := by
  unfold l45_TableText
  rw [awake45,bindO_s,if_pos rfl,bindO_s]
  cases hb : decide ((t.Lengths.length : Int) > 40) with
  | true=>rfl
  | false =>
    simp only [Bool.false_eq_true,if_false]
    have hl : t.Lengths.length ≤ 40 := by have : (t.Lengths.length : Int) ≤ 40 := by simpa using hb
                                          omega
    rw [l45_theirs_eq t (by omega),bindO_s]
    rcases formats t (by omega) with ⟨ho,h1,h2⟩ | ⟨_,h1,h2⟩
    · rw [h1,bindO_s,h2,bindO_s,if_neg (by simp),if_neg (by simp),parse_text ho hl,bindO_s]
      dsimp only
      rw [if_pos (by decide),if_pos (by decide),own_theirs t (by omega),bindO_s,same_refl t (by omega)]
      rfl
    · rw [h1,bindO_s,h2,bindO_s]
      rfl
end Go.Proofs.YtjamgiobipdfhaaGreatDoor
