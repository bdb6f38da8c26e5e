import Derived.Test.YtipefnighcdgnaaGreatDoorJy
namespace Go.Proofs.YtipefnighcdgnaaGreatDoor
open Go.RowKit
set_option linter.unusedVariables false
set_option linter.unusedSimpArgs false
theorem rep_zero {k : Nat} (h : k ≤ 64) : strings_Repeat [48] (k : Int) = some (zer k) := by
 have key : ∀ k, k < 65 → strings_Repeat [48] ((k : Nat) : Int) = some (zer k) := of_decide_eq_true (by kernel_rfl)
 exact key k (by omega)
theorem zer_len (k : Nat) : (zer k).length = k := by simp [zer]
theorem num_zer : ∀ k, num (zer k) = 0
 | 0 => rfl
 | k + 1 => by
  have := num_zer k
  show num (zer (k + 1)) = 0
  have e : zer (k + 1) = zer k ++ [48] := by unfold zer; rw [List.replicate_succ']
  rw [e, num_snoc, this]; rfl
theorem lenS (neg : Bool) : (if neg = true then ([45] : List UInt8) else []).length ≤ 1 := by cases neg <;> simp
theorem q10 (n : Nat) (h : n < 4294967296) : IntKind.u32.wrap (Int.tdiv (n : Int) 10) = ((n / 10 : Nat) : Int) := by
 rw [tdv (by omega), wU32 (by omega) (by omega)]; omega
end Go.Proofs.YtipefnighcdgnaaGreatDoor
