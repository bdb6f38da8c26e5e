/-
  Ixa, Lq, Ixb, Ixc in one text.
-/
import Derived.Test.YthljcnchaopncaaGreatDoorLmi
import Derived.Test.YthljcnchaopncaaGreatDoorPz
namespace Go.Proofs.YthljcnchaopncaaGreatDoor
open Go.RowKit
set_option linter.unusedVariables false
set_option linter.unusedSimpArgs false
theorem wrap_i64 {n : Int} (h : -9223372036854775808 ≤ n) (h2 : n ≤ 9223372036854775807) : IntKind.i64.wrap n = n := IntWalk.i64_in _ ⟨h,by omega⟩
theorem gt_k {α : Type} {l : List α} {k : Nat} {x : α} (h : l[k]? = some x) : gt l (k : Int) = some x := by
 unfold gt
 have hl := getElem_lt h
 rw [if_neg (by omega)]
 simpa using h
end Go.Proofs.YthljcnchaopncaaGreatDoor
namespace Go.Proofs.YthljcnchaopncaaGreatDoor
open Go.RowKit
set_option linter.unusedVariables false
set_option linter.unusedSimpArgs false
theorem tmd {a b : Int} (h : 0 ≤ a) : Int.tmod a b = a % b := Int.tmod_eq_emod_of_nonneg h
def sg (z : Int) : Int := if z < 0 then -1 else if 0 < z then 1 else 0
end Go.Proofs.YthljcnchaopncaaGreatDoor
namespace Go.Proofs.YthljcnchaopncaaGreatDoor
open Go.RowKit
set_option linter.unusedVariables false
set_option linter.unusedSimpArgs false
end Go.Proofs.YthljcnchaopncaaGreatDoor
namespace Go.Proofs.YthljcnchaopncaaGreatDoor
open Go.RowKit
theorem den_pos (a : Rat) : 0 < (a.den : Int) := by have := a.den_pos; omega
theorem divInt_parts {n d : Int} (h : 0 < d) : (Rat.divInt n d).num = n / (Int.gcd n d : Int) ∧ ((Rat.divInt n d).den : Int) = d / (Int.gcd n d : Int) := by
 constructor
 ·rw [Rat.num_divInt,Int.sign_eq_one_of_pos h,Int.one_mul,Int.gcd_comm]
 ·rw [Rat.den_divInt,if_neg (by omega),Int.gcd_comm,Int.natCast_ediv,Int.natAbs_of_nonneg (by omega)]
theorem divInt_neg2 (n d : Int) : Rat.divInt (-n) (-d) = Rat.divInt n d := Rat.neg_divInt_neg n d
theorem mkRat_divInt (n : Int) (d : Nat) : mkRat n d = Rat.divInt n (d : Int) := (Rat.divInt_ofNat n d).symm
theorem add_divInt (a b : Rat) : Rat.divInt (a.num * b.den + b.num * a.den) ((a.den : Int) * b.den) = a + b := by
 rw [Rat.add_def',mkRat_divInt,Int.natCast_mul]
theorem mul_divInt (a b : Rat) : Rat.divInt (a.num * b.num) ((a.den : Int) * b.den) = a * b := by
 rw [Rat.mul_def',mkRat_divInt,Int.natCast_mul]
theorem gcd_dvd_div {n d : Int} (h : d ≠ 0) : 0 < (Int.gcd n d : Int) := by
 have := Int.gcd_pos_of_ne_zero_right n h
 omega
end Go.Proofs.YthljcnchaopncaaGreatDoor
namespace Go.Proofs.YthljcnchaopncaaGreatDoor
open Go.RowKit
set_option linter.unusedVariables false
set_option linter.unusedSimpArgs false
end Go.Proofs.YthljcnchaopncaaGreatDoor
namespace Go.Proofs.YthljcnchaopncaaGreatDoor
open Go.RowKit
set_option linter.unusedVariables false
set_option linter.unusedSimpArgs false
def Bd (n : Nat) (z : Int) : Prop := (z.natAbs : Int) < pw n
theorem Bd.mono {n m : Nat} {z : Int} (h : Bd n z) (hm : n ≤ m) : Bd m z := Int.lt_of_lt_of_le h (pw_mono hm)
theorem Bd.len {n : Nat} {z : Int} (h : Bd n z) : (ofI z).Limbs.length ≤ n := ofI_len h
theorem Bd.neg {n : Nat} {z : Int} (h : Bd n z) : Bd n (-z) := by unfold Bd at *; rw [Int.natAbs_neg]; exact h
theorem Bd.le {n : Nat} {a b : Int} (h : Bd n b) (hb : a.natAbs ≤ b.natAbs) : Bd n a := by unfold Bd at *; omega
theorem Bd.add {n m : Nat} {a b : Int} (ha : Bd n a) (hb : Bd m b) : Bd (max n m + 1) (a + b) := by
 have h1 : Bd (max n m) a := ha.mono (Nat.le_max_left _ _)
 have h2 : Bd (max n m) b := hb.mono (Nat.le_max_right _ _)
 unfold Bd at *
 rw [pw_succ]
 omega
theorem Bd.mul {n m : Nat} {a b : Int} (ha : Bd n a) (hb : Bd m b) : Bd (n + m) (a * b) := by
 unfold Bd at *
 rw [Int.natAbs_mul,pw_add,Int.natCast_mul]
 have h1 : (a.natAbs : Int) * b.natAbs ≤ pw n * b.natAbs := Int.mul_le_mul_of_nonneg_right (Int.le_of_lt ha) (by omega)
 have h2 : pw n * (b.natAbs : Int) < pw n * pw m := Int.mul_lt_mul_of_pos_left hb (pw_pos n)
 omega
theorem Bd.i64 {z : Int} (h : -9223372036854775808 ≤ z) (h2 : z ≤ 9223372036854775807) : Bd 3 z := by unfold Bd; simp only [pw]; omega
theorem Bd.ediv {n : Nat} {a b : Int} (ha : Bd n a) (hb : 0 < b) : Bd n (a / b) := by
 refine ha.le ?_
 rcases Int.le_total 0 a with h | h
 ·have h1 := Int.ediv_nonneg h (Int.le_of_lt hb)
  have h2 := Int.ediv_le_self b h
  omega
 ·have h1 : a ≤ a / b := by
   rw [Int.le_ediv_iff_mul_le hb]
   have := Int.mul_le_mul_of_nonneg_left (show 1 ≤ b by omega) (show 0 ≤ -a by omega)
   rw [Int.neg_mul,Int.neg_mul] at this
   omega
  have h2 : a / b ≤ 0 := by
   rcases Int.lt_or_le 0 (a / b) with z | z
   ·have := (Int.le_ediv_iff_mul_le (a := 1) (b := a) hb).1 (by omega)
    omega
   ·exact z
  omega
theorem Bd.toNat {n : Nat} {a : Nat} (h : Bd n (a : Int)) : (a : Int) < pw n := by unfold Bd at h; omega
end Go.Proofs.YthljcnchaopncaaGreatDoor
namespace Go.Proofs.YthljcnchaopncaaGreatDoor
open Go.RowKit
set_option linter.unusedVariables false
set_option linter.unusedSimpArgs false
theorem Bd.gcd {n : Nat} {a b : Int} (hb : Bd n b) (h0 : b ≠ 0) : Bd n ((Int.gcd a b : Nat) : Int) := by
 refine hb.le ?_
 have := Nat.gcd_le_right a.natAbs (show 0 < b.natAbs by omega)
 unfold Int.gcd
 rw [Int.natAbs_natCast]; exact this
end Go.Proofs.YthljcnchaopncaaGreatDoor
namespace Go.Proofs.YthljcnchaopncaaGreatDoor
open Go.RowKit
set_option linter.unusedVariables false
set_option linter.unusedSimpArgs false
end Go.Proofs.YthljcnchaopncaaGreatDoor
namespace Go.Proofs.YthljcnchaopncaaGreatDoor
open Go.RowKit
set_option linter.unusedVariables false
set_option linter.unusedSimpArgs false
end Go.Proofs.YthljcnchaopncaaGreatDoor
namespace Go.Proofs.YthljcnchaopncaaGreatDoor
open Go.RowKit
set_option linter.unusedVariables false
set_option linter.unusedSimpArgs false
end Go.Proofs.YthljcnchaopncaaGreatDoor
