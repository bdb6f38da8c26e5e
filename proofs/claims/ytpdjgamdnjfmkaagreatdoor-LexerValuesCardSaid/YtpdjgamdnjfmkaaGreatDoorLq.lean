import Derived.Test.YtpdjgamdnjfmkaaGreatDoorPz
namespace Go.Proofs.YtpdjgamdnjfmkaaGreatDoor
open Go.RowKit
theorem euclid_half {x y : Nat} (h : y ≤ x) (hy : 0 < y) : 2 * (y * (x % y)) ≤ x * y := by
 have h1 := Nat.mod_lt x hy
 have h2 : 2 * (x % y) ≤ x := by
  have := Nat.div_add_mod x y
  have h3 : 1 ≤ x / y := (Nat.le_div_iff_mul_le hy).2 (by omega)
  have h4 : y * 1 ≤ y * (x / y) := Nat.mul_le_mul (Nat.le_refl _) h3
  omega
 calc 2 * (y * (x % y)) = (2 * (x % y)) * y := by grind
  _ ≤ x * y := Nat.mul_le_mul h2 (Nat.le_refl _)
theorem den_pos (a : Rat) : 0 < (a.den : Int) := by have := a.den_pos; omega
theorem divInt_parts {n d : Int} (h : 0 < d) : (Rat.divInt n d).num = n / (Int.gcd n d : Int) ∧ ((Rat.divInt n d).den : Int) = d / (Int.gcd n d : Int) := by
 constructor
 ·rw [Rat.num_divInt, Int.sign_eq_one_of_pos h, Int.one_mul, Int.gcd_comm]
 ·rw [Rat.den_divInt, if_neg (by omega), Int.gcd_comm, Int.natCast_ediv, Int.natAbs_of_nonneg (by omega)]
theorem divInt_neg2 (n d : Int) : Rat.divInt (-n) (-d) = Rat.divInt n d := Rat.neg_divInt_neg n d
theorem mkRat_divInt (n : Int) (d : Nat) : mkRat n d = Rat.divInt n (d : Int) := (Rat.divInt_ofNat n d).symm
theorem add_divInt (a b : Rat) : Rat.divInt (a.num * b.den + b.num * a.den) ((a.den : Int) * b.den) = a + b := by
 rw [Rat.add_def', mkRat_divInt, Int.natCast_mul]
theorem mul_divInt (a b : Rat) : Rat.divInt (a.num * b.num) ((a.den : Int) * b.den) = a * b := by
 rw [Rat.mul_def', mkRat_divInt, Int.natCast_mul]
theorem div_divInt (a b : Rat) : Rat.divInt (a.num * b.den) ((a.den : Int) * b.num) = a / b := by
 rw [Rat.div_def, Rat.inv_def, ← Rat.divInt_mul_divInt, Rat.num_divInt_den]
theorem rat_ext {a b : Rat} (h : a.num = b.num) (h2 : (a.den : Int) = b.den) : a = b := Rat.ext h (by omega)
theorem gcd_dvd_div {n d : Int} (h : d ≠ 0) : 0 < (Int.gcd n d : Int) := by
 have := Int.gcd_pos_of_ne_zero_right n h
 omega
end Go.Proofs.YtpdjgamdnjfmkaaGreatDoor
