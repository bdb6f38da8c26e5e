import Derived.Test.YtipefnighcdgnaaGreatDoorPz
namespace Go.Proofs.YtipefnighcdgnaaGreatDoor
open Go.RowKit
theorem euclid_half {x y : Nat} (h : y ≤ x) (hy : 0 < y) : 2 * (y * (x % y)) ≤ x * y := by
 have h1 := Nat.mod_lt x hy
 have h2 : 2 * (x % y) ≤ x := by
  have := Nat.div_add_mod x y
  have h3 : 1 ≤ x / y := (Nat.le_div_iff_mul_le hy).2 (by omega)
  have h4 : y * 1 ≤ y * (x / y) := Nat.mul_le_mul (Nat.le_refl _) h3
  omega
 calc 2 * (y * (x % y)) = (2 * (x % y)) * y := by grind
  _ ≤ x * y := Nat.mul_le_mul h2 (Nat.le_refl _)
theorem den_pos (a : Rat) : 0 < (a.den : Int) := by have := a.den_pos; omega
theorem mul_den (a : Rat) : a * ((a.den : Int) : Rat) = ((a.num : Int) : Rat) := by
 have h : Rat.divInt a.num a.den = a := Rat.num_divInt_den a
 have h2 : (((a.den : Int)) : Rat) ≠ 0 := by
  have := den_pos a
  intro h; have := Rat.intCast_eq_zero_iff.1 h; omega
 rw [Rat.divInt_eq_div] at h
 conv => lhs; lhs; rw [← h]
 exact Rat.div_mul_cancel h2
theorem divInt_parts {n d : Int} (h : 0 < d) : (Rat.divInt n d).num = n / (Int.gcd n d : Int) ∧ ((Rat.divInt n d).den : Int) = d / (Int.gcd n d : Int) := by
 constructor
 ·rw [Rat.num_divInt, Int.sign_eq_one_of_pos h, Int.one_mul, Int.gcd_comm]
 ·rw [Rat.den_divInt, if_neg (by omega), Int.gcd_comm, Int.natCast_ediv, Int.natAbs_of_nonneg (by omega)]
theorem divInt_neg2 (n d : Int) : Rat.divInt (-n) (-d) = Rat.divInt n d := Rat.neg_divInt_neg n d
theorem mkRat_divInt (n : Int) (d : Nat) : mkRat n d = Rat.divInt n (d : Int) := (Rat.divInt_ofNat n d).symm
theorem add_divInt (a b : Rat) : Rat.divInt (a.num * b.den + b.num * a.den) ((a.den : Int) * b.den) = a + b := by
 rw [Rat.add_def', mkRat_divInt, Int.natCast_mul]
theorem mul_divInt (a b : Rat) : Rat.divInt (a.num * b.num) ((a.den : Int) * b.den) = a * b := by
 rw [Rat.mul_def', mkRat_divInt, Int.natCast_mul]
theorem gcd_dvd_div {n d : Int} (h : d ≠ 0) : 0 < (Int.gcd n d : Int) := by
 have := Int.gcd_pos_of_ne_zero_right n h
 omega
theorem mul_int (q : Rat) (k : Int) : q * (k : Rat) = Rat.divInt (q.num * k) q.den := by
 rw [← mul_divInt]
 show Rat.divInt (q.num * k) ((q.den : Int) * 1) = _
 rw [Int.mul_one]
theorem den_one {q : Rat} {k : Int} : (q * (k : Rat)).den = 1 ↔ (q.den : Int) ∣ k := by
 have hd := den_pos q
 constructor
 ·intro h
  rw [mul_int, Rat.den_divInt, if_neg (by omega)] at h
  have h1 : (q.den : Int).natAbs = Int.gcd (q.den : Int) (q.num * k) := by
   have h2 : Int.gcd (q.den : Int) (q.num * k) ∣ (q.den : Int).natAbs := Int.gcd_dvd_natAbs_left ..
   have h3 := Nat.div_mul_cancel h2
   rw [h] at h3
   omega
  have h2 : (q.den : Int) ∣ q.num * k := by
   have := Int.gcd_dvd_right (q.den : Int) (q.num * k)
   rw [← h1, Int.natAbs_natCast] at this
   exact this
  have h3 : q.den ∣ q.num.natAbs * k.natAbs := by
   have := Int.natAbs_dvd_natAbs.2 h2
   rwa [Int.natAbs_natCast, Int.natAbs_mul] at this
  have h4 := Nat.Coprime.dvd_of_dvd_mul_left (Nat.Coprime.symm q.reduced) h3
  exact Int.natAbs_dvd_natAbs.1 (by rwa [Int.natAbs_natCast])
 ·rintro ⟨c, rfl⟩
  rw [mul_int, show q.num * ((q.den : Int) * c) = (q.den : Int) * (q.num * c) by grind]
  conv => lhs; rw [show (q.den : Int) = (q.den : Int) * 1 by omega]
  rw [show Rat.divInt ((q.den : Int) * 1 * (q.num * c)) ((q.den : Int) * 1) = Rat.divInt ((q.den : Int) * (q.num * c)) ((q.den : Int) * 1) by rw [Int.mul_one]]
  rw [Rat.divInt_mul_left (by omega)]
  exact congrArg Rat.den (Rat.num_divInt_den ((q.num * c : Int) : Rat))
end Go.Proofs.YtipefnighcdgnaaGreatDoor
