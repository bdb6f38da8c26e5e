import Derived.Test.YtipefnighcdgnaaGreatDoorPz
namespace Go.Proofs.YtipefnighcdgnaaGreatDoor
open Go.RowKit
def isq : Nat → Nat
 | 0 => 0
 | n + 1 => if (isq n + 1) * (isq n + 1) ≤ n + 1 then isq n + 1 else isq n
theorem isq_ok : ∀ n, isq n * isq n ≤ n ∧ n < (isq n + 1) * (isq n + 1)
 | 0 => by simp [isq]
 | n + 1 => by
  obtain ⟨h1, h2⟩ := isq_ok n
  unfold isq
  split
  ·rename_i h
   refine ⟨h, ?_⟩
   generalize isq n = s at *
   grind
  ·rename_i h
   exact ⟨by omega, by omega⟩
theorem sq_lt {a b : Nat} (h : a * a < b * b) : a < b := by
 rcases Nat.lt_or_ge a b with q | q
 ·exact q
 ·have := Nat.mul_le_mul q q; omega
theorem le_isq {n k : Nat} : k ≤ isq n ↔ k * k ≤ n := by
 obtain ⟨h3, h4⟩ := isq_ok n
 constructor
 ·intro h
  exact Nat.le_trans (Nat.mul_le_mul h h) h3
 ·intro h
  have := sq_lt (Nat.lt_of_le_of_lt h h4)
  omega
theorem newton_ge {a x : Nat} (hx : 0 < x) : isq a ≤ (x + a / x) / 2 := by
 obtain ⟨h3, _⟩ := isq_ok a
 generalize isq a = s at *
 -- 2 s ≤ x + a / x
 rcases Nat.lt_or_ge (x + a / x) (2 * s) with q | q
 ·exfalso
  have hd := Nat.div_add_mod a x
  have hm := Nat.mod_lt a hx
  generalize a / x = d at *
  have h1 : a < x * (d + 1) := by rw [Nat.mul_add]; omega
  have h2 : d + 1 ≤ 2 * s - x := by omega
  have h4 : x * (d + 1) ≤ x * (2 * s - x) := Nat.mul_le_mul (Nat.le_refl _) h2
  have h5 : x * (2 * s - x) ≤ s * s := by
   obtain ⟨e, he⟩ : ∃ e, 2 * s = x + e := ⟨2 * s - x, by omega⟩
   rw [he, Nat.add_sub_cancel_left]
   have h6 : 4 * (x * e) ≤ 4 * (s * s) := by
    have : 4 * (s * s) = (2 * s) * (2 * s) := by grind
    rw [this, he]
    rcases Nat.le_total x e with z | z
    ·obtain ⟨k, rfl⟩ := Nat.exists_eq_add_of_le z
     have : (x + (x + k)) * (x + (x + k)) = 4 * (x * (x + k)) + k * k := by grind
     omega
    ·obtain ⟨k, rfl⟩ := Nat.exists_eq_add_of_le z
     have : (e + k + e) * (e + k + e) = 4 * ((e + k) * e) + k * k := by grind
     omega
   omega
  omega
 ·omega
theorem newton_lt {a x : Nat} (hx : isq a < x) : a / x ≤ isq a := by
 obtain ⟨_, h4⟩ := isq_ok a
 generalize isq a = s at *
 apply Nat.le_of_lt_succ
 apply (Nat.div_lt_iff_lt_mul (by omega)).2
 have : (s + 1) * (s + 1) ≤ (s + 1) * x := Nat.mul_le_mul (Nat.le_refl _) hx
 have : s.succ * x = (s + 1) * x := rfl
 omega
theorem newton_stop {a x : Nat} (h : isq a ≤ x) (hs : x ≤ (x + a / x) / 2) : x = isq a := by
 rcases Nat.eq_or_lt_of_le h with q | q
 ·exact q.symm
 ·have := newton_lt q
  omega
theorem newton_half {a x : Nat} (h : isq a ≤ x) (hs : (x + a / x) / 2 < x) : 2 * ((x + a / x) / 2 - isq a) ≤ x - isq a ∧ isq a < x := by
 have q : isq a < x := by
  rcases Nat.eq_or_lt_of_le h with q | q
  ·exfalso
   obtain ⟨h3, _⟩ := isq_ok a
   rw [q] at h3
   rcases Nat.eq_zero_or_pos x with z | z
   ·subst z; omega
   ·have := (Nat.le_div_iff_mul_le z).2 h3
    omega
  ·exact q
 have := newton_lt q
 omega
theorem euclid_half {x y : Nat} (h : y ≤ x) (hy : 0 < y) : 2 * (y * (x % y)) ≤ x * y := by
 have h1 := Nat.mod_lt x hy
 have h2 : 2 * (x % y) ≤ x := by
  have := Nat.div_add_mod x y
  have h3 : 1 ≤ x / y := (Nat.le_div_iff_mul_le hy).2 (by omega)
  have h4 : y * 1 ≤ y * (x / y) := Nat.mul_le_mul (Nat.le_refl _) h3
  omega
 calc 2 * (y * (x % y)) = (2 * (x % y)) * y := by grind
  _ ≤ x * y := Nat.mul_le_mul h2 (Nat.le_refl _)
theorem den_pos (a : Rat) : 0 < (a.den : Int) := by have := a.den_pos; omega
theorem mul_den (a : Rat) : a * ((a.den : Int) : Rat) = ((a.num : Int) : Rat) := by
 have h : Rat.divInt a.num a.den = a := Rat.num_divInt_den a
 have h2 : (((a.den : Int)) : Rat) ≠ 0 := by
  have := den_pos a
  intro h; have := Rat.intCast_eq_zero_iff.1 h; omega
 rw [Rat.divInt_eq_div] at h
 conv => lhs; lhs; rw [← h]
 exact Rat.div_mul_cancel h2
theorem cast_pos {n : Int} (h : 0 < n) : (0 : Rat) < (n : Rat) := Rat.intCast_pos.2 h
theorem sub_den (n : Int) (A : Rat) : ((n : Rat) - A) * ((A.den : Int) : Rat) = ((n * A.den - A.num : Int) : Rat) := by
 have h := mul_den A
 rw [Rat.intCast_sub, Rat.intCast_mul]
 grind
theorem le_iff_den (n : Int) (A : Rat) : (n : Rat) ≤ A ↔ n * A.den - A.num ≤ 0 := by
 rw [Rat.le_iff]
 show n * A.den ≤ A.num * 1 ↔ _
 omega
theorem mul_cast_le {a b : Rat} {d : Int} (hd : 0 < d) : a ≤ b ↔ a * (d : Rat) ≤ b * (d : Rat) := by
 have h := cast_pos hd
 constructor
 ·intro q; exact Rat.mul_le_mul_of_nonneg_right q (Rat.le_of_lt h)
 ·intro q; exact Rat.le_of_mul_le_mul_right q h
theorem sq_iff (n : Int) (A m : Rat) : ((n : Rat) - A) * ((n : Rat) - A) ≤ m ↔ (n * A.den - A.num) * m.den * ((n * A.den - A.num) * m.den) ≤ (A.den : Int) * A.den * (m.num * m.den) := by
 have ha := den_pos A; have hm := den_pos m
 rw [mul_cast_le (Int.mul_pos (Int.mul_pos ha ha) (Int.mul_pos hm hm))]
 have e1 := sub_den n A
 have e2 := mul_den m
 have e3 : ((n : Rat) - A) * ((n : Rat) - A) * (((A.den : Int) * A.den * (m.den * m.den) : Int) : Rat) = (((n * A.den - A.num) * m.den * ((n * A.den - A.num) * m.den) : Int) : Rat) := by
  simp only [Rat.intCast_mul] at *
  generalize ((n * (A.den : Int) - A.num : Int) : Rat) = t at *
  generalize (((A.den : Int)) : Rat) = d at *
  generalize (((m.den : Int)) : Rat) = e at *
  generalize (n : Rat) - A = u at *
  rw [← e1]; grind
 have e4 : m * (((A.den : Int) * A.den * (m.den * m.den) : Int) : Rat) = (((A.den : Int) * A.den * (m.num * m.den) : Int) : Rat) := by
  simp only [Rat.intCast_mul] at *
  rw [← e2]; grind
 rw [e3, e4, Rat.intCast_le_intCast]
theorem isq_le (k i : Int) (hi : 0 ≤ i) : k ≤ (isq i.toNat : Int) ↔ k ≤ 0 ∨ k * k ≤ i := by
 rcases Int.le_total k 0 with h | h
 ·constructor
  ·intro _; exact .inl h
  ·intro _; omega
 ·obtain ⟨j, rfl⟩ := Int.eq_ofNat_of_zero_le h
  obtain ⟨m, rfl⟩ := Int.eq_ofNat_of_zero_le hi
  rw [Int.toNat_natCast]
  have := le_isq (n := m) (k := j)
  constructor
  ·intro q
   right
   have := this.1 (by omega)
   rw [← Int.natCast_mul]; omega
  ·rintro (q | q)
   ·omega
   ·rw [← Int.natCast_mul] at q
    have := this.2 (by omega)
    omega
theorem isq_le_neg (k i : Int) (hi : 0 ≤ i) : k ≤ -((isq i.toNat : Int) + 1) ↔ k < 0 ∧ i < k * k := by
 have h := isq_le (-k) i hi
 have h2 : -k * -k = k * k := by grind
 rw [h2] at h
 constructor
 ·intro q
  have : ¬ -k ≤ (isq i.toNat : Int) := by omega
  rw [h] at this
  omega
 ·rintro ⟨q1, q2⟩
  have : ¬ -k ≤ (isq i.toNat : Int) := by rw [h]; omega
  omega
def wI (neg : Bool) (i : Int) : Int := if neg = true then -((isq i.toNat : Int) + 1) else (isq i.toNat : Int)
def flr (A m : Rat) (neg : Bool) : Int := (A.num * m.den + wI neg ((A.den : Int) * A.den * (m.num * m.den))) / ((A.den : Int) * m.den)
theorem in_nonneg (A m : Rat) (hm : 0 ≤ m) : 0 ≤ (A.den : Int) * A.den * (m.num * m.den) :=
 Int.mul_nonneg (Int.mul_nonneg (Int.le_of_lt (den_pos A)) (Int.le_of_lt (den_pos A))) (Int.mul_nonneg (Rat.num_nonneg.2 hm) (Int.le_of_lt (den_pos m)))
theorem le_flr (A m : Rat) (neg : Bool) (n : Int) : n ≤ flr A m neg ↔ (n * A.den - A.num) * m.den ≤ wI neg ((A.den : Int) * A.den * (m.num * m.den)) := by
 unfold flr
 rw [Int.le_ediv_iff_mul_le (Int.mul_pos (den_pos A) (den_pos m))]
 have : (n * (A.den : Int) - A.num) * m.den = n * ((A.den : Int) * m.den) - A.num * m.den := by grind
 rw [this]
 omega
theorem k_sign (n : Int) (A m : Rat) : (n * A.den - A.num) * m.den ≤ 0 ↔ (n : Rat) ≤ A := by
 rw [le_iff_den]
 have hm := den_pos m
 constructor
 ·intro h
  rcases Int.lt_or_le 0 (n * A.den - A.num) with q | q
  ·have := Int.mul_pos q hm; omega
  ·exact q
 ·intro h; exact Int.mul_nonpos_of_nonpos_of_nonneg h (Int.le_of_lt hm)
theorem le_flr_pos (A m : Rat) (hm : 0 ≤ m) (n : Int) : n ≤ flr A m false ↔ (n : Rat) ≤ A ∨ ((n : Rat) - A) * ((n : Rat) - A) ≤ m := by
 rw [le_flr, sq_iff, ← k_sign n A m]
 exact isq_le _ _ (in_nonneg A m hm)
theorem k_neg (n : Int) (A m : Rat) : (n * A.den - A.num) * m.den < 0 ↔ (n : Rat) < A := by
 have h := k_sign (-n) (-A) m
 rw [Rat.neg_num, Rat.neg_den] at h
 have e : (-n * (A.den : Int) - -A.num) * m.den = -((n * (A.den : Int) - A.num) * m.den) := by grind
 rw [e, Rat.intCast_neg, Rat.neg_le_neg_iff] at h
 rw [← Rat.not_le, ← h]
 omega
theorem le_flr_neg (A m : Rat) (hm : 0 ≤ m) (n : Int) : n ≤ flr A m true ↔ (n : Rat) < A ∧ m < ((n : Rat) - A) * ((n : Rat) - A) := by
 rw [le_flr, ← Rat.not_le (a := ((n : Rat) - A) * ((n : Rat) - A)), sq_iff, ← k_neg n A m, Int.not_le]
 exact isq_le_neg _ _ (in_nonneg A m hm)
theorem flr_opp (A m : Rat) (neg : Bool) : flr (-A) m (!neg) = -flr A m neg - 1 := by
 unfold flr
 rw [Rat.neg_num, Rat.neg_den]
 have hd := Int.mul_pos (den_pos A) (den_pos m)
 generalize (A.den : Int) * A.den * (m.num * m.den) = i
 have e : -A.num * (m.den : Int) + wI (!neg) i = -(A.num * m.den + wI neg i) - 1 := by
  unfold wI
  rw [Int.neg_mul]
  cases neg <;> simp <;> omega
 rw [e]
 generalize A.num * (m.den : Int) + wI neg i = t
 generalize (A.den : Int) * m.den = d at *
 apply Int.le_antisymm
 ·have h1 : ¬ (-(t / d)) ≤ (-t - 1) / d := by
   rw [Int.le_ediv_iff_mul_le hd]
   have := Int.ediv_mul_le t (b := d) (by omega)
   have e2 : -(t / d) * d = -(t / d * d) := by grind
   omega
  omega
 ·rw [Int.le_ediv_iff_mul_le hd]
  have := Int.lt_ediv_add_one_mul_self t hd
  have e2 : (-(t / d) - 1) * d = -((t / d + 1) * d) := by grind
  omega
theorem sq_mono {a b : Rat} (h0 : 0 ≤ a) (h : a ≤ b) : a * a ≤ b * b :=
 Rat.le_trans (Rat.mul_le_mul_of_nonneg_left h h0) (Rat.mul_le_mul_of_nonneg_right h (Rat.le_trans h0 h))
theorem flr_near (A m : Rat) (hm : 0 ≤ m) (neg : Bool) : flr (A + 1 / 2) m neg = flr A m neg ∨ flr (A + 1 / 2) m neg = flr A m neg + 1 := by
 have key : (∀ n : Int, n ≤ flr A m neg → n ≤ flr (A + 1 / 2) m neg) ∧ (∀ n : Int, n ≤ flr (A + 1 / 2) m neg → n - 1 ≤ flr A m neg) := by
  cases neg with
  | false =>
   constructor
   ·intro n h
    rw [le_flr_pos _ _ hm] at h ⊢
    rcases Rat.le_total (a := (n : Rat)) (b := A + 1 / 2) with q | q
    ·exact .inl q
    ·right
     rcases h with h | h
     ·exfalso; grind
     ·exact Rat.le_trans (sq_mono (by grind) (by grind)) h
   ·intro n h
    rw [le_flr_pos _ _ hm] at h ⊢
    rw [Rat.intCast_sub, show ((1 : Int) : Rat) = 1 from rfl]
    rcases Rat.le_total (a := (n : Rat) - 1) (b := A) with q | q
    ·exact .inl q
    ·right
     rcases h with h | h
     ·exfalso; grind
     ·exact Rat.le_trans (sq_mono (by grind) (by grind)) h
  | true =>
   constructor
   ·intro n h
    rw [le_flr_neg _ _ hm] at h ⊢
    obtain ⟨h1, h2⟩ := h
    refine ⟨by grind, ?_⟩
    have e1 : ((n : Rat) - A) * ((n : Rat) - A) = (A - n) * (A - n) := by grind
    have e2 : ((n : Rat) - (A + 1 / 2)) * ((n : Rat) - (A + 1 / 2)) = (A + 1 / 2 - n) * (A + 1 / 2 - n) := by grind
    rw [e1] at h2; rw [e2]
    have := sq_mono (a := A - n) (b := A + 1 / 2 - n) (by grind) (by grind)
    grind
   ·intro n h
    rw [le_flr_neg _ _ hm] at h ⊢
    rw [Rat.intCast_sub, show ((1 : Int) : Rat) = 1 from rfl]
    obtain ⟨h1, h2⟩ := h
    refine ⟨by grind, ?_⟩
    have e1 : ((n : Rat) - 1 - A) * ((n : Rat) - 1 - A) = (A + 1 - n) * (A + 1 - n) := by grind
    have e2 : ((n : Rat) - (A + 1 / 2)) * ((n : Rat) - (A + 1 / 2)) = (A + 1 / 2 - n) * (A + 1 / 2 - n) := by grind
    rw [e2] at h2; rw [e1]
    have := sq_mono (a := A + 1 / 2 - n) (b := A + 1 - n) (by grind) (by grind)
    grind
 have h1 := key.1 _ (Int.le_refl _)
 have h2 := key.2 _ (Int.le_refl _)
 omega
theorem divInt_parts {n d : Int} (h : 0 < d) : (Rat.divInt n d).num = n / (Int.gcd n d : Int) ∧ ((Rat.divInt n d).den : Int) = d / (Int.gcd n d : Int) := by
 constructor
 ·rw [Rat.num_divInt, Int.sign_eq_one_of_pos h, Int.one_mul, Int.gcd_comm]
 ·rw [Rat.den_divInt, if_neg (by omega), Int.gcd_comm, Int.natCast_ediv, Int.natAbs_of_nonneg (by omega)]
theorem divInt_neg2 (n d : Int) : Rat.divInt (-n) (-d) = Rat.divInt n d := Rat.neg_divInt_neg n d
theorem mkRat_divInt (n : Int) (d : Nat) : mkRat n d = Rat.divInt n (d : Int) := (Rat.divInt_ofNat n d).symm
theorem add_divInt (a b : Rat) : Rat.divInt (a.num * b.den + b.num * a.den) ((a.den : Int) * b.den) = a + b := by
 rw [Rat.add_def', mkRat_divInt, Int.natCast_mul]
theorem add_same {a b : Rat} (h : a.den = b.den) : Rat.divInt (a.num + b.num) (a.den : Int) = a + b := by
 rw [← add_divInt, ← h, ← Int.add_mul, Rat.divInt_mul_right (by have := den_pos a; omega)]
theorem mul_divInt (a b : Rat) : Rat.divInt (a.num * b.num) ((a.den : Int) * b.den) = a * b := by
 rw [Rat.mul_def', mkRat_divInt, Int.natCast_mul]
theorem rat_of {n d : Int} (h : 0 < d) (hg : Int.gcd n d = 1) : ∃ q : Rat, q.num = n ∧ (q.den : Int) = d := by
 refine ⟨Rat.divInt n d, ?_⟩
 obtain ⟨h1, h2⟩ := divInt_parts (n := n) h
 rw [h1, h2, hg]
 simp
theorem rat_ext {a b : Rat} (h : a.num = b.num) (h2 : (a.den : Int) = b.den) : a = b := Rat.ext h (by omega)
theorem gcd_dvd_div {n d : Int} (h : d ≠ 0) : 0 < (Int.gcd n d : Int) := by
 have := Int.gcd_pos_of_ne_zero_right n h
 omega
end Go.Proofs.YtipefnighcdgnaaGreatDoor
