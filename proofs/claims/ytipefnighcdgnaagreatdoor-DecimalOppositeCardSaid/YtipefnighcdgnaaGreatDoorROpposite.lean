import Derived.Test.YtipefnighcdgnaaGreatDoorIl
import Derived.Test.YtipefnighcdgnaaGreatDoorMLOpposite
namespace Go.Proofs.YtipefnighcdgnaaGreatDoor
open Go.RowKit
theorem floor_half (A : Rat) : (A + 1 / 2).floor = A.floor ∨ (A + 1 / 2).floor = A.floor + 1 := by
 have h1 : A.floor ≤ (A + 1 / 2).floor := Rat.floor_monotone (by grind)
 have h2 : (A + 1 / 2).floor ≤ (A + 1).floor := Rat.floor_monotone (by grind)
 have h3 : (A + 1).floor = A.floor + 1 := Rat.floor_add_one
 omega
theorem floor_opp (A : Rat) : (A.den = 1 ∧ -(-A).floor = A.floor) ∨ (A.den ≠ 1 ∧ -(-A).floor = A.floor + 1) := by
 have hd := den_pos A
 rw [Rat.floor_def, Rat.floor_def, Rat.neg_num, Rat.neg_den]
 by_cases h : A.den = 1
 ·left; rw [h]; simp
 ·right
  refine ⟨h, ?_⟩
  have hm : A.num % (A.den : Int) ≠ 0 := by
   intro z
   have h1 : (A.den : Int) ∣ A.num := Int.dvd_of_emod_eq_zero z
   have h2 : A.den ∣ A.num.natAbs := by
    have := Int.natAbs_dvd_natAbs.2 h1
    rwa [Int.natAbs_natCast] at this
   have h3 : A.den ∣ Nat.gcd A.num.natAbs A.den := Nat.dvd_gcd h2 (Nat.dvd_refl _)
   have h4 : Nat.gcd A.num.natAbs A.den = 1 := A.reduced
   rw [h4] at h3
   exact h (Nat.eq_one_of_dvd_one h3)
  have h1 := Int.emod_nonneg A.num (show (A.den : Int) ≠ 0 by omega)
  have h2 := Int.emod_lt_of_pos A.num hd
  have h3 := Int.emod_add_mul_ediv A.num A.den
  have hu := (Int.ediv_emod_unique (a := -A.num) (b := (A.den : Int)) (r := (A.den : Int) - A.num % A.den) (q := -(A.num / A.den) - 1) hd).2 ⟨by rw [Int.mul_sub, Int.mul_neg]; omega, by omega, by omega⟩
  rw [hu.1]; omega
theorem root_facts (A B C : Rat) (h0 : 0 ≤ C) : (B.num = 0 ∧ A.den = 1 ∧ -flR (-A) (-B) C = flR A B C ∧ flR (A + 1 / 2) B C = flR A B C) ∨ (¬ (B.num = 0 ∧ A.den = 1) ∧ -flR (-A) (-B) C = flR A B C + 1 ∧ (flR (A + 1 / 2) B C = flR A B C + 1 ∨ flR (A + 1 / 2) B C = flR A B C)) := by
 unfold flR
 rw [Rat.neg_num]
 by_cases hb : B.num = 0
 ·rw [if_pos (show -B.num = 0 by omega), if_pos hb, if_pos hb]
  rcases floor_opp A with ⟨h1, h2⟩ | ⟨h1, h2⟩
  ·left
   refine ⟨hb, h1, h2, ?_⟩
   rcases floor_half A with h | h
   ·exact h
   ·exfalso
    have hA : A = ((A.num : Int) : Rat) := rat_ext rfl (by rw [h1]; rfl)
    have e1 : A.floor = A.num := by rw [Rat.floor_def, h1]; simp
    have e2 : ((A.num + 1 : Int) : Rat) ≤ A + 1 / 2 := Rat.le_floor_iff.1 (by rw [h, e1]; exact Int.le_refl _)
    rw [Rat.intCast_add, ← hA, show ((1 : Int) : Rat) = 1 from rfl] at e2
    grind
  ·right
   refine ⟨fun z => h1 z.2, h2, ?_⟩
   rcases floor_half A with h | h
   ·exact .inr h
   ·exact .inl h
 ·right
  rw [if_neg (show ¬ -B.num = 0 by omega), if_neg hb, if_neg hb]
  have hm : 0 ≤ B * B * C := Rat.mul_nonneg (sq_nonneg B) h0
  have e1 : -B * -B * C = B * B * C := by grind
  have e2 : decide (-B.num < 0) = !decide (B.num < 0) := by
   by_cases z : B.num < 0
   ·rw [decide_eq_true z, decide_eq_false (by omega)]; rfl
   ·rw [decide_eq_false z, decide_eq_true (by omega)]; rfl
  rw [e1, e2, flr_opp]
  refine ⟨fun z => hb z.1, by omega, ?_⟩
  rcases flr_near A (B * B * C) hm (decide (B.num < 0)) with h | h
  ·exact .inr h
  ·exact .inl h
theorem sg_zero_iff {z : Int} : sg z = 0 ↔ z = 0 := by
 have h := sg_eq0 (z := z)
 constructor
 ·intro q; rw [q] at h; simpa using h.symm
 ·exact sg_zero
theorem r03_Sign_zero {A B C : Rat} {n : Nat} (hA : BQ n A) (hB : BQ n B) (hC : BQ n C) (hn : n ≤ 900) : ∃ t, r03_Sign (ofR A B C) = some t ∧ (t = 0 ↔ (A.num = 0 ∧ B.num = 0)) := by
 unfold r03_Sign
 show ∃ t, bindO (r02_Sign (ofQ A)) (fun y1 => bindO (r02_Sign (ofQ B)) _) = some t ∧ _
 rw [r02_Sign_eq, bindO_s, r02_Sign_eq, bindO_s]
 by_cases h1 : sg A.num = sg B.num ∨ sg B.num = 0
 ·have : ((sg A.num == sg B.num) || (sg B.num == 0)) = true := by simpa using h1
  rw [if_pos this]
  refine ⟨_, rfl, ?_⟩
  rw [sg_zero_iff]
  constructor
  ·intro z
   refine ⟨z, ?_⟩
   rcases h1 with h | h
   ·rw [z, sg_zero rfl] at h; exact sg_zero_iff.1 h.symm
   ·exact sg_zero_iff.1 h
  ·exact fun z => z.1
 ·have : ¬ ((sg A.num == sg B.num) || (sg B.num == 0)) = true := by simpa using h1
  rw [if_neg this]
  have hB0 : sg B.num ≠ 0 := fun z => h1 (.inr z)
  have hB1 : ¬ B.num = 0 := fun z => hB0 (sg_zero z)
  by_cases h2 : sg A.num = 0
  ·rw [if_pos (by simpa using h2)]
   exact ⟨_, rfl, ⟨fun z => absurd z hB0, fun z => absurd z.2 hB1⟩⟩
  ·rw [if_neg (by simpa using h2)]
   have e : ∃ q : Rat, r03_norm (ofR A B C) = some (ofQ q) := by
    unfold r03_norm r03_square
    show ∃ q : Rat, bindO (bindO (r02_Mul (ofQ A) (ofQ A)) _) (fun y1 => bindO (bindO (r02_Mul (ofQ B) (ofQ B)) _) fun y2 => bindO (r02_Mul y2 (ofQ C)) _) = _
    have h3 := hA.mul hA; have h4 := hB.mul hB; have h5 := h4.mul hC
    rw [r02_Mul_eq hA hA (by omega), bindO_s, bindO_s, r02_Mul_eq hB hB (by omega), bindO_s, bindO_s, r02_Mul_eq h4 hC (by omega), bindO_s, r02_Sub_eq h3 h5 (by omega)]
    exact ⟨_, rfl⟩
   obtain ⟨q, hq⟩ := e
   show ∃ t, bindO (r03_norm (ofR A B C)) _ = some t ∧ _
   rw [hq, bindO_s, r02_Sign_eq, bindO_s]
   split
   ·exact ⟨_, rfl, ⟨fun z => absurd z h2, fun z => absurd z.2 hB1⟩⟩
   ·exact ⟨_, rfl, ⟨fun z => absurd z hB0, fun z => absurd z.2 hB1⟩⟩
theorem decimalOpposite_plain (s : R03Surd) (h : inR03Surd s) : l06_DecimalOpposite s = some true := by
 obtain ⟨a1, a2, a3, a4, a5, a6⟩ := h
 obtain ⟨A, B, C, e, hA, hB, hC, h0⟩ := r03_Of_ok s a1 a2 a3 a4 a5 a6
 have hh : BQ 16 (A + 1 / 2) := by
  have := hA.add (BQ_frac (n := 1) (d := 2) (by omega) (by omega) (by omega) (by omega) (by omega))
  rw [half_eq] at this
  exact this
 have d1 := flR_Bd hA hB hC h0
 have d2 := flR_Bd hA.neg hB.neg hC h0
 have d3 := flR_Bd hh (hB.mono (show 12 ≤ 16 by omega)) (hC.mono (show 12 ≤ 16 by omega)) h0
 unfold l06_DecimalOpposite
 rw [awake06, bindO_s]
 simp only [Bool.not_true, Bool.false_eq_true, if_false]
 rw [e, bindO_s, dc_Down_eq hA hB hC (by omega) h0, bindO_s, dc_Up_eq hA hB hC (by omega) h0, bindO_s, dc_Nearest_eq hA hB hC (by omega) h0, bindO_s, valid_ofI d1 (by omega), bindO_s]
 simp only [if_true]
 rw [valid_ofI d2.neg (by omega), bindO_s]
 simp only [if_true]
 rw [valid_ofI d3 (by omega), bindO_s]
 simp only [if_true]
 rw [r03_Neg_eq hA hB (by omega), bindO_s, dc_Down_eq hA.neg hB.neg hC (by omega) h0, bindO_s, r01_Neg_eq d2.neg (by omega), bindO_s, Int.neg_neg, same_true d2 (by omega), bindO_s, bindO_s]
 simp only [Bool.not_true, Bool.false_eq_true, if_false]
 have hdQ : BQ 260 ((flR A B C : Int) : Rat) := BQ.int (d1.mono (by omega)) (by omega)
 have hsub : r03_CmpRat (ofR A B C) (ofQ ((flR A B C : Int) : Rat)) = r03_Sign (ofR (A + -((flR A B C : Int) : Rat)) B C) := by
  unfold r03_CmpRat r03_AddRat
  rw [r02_Neg_eq hdQ (by omega), bindO_s]
  show bindO (bindO (r02_Add (ofQ A) (ofQ (-((flR A B C : Int) : Rat)))) _) _ = _
  rw [r02_Add_eq hA hdQ.neg (by omega), bindO_s, bindO_s]
  show bindO (r03_Sign (ofR (A + -((flR A B C : Int) : Rat)) B C)) _ = _
  obtain ⟨t, ht, _⟩ := r03_Sign_zero (hA.add hdQ.neg) (hB.mono (show 12 ≤ 12 + 260 + 1 by omega)) (hC.mono (show 12 ≤ 12 + 260 + 1 by omega)) (by omega)
  rw [ht]; rfl
 obtain ⟨t, ht, htz⟩ := r03_Sign_zero (hA.add hdQ.neg) (hB.mono (show 12 ≤ 12 + 260 + 1 by omega)) (hC.mono (show 12 ≤ 12 + 260 + 1 by omega)) (by omega)
 have hA0 : (A + -((flR A B C : Int) : Rat)).num = 0 ↔ A = ((flR A B C : Int) : Rat) := by
  rw [Rat.num_eq_zero]
  constructor
  ·intro z; grind
  ·intro z; grind
 rw [r01_Sub_eq d2.neg d1 (by omega) (by omega), bindO_s, r02_FromInt_eq, bindO_s, hsub, ht, bindO_s, r01_FromInt64_eq (by omega) (by omega), bindO_s]
 have hw : Bd (20 * 12 + 20 + 1) (-flR (-A) (-B) C - flR A B C) := by rw [Int.sub_eq_add_neg]; exact (d2.neg.add d1.neg).mono (by omega)
 rw [r01_Same_eq hw (by omega), bindO_s]
 rcases root_facts A B C h0 with ⟨f1, f2, f3, f4⟩ | ⟨f1, f3, f4⟩
 ·have hAi : A = ((flR A B C : Int) : Rat) := by
   have e1 : flR A B C = A.num := by unfold flR; rw [if_pos f1, Rat.floor_def, f2]; simp
   rw [e1]
   exact rat_ext rfl (by rw [f2]; rfl)
  have ht0 : t = 0 := htz.2 ⟨hA0.2 hAi, f1⟩
  rw [ht0, f3, f4, decide_eq_true (show flR A B C - flR A B C = 0 by omega)]
  simp only [beq_self_eq_true, if_true]
  rw [same_true d1 (by omega)]
  rfl
 ·have ht0 : t ≠ 0 := by
   intro z
   obtain ⟨z1, z2⟩ := htz.1 z
   apply f1
   refine ⟨z2, ?_⟩
   rw [hA0.1 z1]; rfl
  have hb : (t == 0) = false := beq_eq_false_iff_ne.2 ht0
  rw [hb, f3, decide_eq_false (show ¬ flR A B C + 1 - flR A B C = 0 by omega)]
  simp only [beq_self_eq_true, Bool.false_eq_true, if_false, if_true]
  rw [r01_FromInt64_eq (by omega) (by omega), bindO_s, show flR A B C + 1 - flR A B C = 1 by omega, same_true (n := 3) (Bd.i64 (by omega) (by omega)) (by omega), bindO_s]
  simp only [if_true]
  rw [r01_Same_eq d3 (by omega), bindO_s]
  rcases f4 with f4 | f4
  ·rw [f4, decide_eq_true rfl]; rfl
  ·rw [f4, decide_eq_false (by omega), if_neg (by simp), same_true d1 (by omega)]; rfl
end Go.Proofs.YtipefnighcdgnaaGreatDoor
