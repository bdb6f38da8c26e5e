import Derived.Test.YtipefnighcdgnaaGreatDoorJz
import Derived.Test.YtipefnighcdgnaaGreatDoorMLFormat
namespace Go.Proofs.YtipefnighcdgnaaGreatDoor
open Go.RowKit
theorem half_BQ : BQ 3 (1 / 2 : Rat) := by
 have := BQ_frac (n := 1) (d := 2) (by omega) (by omega) (by omega) (by omega) (by omega)
 rw [half_eq] at this; exact this
theorem floor_BQ {q : Rat} {n : Nat} (h : BQ n q) : Bd n q.floor := by
 rw [Rat.floor_def]; exact h.1.ediv (den_pos q)
theorem frac_half : r02_Frac 1 2 = some (ofQ (1 / 2)) := by
 rw [r02_Frac_eq (by omega) (by omega) (by omega) (by omega) (by omega), half_eq]
theorem dc_Format_eq {q : Rat} {k : Nat} (hq : BQ 6 q) (hk : k ≤ 30) : dc_Format (ofQ q) (k : Int) = some (ptxt (q * ((ten k : Int) : Rat) + 1 / 2).floor k, 0) := by
 have h1 := hq.mul (BQ_ten k)
 have h2 := h1.add half_BQ
 unfold dc_Format
 rw [decide_eq_false (show ¬ (k : Int) < 0 by omega), decide_eq_false (show ¬ (k : Int) > 30 by omega), if_neg (by simp), dc_times_eq hq (by omega) (by omega), bindO_s]
 unfold dc_round
 rw [ra_Frac_eq (by omega) (by omega) (by omega) (by omega) (by omega), bindO_s, half_eq, ra_Add_eq h1 half_BQ (by omega), bindO_s, ra_Floor_eq h2 (by omega), bindO_s, bindO_s, dc_pointed_eq (floor_BQ h2) (by omega) (by omega) hk, bindO_s]
theorem r06_Format_eq {q : Rat} {k : Nat} (hq : BQ 6 q) (hk : k ≤ 30) : r06_Format (ofQ q) (k : Int) = some (ptxt (q * ((ten k : Int) : Rat) + 1 / 2).floor k, 0) := by
 have h1 := hq.mul (BQ_ten k)
 have h2 := h1.add half_BQ
 unfold r06_Format r06_half
 rw [decide_eq_false (show ¬ (k : Int) < 0 by omega), decide_eq_false (show ¬ (k : Int) > 30 by omega), if_neg (by simp), r06_Power_eq (by omega), bindO_s, r02_Mul_eq hq (BQ_ten k) (by omega), bindO_s, frac_half, bindO_s, bindO_s, r02_Add_eq h1 half_BQ (by omega), bindO_s, r02_Floor_eq h2 (by omega), bindO_s, r06_shown_eq (floor_BQ h2) (by omega) (by omega) hk, bindO_s]
theorem cmp_le {a b : Rat} (h : a ≤ b) : decide (sg (a.num * b.den - b.num * a.den) ≤ 0) = true := by
 have h1 := rat_le.1 h
 apply decide_eq_true
 unfold sg
 split
 ·omega
 ·rw [if_neg (by omega)]; omega
theorem cmp_lt {a b : Rat} (h : a < b) : decide (sg (a.num * b.den - b.num * a.den) < 0) = true := by
 have h1 := rat_lt.1 h
 rw [sg_dec]
 exact decide_eq_true (by omega)
theorem ten_ne (k : Nat) : ((ten k : Int) : Rat) ≠ 0 := fun z => by
 have := Rat.intCast_eq_zero_iff.1 z
 have := ten_pos k
 omega
theorem near (x : Rat) : (((x + 1 / 2).floor : Int) : Rat) - x ≤ 1 / 2 ∧ -((((x + 1 / 2).floor : Int) : Rat) - x) < 1 / 2 := by
 have h1 := Rat.floor_le (x + 1 / 2)
 have h2 := Rat.lt_floor_add_one (x + 1 / 2)
 rw [Rat.intCast_add, show ((1 : Int) : Rat) = 1 from rfl] at h2
 generalize (((x + 1 / 2).floor : Int) : Rat) = N at *
 constructor <;> grind
theorem inQ_nn {a : ApiRat} (h : inApiRat a) : (∀ x ∈ a.Num.Limbs, 0 ≤ x) ∧ (∀ x ∈ a.Den.Limbs, 0 ≤ x) := by
 have key : ∀ l : List Int, inList (inInt .u32) l → ∀ x ∈ l, 0 ≤ x := by
  intro l hl x hx
  have := hl.2 x hx
  simp [inInt, Lit.wf, IntKind.min, IntKind.max, IntKind.signed, IntKind.bits] at this
  omega
 obtain ⟨⟨_, h1⟩, ⟨_, h2⟩⟩ := h
 exact ⟨key _ h1, key _ h2⟩
theorem decimalFormat_plain (a : ApiRat) (k : Int) (ha : inApiRat a) (_ : inInt .i64 k) : l06_DecimalFormat a k = some true := by
 obtain ⟨n1, n2⟩ := inQ_nn ha
 unfold l06_DecimalFormat
 rw [awake06, bindO_s, if_pos rfl]
 rcases small_ok n1 n2 with ⟨e, q, rfl, hq⟩ | e
 ·rw [e, bindO_s, bindO_s]
  simp only [Bool.not_true, Bool.false_eq_true, if_false]
  by_cases hk : 0 ≤ k ∧ k ≤ 30
  ·obtain ⟨k, rfl⟩ := Int.eq_ofNat_of_zero_le hk.1
   have hk' : k ≤ 30 := by omega
   have h1 := hq.mul (BQ_ten k)
   have h2 := h1.add half_BQ
   rw [dc_Format_eq hq hk', bindO_s, r06_Format_eq hq hk', bindO_s]
   have hfb := floor_BQ h2
   have hne := near (q * ((ten k : Int) : Rat))
   generalize hN : (q * ((ten k : Int) : Rat) + 1 / 2).floor = N at *
   simp only [beq_self_eq_true, Bool.not_true, bne_self_eq_false, Bool.or_self, Bool.false_eq_true, if_false]
   rw [parse_ptxt hfb (by omega) (by omega) hk', bindO_s]
   simp only [bne_self_eq_false, Bool.false_eq_true, if_false]
   have hB : BQ (6 + (k + 1) + 3 + 1) (Rat.divInt N (ten k)) := divInt_BQ hfb ((Bd_ten k).mono (by omega)) (Int.ne_of_gt (ten_pos k))
   have hS : BQ (6 + (k + 1) + 3 + 1 + 6 + 1) (Rat.divInt N (ten k) - q) := by
    rw [Rat.sub_eq_add_neg]; exact hB.add hq.neg
   have hD := hS.mul (BQ_ten k)
   have hval : (Rat.divInt N (ten k) - q) * ((ten k : Int) : Rat) = (N : Rat) - q * ((ten k : Int) : Rat) := by
    rw [Rat.divInt_eq_div]
    have := Rat.div_mul_cancel (a := (N : Rat)) (ten_ne k)
    grind
   rw [r02_Sub_eq hB hq (by omega), bindO_s, r06_Power_eq (by omega), bindO_s, r02_Mul_eq hS (BQ_ten k) (by omega), bindO_s, frac_half, bindO_s, r02_Cmp_eq hD half_BQ (by omega), bindO_s]
   rw [hval] at hD ⊢
   rw [cmp_le hne.1, if_pos rfl, r02_Neg_eq hD (by omega), bindO_s, r02_Cmp_eq hD.neg half_BQ (by omega), bindO_s, cmp_lt hne.2]
   rfl
  ·have hc : ((decide (k < 0)) || (decide (k > 30))) = true := by
    by_cases z : k < 0
    ·rw [decide_eq_true z]; rfl
    ·rw [decide_eq_true (show k > 30 by omega), Bool.or_true]
   unfold dc_Format r06_Format
   rw [if_pos hc, if_pos hc]
   rfl
 ·rw [e]; simp only [bindO_s, Bool.not_false, if_true]
end Go.Proofs.YtipefnighcdgnaaGreatDoor
