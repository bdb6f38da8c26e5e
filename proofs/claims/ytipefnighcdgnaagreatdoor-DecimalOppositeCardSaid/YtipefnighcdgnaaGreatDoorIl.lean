import Derived.Test.YtipefnighcdgnaaGreatDoorIk
import Derived.Test.YtipefnighcdgnaaGreatDoorMB
import Derived.Test.YtipefnighcdgnaaGreatDoorGo
namespace Go.Proofs.YtipefnighcdgnaaGreatDoor
open Go.RowKit
set_option linter.unusedVariables false
set_option linter.unusedSimpArgs false
theorem awake06 : l06_awake = some true := by kernel_rfl
theorem half_eq : Rat.divInt 1 2 = 1 / 2 := Rat.divInt_eq_div 1 2
theorem BQ_frac {n d : Int} (h1 : -9223372036854775808 ≤ n) (h2 : n ≤ 9223372036854775807) (h3 : -9223372036854775808 ≤ d) (h4 : d ≤ 9223372036854775807) (h0 : d ≠ 0) : BQ 3 (Rat.divInt n d) := divInt_BQ (Bd.i64 h1 h2) (Bd.i64 h3 h4) h0
theorem flR_Bd {A B C : Rat} {n : Nat} (hA : BQ n A) (hB : BQ n B) (hC : BQ n C) (h0 : 0 ≤ C) : Bd (20 * n + 20) (flR A B C) := by
 unfold flR
 by_cases hb : B.num = 0
 ·rw [if_pos hb, Rat.floor_def]
  exact (hA.1.ediv (den_pos A)).mono (by omega)
 ·rw [if_neg hb]
  have hm := (hB.mul hB).mul hC
  have hm0 : 0 ≤ B * B * C := Rat.mul_nonneg (sq_nonneg B) h0
  unfold flr
  generalize B * B * C = m at *
  have hw := wI_Bd (neg := decide (B.num < 0)) ((hA.2.mul hA.2).mul (hm.1.mul hm.2)) (in_nonneg A m hm0)
  exact (((hA.1.mul hm.2).add hw).ediv (Int.mul_pos (den_pos A) (den_pos m))).mono (by omega)
theorem dc_Nearest_eq {A B C : Rat} {n : Nat} (hA : BQ n A) (hB : BQ n B) (hC : BQ n C) (hn : n ≤ 900) (h0 : 0 ≤ C) : dc_Nearest (ofR A B C) = some (ofI (flR (A + 1 / 2) B C)) := by
 unfold dc_Nearest
 have hh := BQ_frac (n := 1) (d := 2) (by omega) (by omega) (by omega) (by omega) (by omega)
 rw [ra_Frac_eq (by omega) (by omega) (by omega) (by omega) (by omega), bindO_s]
 show bindO (ra_Add (ofQ A) (ofQ (Rat.divInt 1 2))) _ = _
 rw [ra_Add_eq hA hh (by omega), bindO_s]
 rw [half_eq] at hh ⊢
 show bindO (rt_Floor (ofR (A + 1 / 2) B C)) _ = _
 rw [rt_Floor_eq (hA.add hh) (hB.mono (by omega)) (hC.mono (by omega)) (by omega) h0]; rfl
theorem r06_Nearest_eq {A B C : Rat} {n : Nat} (hA : BQ n A) (hB : BQ n B) (hC : BQ n C) (hn : n ≤ 900) (h0 : 0 ≤ C) : r06_Nearest (ofR A B C) = some (ofI (flR (A + 1 / 2) B C)) := by
 unfold r06_Nearest r06_half r03_AddRat
 have hh := BQ_frac (n := 1) (d := 2) (by omega) (by omega) (by omega) (by omega) (by omega)
 rw [r02_Frac_eq (by omega) (by omega) (by omega) (by omega) (by omega), bindO_s, bindO_s]
 show bindO (bindO (r02_Add (ofQ A) (ofQ (Rat.divInt 1 2))) _) _ = _
 rw [r02_Add_eq hA hh (by omega), bindO_s, bindO_s]
 rw [half_eq] at hh ⊢
 show bindO (r03_Floor (ofR (A + 1 / 2) B C)) _ = _
 rw [r03_Floor_eq (hA.add hh) (hB.mono (by omega)) (hC.mono (by omega)) (by omega) h0]; rfl
theorem dc_Down_eq {A B C : Rat} {n : Nat} (hA : BQ n A) (hB : BQ n B) (hC : BQ n C) (hn : n ≤ 900) (h0 : 0 ≤ C) : dc_Down (ofR A B C) = some (ofI (flR A B C)) := by
 unfold dc_Down; rw [rt_Floor_eq hA hB hC (by omega) h0]; rfl
theorem r06_Down_eq {A B C : Rat} {n : Nat} (hA : BQ n A) (hB : BQ n B) (hC : BQ n C) (hn : n ≤ 900) (h0 : 0 ≤ C) : r06_Down (ofR A B C) = some (ofI (flR A B C)) := by
 unfold r06_Down; rw [r03_Floor_eq hA hB hC (by omega) h0]; rfl
theorem r03_Neg_eq {A B C : Rat} {n : Nat} (hA : BQ n A) (hB : BQ n B) (hn : n ≤ 900) : r03_Neg (ofR A B C) = some (ofR (-A) (-B) C) := by
 unfold r03_Neg
 show bindO (r02_Neg (ofQ A)) (fun y1 => bindO (r02_Neg (ofQ B)) _) = _
 rw [r02_Neg_eq hA (by omega), bindO_s, r02_Neg_eq hB (by omega)]; rfl
theorem dc_Up_eq {A B C : Rat} {n : Nat} (hA : BQ n A) (hB : BQ n B) (hC : BQ n C) (hn : n ≤ 900) (h0 : 0 ≤ C) : dc_Up (ofR A B C) = some (ofI (-flR (-A) (-B) C)) := by
 unfold dc_Up rt_Neg
 show bindO (bindO (ra_Neg (ofQ A)) (fun y1 => bindO (ra_Neg (ofQ B)) fun y2 => some (ApiRoot.mk y1 y2 (ofQ C)))) _ = _
 rw [ra_Neg_eq hA (by omega), bindO_s, ra_Neg_eq hB (by omega), bindO_s, bindO_s]
 show bindO (rt_Floor (ofR (-A) (-B) C)) _ = _
 rw [rt_Floor_eq hA.neg hB.neg hC (by omega) h0, bindO_s, it_Neg_eq (flR_Bd hA.neg hB.neg hC h0) (by omega)]; rfl
theorem r06_Up_eq {A B C : Rat} {n : Nat} (hA : BQ n A) (hB : BQ n B) (hC : BQ n C) (hn : n ≤ 900) (h0 : 0 ≤ C) : r06_Up (ofR A B C) = some (ofI (-flR (-A) (-B) C)) := by
 unfold r06_Up
 show bindO (r03_Neg (ofR A B C)) _ = _
 rw [r03_Neg_eq hA hB hn, bindO_s, r03_Floor_eq hA.neg hB.neg hC (by omega) h0, bindO_s, r01_Neg_eq (flR_Bd hA.neg hB.neg hC h0) (by omega)]; rfl
theorem zero_eq : r03_zero = some (ofQ 0) := by
 unfold r03_zero; rw [r02_FromInt64_eq (by omega) (by omega)]; rfl
theorem BQ_zero (n : Nat) (hn : 1 ≤ n) : BQ n 0 := BQ.int (z := 0) (by unfold Bd; have := pw_pos n; omega) hn
theorem r03_FromRat_eq (A : Rat) : r03_FromRat (ofQ A) = some (ofR A 0 0) := by
 unfold r03_FromRat; rw [zero_eq, bindO_s, bindO_s]; rfl
theorem r03_Make_ok {a b c : Rat} {n : Nat} (ha : BQ n a) (hb : BQ n b) (hc : BQ n c) (hn : n ≤ 100) (h1 : 1 ≤ n) (h0 : 0 ≤ c) : ∃ A B C : Rat, r03_Make (ofQ a) (ofQ b) (ofQ c) = some (ofR A B C, 0) ∧ BQ (4 * n) A ∧ BQ (4 * n) B ∧ BQ (4 * n) C ∧ 0 ≤ C := by
 have hnum : 0 ≤ c.num := Rat.num_nonneg.2 h0
 have hz := BQ_zero (4 * n) (by omega)
 unfold r03_Make
 rw [r02_Sign_eq, bindO_s, sg_lt, decide_eq_false (by omega), if_neg (by simp)]
 rcases r02_Sqrt_ok hc (by omega) h0 with ⟨s, e, hs⟩ | ⟨x, e⟩
 ·rw [e, bindO_s]
  dsimp only
  rw [if_pos rfl, r02_Mul_eq hb hs (by omega), bindO_s, r02_Add_eq ha (hb.mul hs) (by omega), bindO_s, r03_FromRat_eq, bindO_s]
  exact ⟨_, _, _, rfl, (ha.add (hb.mul hs)).mono (by omega), hz, hz, Rat.le_refl⟩
 ·rw [e, bindO_s]
  dsimp only
  rw [if_neg (by simp)]
  unfold r03_reduced
  rw [r02_Sign_eq, bindO_s, sg_eq0]
  by_cases hb0 : b.num = 0
  ·rw [decide_eq_true hb0, if_pos rfl, bindO_s, if_pos rfl, r03_FromRat_eq]
   exact ⟨a, 0, 0, rfl, ha.mono (by omega), hz, hz, Rat.le_refl⟩
  ·rw [decide_eq_false hb0, if_neg (by simp), r02_Sign_eq, bindO_s, bindO_s, sg_eq0]
   by_cases hc0 : c.num = 0
   ·rw [decide_eq_true hc0, if_pos rfl, r03_FromRat_eq]
    exact ⟨a, 0, 0, rfl, ha.mono (by omega), hz, hz, Rat.le_refl⟩
   ·rw [decide_eq_false hc0, if_neg (by simp)]
    exact ⟨a, b, c, rfl, ha.mono (by omega), hb.mono (by omega), hc.mono (by omega), h0⟩
theorem int_i16 {n : Int} (h : inInt .i16 n) : -32768 ≤ n ∧ n ≤ 32767 := by
 simp [inInt, Lit.wf, IntKind.min, IntKind.max, IntKind.signed, IntKind.bits] at h; omega
theorem int_u16 {n : Int} (h : inInt .u16 n) : 0 ≤ n ∧ n ≤ 65535 := by
 simp [inInt, Lit.wf, IntKind.min, IntKind.max, IntKind.signed, IntKind.bits] at h; omega
theorem int_u8 {n : Int} (h : inInt .u8 n) : 0 ≤ n ∧ n ≤ 255 := by
 simp [inInt, Lit.wf, IntKind.min, IntKind.max, IntKind.signed, IntKind.bits] at h; omega
theorem r03_Of_ok (s : R03Surd) (hA : inInt .i16 s.A) (hB : inInt .i16 s.B) (hC : inInt .u16 s.C) (hD : inInt .u8 s.D) (hE : inInt .u8 s.E) (hF : inInt .u8 s.F) : ∃ A B C : Rat, r03_Of s = some (ofR A B C) ∧ BQ 12 A ∧ BQ 12 B ∧ BQ 12 C ∧ 0 ≤ C := by
 replace hA := int_i16 hA; replace hB := int_i16 hB; replace hC := int_u16 hC
 replace hD := int_u8 hD; replace hE := int_u8 hE; replace hF := int_u8 hF
 unfold r03_Of
 rw [wI64 (n := s.A) (by omega) (by omega), wI64 (n := s.B) (by omega) (by omega), wI64 (n := s.C) (by omega) (by omega), wI64 (n := s.D) (by omega) (by omega), wI64 (n := s.E) (by omega) (by omega), wI64 (n := s.F) (by omega) (by omega), wI64 (n := s.D + 1) (by omega) (by omega), wI64 (n := s.E + 1) (by omega) (by omega), wI64 (n := s.F + 1) (by omega) (by omega)]
 rw [r02_Frac_eq (by omega) (by omega) (by omega) (by omega) (by omega), bindO_s, r02_Frac_eq (by omega) (by omega) (by omega) (by omega) (by omega), bindO_s, r02_Frac_eq (by omega) (by omega) (by omega) (by omega) (by omega), bindO_s]
 obtain ⟨A, B, C, e, h1, h2, h3, h4⟩ := r03_Make_ok (BQ_frac (n := s.A) (d := s.D + 1) (by omega) (by omega) (by omega) (by omega) (by omega)) (BQ_frac (n := s.B) (d := s.E + 1) (by omega) (by omega) (by omega) (by omega) (by omega)) (BQ_frac (n := s.C) (d := s.F + 1) (by omega) (by omega) (by omega) (by omega) (by omega)) (by omega) (by omega) (Rat.divInt_nonneg (by omega) (by omega))
 rw [e, bindO_s]
 exact ⟨A, B, C, rfl, h1, h2, h3, h4⟩
theorem same_true {a : Int} {n : Nat} (ha : Bd n a) (hn : n ≤ 1000000) : r01_Same (ofI a) (ofI a) = some true := by
 rw [r01_Same_eq ha hn, decide_eq_true rfl]
theorem valid_ofI {a : Int} {n : Nat} (ha : Bd n a) (hn : n ≤ 1000000) : r01_Valid (ofI a) = some true := by
 obtain ⟨t, h1, h2⟩ := r01_Valid_iff (ofI a) (Nat.le_trans ha.len hn) (fun x hx => (ofI_okL a x hx).1)
 rw [h1, h2.2 (ofI_ok a)]
end Go.Proofs.YtipefnighcdgnaaGreatDoor
