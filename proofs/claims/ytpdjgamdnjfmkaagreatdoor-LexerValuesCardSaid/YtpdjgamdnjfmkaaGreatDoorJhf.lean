/-
  Jf, Jh in one text.
-/
import Derived.Test.YtpdjgamdnjfmkaaGreatDoorJy
import Derived.Test.YtpdjgamdnjfmkaaGreatDoorMX
namespace Go.Proofs.YtpdjgamdnjfmkaaGreatDoor
open Go.RowKit
set_option linter.unusedVariables false
set_option linter.unusedSimpArgs false
theorem lenS (neg : Bool) : (if neg = true then ([45] : List UInt8) else []).length ≤ 1 := by cases neg <;> simp
theorem q10 (n : Nat) (h : n < 4294967296) : IntKind.u32.wrap (Int.tdiv (n : Int) 10) = ((n / 10 : Nat) : Int) := by
 rw [tdv (by omega), wU32 (by omega) (by omega)]; omega
end Go.Proofs.YtpdjgamdnjfmkaaGreatDoor
namespace Go.Proofs.YtpdjgamdnjfmkaaGreatDoor
open Go.RowKit
set_option linter.unusedVariables false
set_option linter.unusedSimpArgs false
theorem parseU_eq : ∀ (l : List UInt8) (a : Nat), l.all isD = true → a ≤ 18446744073709551615 → Lib.parseUintM 18446744073709551615 a l = if numA a l ≤ 18446744073709551615 then .ok (numA a l) else .range
 | [], a, _, h => by
  show Lib.NumEnd.ok a = _
  rw [numA_nil, if_pos h]
 | c :: l, a, h, ha => by
  simp only [List.all_cons, Bool.and_eq_true] at h
  have hc := isD_iff.1 h.1
  rw [numA_cons]
  have hge := numA_ge l (10 * a + dv c)
  have hd : dv c = c.toNat - 48 := rfl
  unfold Lib.parseUintM
  rw [if_pos hc]
  by_cases h1 : 1844674407370955162 ≤ a
  ·rw [if_pos h1, if_neg (by omega)]
  ·rw [if_neg h1]
   by_cases h2 : 18446744073709551615 < a * 10 + (c.toNat - 48)
   ·rw [if_pos h2, if_neg (by omega)]
   ·rw [if_neg h2, show a * 10 + (c.toNat - 48) = 10 * a + dv c by omega]
    exact parseU_eq l _ h.2 (by omega)
theorem parseB_eq {l : List UInt8} (h : l.all isD = true) (hne : l ≠ []) : Lib.parseUintB 64 l = if num l ≤ 18446744073709551615 then .ok (num l) else .range := by
 unfold Lib.parseUintB
 rw [if_neg hne, show (2 ^ 64 - 1 : Nat) = 18446744073709551615 by rfl]
 exact parseU_eq l 0 h (by omega)
theorem parseE {neg : Bool} {D : List UInt8} (h : D.all isD = true) (hne : D ≠ []) (hl : D.length ≤ 1000000) : ∃ r : Int × Bool, strconv_ParseIntE ((if neg = true then [45] else []) ++ D) 10 64 = some r ∧ (r.2 = true → r.1 = signI neg (num D) ∧ -9223372036854775808 ≤ signI neg (num D) ∧ signI neg (num D) ≤ 9223372036854775807) ∧ (r.2 = false → ¬ (-9223372036854775808 ≤ signI neg (num D) ∧ signI neg (num D) ≤ 9223372036854775807)) := by
 have hg : ((10 : Int) == 10 && ((64 : Int) == 64 && decide (((if neg = true then ([45] : List UInt8) else []) ++ D).length ≤ 281474976710656))) = true := by
  have := lenS neg
  simp; omega
 unfold strconv_ParseIntE
 rw [hg, guardO_t]
 have hB := parseB_eq h hne
 have e64 : (2 ^ (64 - 1) : Nat) = 9223372036854775808 := rfl
 cases neg with
 | true =>
  have hP : Lib.parseIntB 64 ((if true = true then ([45] : List UInt8) else []) ++ D) = Lib.signedC (2 ^ (64 - 1)) (Lib.parseUintB 64 D) := Lib.parseIntB_minus 64 D
  rw [hP, hB, e64]
  by_cases h1 : num D ≤ 18446744073709551615
  ·rw [if_pos h1]
   by_cases h2 : 9223372036854775808 < num D
   ·have : Lib.signedC 9223372036854775808 (.ok (num D)) = .range := by show (if _ then _ else _) = _; rw [if_pos h2]
    rw [this]
    refine ⟨_, rfl, (fun z => by cases z), fun _ z => ?_⟩
    unfold signI at z
    simp at z; omega
   ·have : Lib.signedC 9223372036854775808 (.ok (num D)) = .ok (-(num D : Int)) := by show (if _ then _ else _) = _; rw [if_neg h2]
    rw [this]
    refine ⟨_, rfl, fun _ => ?_, (fun z => by cases z)⟩
    unfold signI
    simp; omega
  ·rw [if_neg h1]
   refine ⟨_, rfl, (fun z => by cases z), fun _ z => ?_⟩
   unfold signI at z
   simp at z; omega
 | false =>
  have hP : Lib.parseIntB 64 ((if false = true then ([45] : List UInt8) else []) ++ D) = Lib.signlessC (2 ^ (64 - 1)) (Lib.parseUintB 64 D) := by
   cases D with
   | nil => exact absurd rfl hne
   | cons c r =>
    have hc := isD_iff.1 (List.all_eq_true.1 h c (by simp))
    exact Lib.parseIntB_plain 64 c r (by omega) (by omega)
  rw [hP, hB, e64]
  by_cases h1 : num D ≤ 18446744073709551615
  ·rw [if_pos h1]
   by_cases h2 : 9223372036854775808 ≤ num D
   ·have : Lib.signlessC 9223372036854775808 (.ok (num D)) = .range := by show (if _ then _ else _) = _; rw [if_pos h2]
    rw [this]
    refine ⟨_, rfl, (fun z => by cases z), fun _ z => ?_⟩
    unfold signI at z
    simp at z; omega
   ·have : Lib.signlessC 9223372036854775808 (.ok (num D)) = .ok (num D : Int) := by show (if _ then _ else _) = _; rw [if_neg h2]
    rw [this]
    refine ⟨_, rfl, fun _ => ?_, (fun z => by cases z)⟩
    unfold signI
    simp; omega
  ·rw [if_neg h1]
   refine ⟨_, rfl, (fun z => by cases z), fun _ z => ?_⟩
   unfold signI at z
   simp at z; omega
theorem r01_Int64_eq {z : Int} {n : Nat} (hz : Bd n z) (hn : n ≤ 1000) : r01_Int64 (ofI z) = some (if -9223372036854775808 ≤ z ∧ z ≤ 9223372036854775807 then (z, true) else (0, false)) := by
 have hl := hz.len
 have h1 : Bd 3 (-9223372036854775808) := Bd.i64 (by omega) (by omega)
 have h2 : Bd 3 (9223372036854775807) := Bd.i64 (by omega) (by omega)
 apply Tot.get
 unfold r01_Int64
 rw [r01_FromInt64_eq (by omega) (by omega), bindO_s, r01_FromInt64_eq (by omega) (by omega), bindO_s]
 refine Tot.bind (E := fun v => v = !decide (-9223372036854775808 ≤ z ∧ z ≤ 9223372036854775807)) ?_ (fun v hv => ?_)
 ·rw [r01_Cmp_eq hz h1 (by omega) (by omega), bindO_s, sg_dec, r01_Cmp_eq hz h2 (by omega) (by omega), bindO_s, sg_decP]
  refine Tot.ite (fun q => .ok ?_) (fun q => .ok ?_)
  ·simp only [decide_eq_true_eq] at q
   rw [decide_eq_false (by omega)]; rfl
  ·simp only [decide_eq_false_iff_not] at q
   by_cases y : z ≤ 9223372036854775807
   ·rw [decide_eq_false (show ¬ z - 9223372036854775807 > 0 by omega), decide_eq_true (by omega)]; rfl
   ·rw [decide_eq_true (show z - 9223372036854775807 > 0 by omega), decide_eq_false (by omega)]; rfl
 ·subst hv
  by_cases y : -9223372036854775808 ≤ z ∧ z ≤ 9223372036854775807
  ·rw [decide_eq_true y, if_pos y]
   refine Tot.ite (fun q => by cases q) (fun _ => ?_)
   rw [r01_short_eq (ofI_okL z) (by omega) (by rw [ofI_val]; omega), bindO_s, ofI_val, ofI_negv]
   refine Tot.ite (fun q => .ok ?_) (fun q => .ok ?_)
   ·have q' : z < 0 := by simpa using q
    congr 1
    unfold IntKind.wrap
    simp [IntKind.signed, IntKind.bits]
    omega
   ·have q' : ¬ z < 0 := by simpa using q
    rw [wI64 (by omega) (by omega)]
    congr 1
    omega
  ·rw [decide_eq_false y, if_neg y]
   exact .ok rfl
end Go.Proofs.YtpdjgamdnjfmkaaGreatDoor
