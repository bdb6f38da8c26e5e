import Derived.Test.YtipefnighcdgnaaGreatDoorJf
import Derived.Test.YtipefnighcdgnaaGreatDoorMX
namespace Go.Proofs.YtipefnighcdgnaaGreatDoor
open Go.RowKit
set_option linter.unusedVariables false
set_option linter.unusedSimpArgs false
theorem parseU_eq : ∀ (l : List UInt8) (a : Nat), l.all isD = true → a ≤ 18446744073709551615 → Lib.parseUintM 18446744073709551615 a l = if numA a l ≤ 18446744073709551615 then .ok (numA a l) else .range
 | [], a, _, h => by
  show Lib.NumEnd.ok a = _
  rw [numA_nil, if_pos h]
 | c :: l, a, h, ha => by
  simp only [List.all_cons, Bool.and_eq_true] at h
  have hc := isD_iff.1 h.1
  rw [numA_cons]
  have hge := numA_ge l (10 * a + dv c)
  have hd : dv c = c.toNat - 48 := rfl
  unfold Lib.parseUintM
  rw [if_pos hc]
  by_cases h1 : 1844674407370955162 ≤ a
  ·rw [if_pos h1, if_neg (by omega)]
  ·rw [if_neg h1]
   by_cases h2 : 18446744073709551615 < a * 10 + (c.toNat - 48)
   ·rw [if_pos h2, if_neg (by omega)]
   ·rw [if_neg h2, show a * 10 + (c.toNat - 48) = 10 * a + dv c by omega]
    exact parseU_eq l _ h.2 (by omega)
theorem parseB_eq {l : List UInt8} (h : l.all isD = true) (hne : l ≠ []) : Lib.parseUintB 64 l = if num l ≤ 18446744073709551615 then .ok (num l) else .range := by
 unfold Lib.parseUintB
 rw [if_neg hne, show (2 ^ 64 - 1 : Nat) = 18446744073709551615 by rfl]
 exact parseU_eq l 0 h (by omega)
theorem parseE {neg : Bool} {D : List UInt8} (h : D.all isD = true) (hne : D ≠ []) (hl : D.length ≤ 1000000) : ∃ r : Int × Bool, strconv_ParseIntE ((if neg = true then [45] else []) ++ D) 10 64 = some r ∧ (r.2 = true → r.1 = signI neg (num D) ∧ -9223372036854775808 ≤ signI neg (num D) ∧ signI neg (num D) ≤ 9223372036854775807) ∧ (r.2 = false → ¬ (-9223372036854775808 ≤ signI neg (num D) ∧ signI neg (num D) ≤ 9223372036854775807)) := by
 have hg : ((10 : Int) == 10 && ((64 : Int) == 64 && decide (((if neg = true then ([45] : List UInt8) else []) ++ D).length ≤ 281474976710656))) = true := by
  have := lenS neg
  simp; omega
 unfold strconv_ParseIntE
 rw [hg, guardO_t]
 have hB := parseB_eq h hne
 have e64 : (2 ^ (64 - 1) : Nat) = 9223372036854775808 := rfl
 cases neg with
 | true =>
  have hP : Lib.parseIntB 64 ((if true = true then ([45] : List UInt8) else []) ++ D) = Lib.signedC (2 ^ (64 - 1)) (Lib.parseUintB 64 D) := Lib.parseIntB_minus 64 D
  rw [hP, hB, e64]
  by_cases h1 : num D ≤ 18446744073709551615
  ·rw [if_pos h1]
   by_cases h2 : 9223372036854775808 < num D
   ·have : Lib.signedC 9223372036854775808 (.ok (num D)) = .range := by show (if _ then _ else _) = _; rw [if_pos h2]
    rw [this]
    refine ⟨_, rfl, (fun z => by cases z), fun _ z => ?_⟩
    unfold signI at z
    simp at z; omega
   ·have : Lib.signedC 9223372036854775808 (.ok (num D)) = .ok (-(num D : Int)) := by show (if _ then _ else _) = _; rw [if_neg h2]
    rw [this]
    refine ⟨_, rfl, fun _ => ?_, (fun z => by cases z)⟩
    unfold signI
    simp; omega
  ·rw [if_neg h1]
   refine ⟨_, rfl, (fun z => by cases z), fun _ z => ?_⟩
   unfold signI at z
   simp at z; omega
 | false =>
  have hP : Lib.parseIntB 64 ((if false = true then ([45] : List UInt8) else []) ++ D) = Lib.signlessC (2 ^ (64 - 1)) (Lib.parseUintB 64 D) := by
   cases D with
   | nil => exact absurd rfl hne
   | cons c r =>
    have hc := isD_iff.1 (List.all_eq_true.1 h c (by simp))
    exact Lib.parseIntB_plain 64 c r (by omega) (by omega)
  rw [hP, hB, e64]
  by_cases h1 : num D ≤ 18446744073709551615
  ·rw [if_pos h1]
   by_cases h2 : 9223372036854775808 ≤ num D
   ·have : Lib.signlessC 9223372036854775808 (.ok (num D)) = .range := by show (if _ then _ else _) = _; rw [if_pos h2]
    rw [this]
    refine ⟨_, rfl, (fun z => by cases z), fun _ z => ?_⟩
    unfold signI at z
    simp at z; omega
   ·have : Lib.signlessC 9223372036854775808 (.ok (num D)) = .ok (num D : Int) := by show (if _ then _ else _) = _; rw [if_neg h2]
    rw [this]
    refine ⟨_, rfl, fun _ => ?_, (fun z => by cases z)⟩
    unfold signI
    simp; omega
  ·rw [if_neg h1]
   refine ⟨_, rfl, (fun z => by cases z), fun _ z => ?_⟩
   unfold signI at z
   simp at z; omega
theorem zer_num (l : List UInt8) (k : Nat) : num (l ++ zer k) = num l * 10 ^ k := by rw [num_app, num_zer, zer_len]; omega
def mmL (neg : Bool) (w p : List UInt8) : Int := signI neg (num (w ++ p)) * ten (3 - p.length)
def mmRes (neg : Bool) (w p : List UInt8) (pt : Bool) : Int × Int := if (okD neg w p pt && decide (p.length ≤ 3)) = true then (if mmL neg w p > 10000000 ∨ mmL neg w p < -10000000 then (0, 11) else (mmL neg w p, 0)) else (0, 2)
theorem sign_mul (neg : Bool) (n k : Nat) : signI neg (n * 10 ^ k) = signI neg n * ten k := by
 unfold signI ten
 cases neg with
 | true => simp only [if_true]; rw [Int.natCast_mul, Int.neg_mul]
 | false => simp only [Bool.false_eq_true, if_false]; rw [Int.natCast_mul]
theorem dc_FromMillimetres_eq {s : List UInt8} {neg : Bool} {b w p : List UInt8} {pt : Bool} (hs : strip s = (neg, b)) (hc : cutV b = (w, p, pt)) (hl : s.length ≤ 20000) : dc_FromMillimetres s = some (mmRes neg w p pt) := by
 have hbl : b.length ≤ s.length := by have := strip_len s; rw [hs] at this; exact this
 obtain ⟨hbw, hpt⟩ := cutV_len hc
 have hwl : w.length + p.length ≤ b.length := by
  rw [hbw]
  cases pt with
  | true => simp <;> omega
  | false => rw [hpt rfl]; simp
 unfold dc_FromMillimetres
 rw [dc_digits_eq hs hc (by omega), bindO_s]
 unfold mmRes okD
 cases hg : goodB w p pt with
 | false => rfl
 | true =>
  obtain ⟨g1, g2, g3, g4, g5⟩ := good_all hg hpt
  have hall : (w ++ p).all isD = true := by rw [List.all_append, g1, g3]; rfl
  have hll := (tw_len (· == 48) (w ++ p)).2
  rw [List.length_append] at hll
  have hll' : (lz (w ++ p)).length ≤ w.length + p.length := hll
  -- the digits that are read
  have key : ∀ D : List UInt8, D.all isD = true → D ≠ [] → num D = num (w ++ p) → D.length ≤ 20001 → p.length ≤ 3 →
    (bindO (strings_Repeat [48] (IntKind.i64.wrap (3 - (p.length : Int)))) fun (y2 : (List UInt8)) =>
  guardO (okStr ((if neg = true then [45] else []) ++ D) y2) (
  bindO (strconv_ParseIntE (((if neg = true then [45] else []) ++ D) ++ y2) 10 64) fun (y3 : Int × Bool) =>
  if (!y3.2 || ((decide (y3.1 > 10000000)) || (decide (y3.1 < (-10000000))))) = true then
   some ((0, 11) : Int × Int)
  else
   some (y3.1, 0))) = some (if mmL neg w p > 10000000 ∨ mmL neg w p < -10000000 then (0, 11) else (mmL neg w p, 0)) := by
   intro D h1 h2 h3 h4 h5
   have e3 : IntKind.i64.wrap (3 - (p.length : Int)) = ((3 - p.length : Nat) : Int) := by rw [wI64 (by omega) (by omega)]; omega
   have hsl := lenS neg
   rw [e3, rep_zero (by omega), bindO_s, okStr_of (by rw [zer_len, List.length_append]; omega), guardO_t, List.append_assoc]
   have hD : (D ++ zer (3 - p.length)).all isD = true := by rw [List.all_append, h1, zer_dig]; rfl
   obtain ⟨r, r1, r2, r3⟩ := parseE (neg := neg) hD (by simp [h2]) (by rw [List.length_append, zer_len]; omega)
   have hV : signI neg (num (D ++ zer (3 - p.length))) = mmL neg w p := by rw [zer_num, h3, sign_mul]; rfl
   rw [hV] at r2 r3
   rw [r1, bindO_s]
   cases hr : r.2 with
   | true =>
    obtain ⟨r4, _⟩ := r2 hr
    rw [r4]
    simp only [Bool.not_true, Bool.false_or]
    by_cases z : mmL neg w p > 10000000 ∨ mmL neg w p < -10000000
    ·rw [if_pos z, if_pos (by simpa using z)]
    ·rw [if_neg z, if_neg (by simpa using z)]
   | false =>
    have := r3 hr
    rw [if_pos (by simp), if_pos (by omega)]
  by_cases hz : lz (w ++ p) = []
  ·rw [if_pos rfl, if_pos hz]
   have hn0 : num (w ++ p) = 0 := by rw [← num_lz, hz]; rfl
   cases neg with
   | true => simp [hz]
   | false =>
    simp only [Bool.not_false, Bool.not_true, Bool.false_or, Bool.true_or, Bool.and_true, Bool.true_and]
    by_cases h3 : p.length ≤ 3
    ·rw [decide_eq_false (show ¬ (p.length : Int) > 3 by omega), decide_eq_true h3, if_neg (by simp), if_pos rfl]
     exact key [48] rfl (by simp) (by rw [hn0]; rfl) (by simp) h3
    ·rw [decide_eq_true (show (p.length : Int) > 3 by omega), decide_eq_false h3, if_pos rfl, if_neg (by simp)]
  ·rw [if_pos rfl, if_neg hz]
   have hne : (!(lz (w ++ p)).isEmpty) = true := by
    cases hq : lz (w ++ p) with
    | nil => exact absurd hq hz
    | cons c r => rfl
   rw [hne, Bool.or_true, Bool.and_true]
   dsimp only
   simp only [Bool.not_true, Bool.false_or, Bool.true_and]
   by_cases h3 : p.length ≤ 3
   ·rw [decide_eq_false (show ¬ (p.length : Int) > 3 by omega), decide_eq_true h3, if_neg (by simp), if_pos rfl]
    exact key (lz (w ++ p)) (lz_all hall) hz (num_lz _) (by omega) h3
   ·rw [decide_eq_true (show (p.length : Int) > 3 by omega), decide_eq_false h3, if_pos rfl, if_neg (by simp)]
end Go.Proofs.YtipefnighcdgnaaGreatDoor
