/-
  Jd, Je, Jk in one text.
-/
import Derived.Test.YtpdjgamdnjfmkaaDoorJx
namespace Go.Proofs.YtpdjgamdnjfmkaaDoor
open Go.RowKit
set_option linter.unusedVariables false
set_option linter.unusedSimpArgs false
def goodB (w p : List UInt8) (pt : Bool) : Bool := digB w && (!(decide (1 < w.length) && w.head? == some 48) && (!pt || (digB p && decide (p.length ≤ 30))))
def lz (l : List UInt8) : List UInt8 := l.dropWhile (· == 48)
def okD (neg : Bool) (w p : List UInt8) (pt : Bool) : Bool := goodB w p pt && (!neg || !(lz (w ++ p)).isEmpty)
theorem c48b (c : UInt8) : ((c.toNat : Int) == 48) = (c == 48) := by
 by_cases h : c = 48
 ·subst h; rfl
 ·have h2 : c.toNat ≠ 48 := fun z => h (UInt8.toNat_inj.1 (by rw [z]; rfl))
  rw [beq_eq_false_iff_ne.2 h, beq_eq_false_iff_ne.2 (by omega)]
theorem dc_plain_eq (l : List UInt8) (hl : l.length ≤ 1000000) : dc_plain l = some (digB l) := by
 unfold dc_plain digB
 cases l with
 | nil => rfl
 | cons c r =>
  have h1 : ((c :: r) == []) = false := rfl
  rw [h1]
  simp only [Bool.false_eq_true, if_false]
  unfold strings_Trim
  rw [show (([48, 49, 50, 51, 52, 53, 54, 55, 56, 57] : List UInt8).all fun c => decide (c.toNat < 128)) = true by decide, decide_eq_true (show (c :: r).length ≤ 9223372036854775807 by omega), decide_eq_true (show ([48, 49, 50, 51, 52, 53, 54, 55, 56, 57] : List UInt8).length < 4294967281 by decide)]
  simp only [Bool.and_true, guardO_t, bindO_s]
  rw [trim_nil _ _ isD digs_contains]
  simp
theorem dc_digits_eq {s : List UInt8} {neg : Bool} {b w p : List UInt8} {pt : Bool} (hs : strip s = (neg, b)) (hc : cutV b = (w, p, pt)) (hl : s.length ≤ 65536) : dc_digits s = some (if goodB w p pt = true then (if lz (w ++ p) = [] then ([48], (p.length : Int), !neg) else ((if neg = true then [45] else []) ++ lz (w ++ p), (p.length : Int), true)) else ([], 0, false)) := by
 have hbl : b.length ≤ s.length := by have := strip_len s; rw [hs] at this; exact this
 have hwp : w.length + p.length ≤ b.length := by
  have h1 := cutV_inv b
  rw [hc] at h1
  obtain ⟨h2, h3⟩ := h1
  dsimp only at h2 h3
  rw [h2]
  cases pt with
  | true => simp <;> omega
  | false => rw [h3 rfl]; simp
 unfold dc_digits
 rw [decide_eq_false (show ¬ (s.length : Int) > 65536 by omega), if_neg (by simp), cutPre s (by omega), hs, bindO_s]
 dsimp only
 rw [cutEq b (by omega), hc, bindO_s]
 dsimp only
 apply Tot.get
 refine Tot.bind (E := fun v => v = !goodB w p pt) ?_ (fun v hv => ?_)
 ·rw [dc_plain_eq w (by omega), bindO_s, dc_plain_eq p (by omega), bindO_s]
  unfold goodB
  refine Tot.ite (fun q => ?_) (fun q => .ok (by rw [q]; rfl))
  rw [q]
  have hP : Tot (if pt = true then (if digB p = true then some (decide ((p.length : Int) > 30)) else some true) else some false) (fun v => v = !(!pt || (digB p && decide (p.length ≤ 30)))) := by
   cases pt with
   | false => exact .ok rfl
   | true =>
    cases hd : digB p with
    | false => exact .ok rfl
    | true =>
     refine .ok ?_
     simp only [Bool.not_true, Bool.false_or, Bool.true_and]
     by_cases z : p.length ≤ 30
     ·rw [decide_eq_true z, decide_eq_false (by omega)]; rfl
     ·rw [decide_eq_false z, decide_eq_true (by omega)]; rfl
  refine Tot.ite (fun q2 => ?_) (fun q2 => ?_)
  ·have hw : 1 < w.length := by simp at q2; omega
   rw [decide_eq_true hw]
   cases hww : w with
   | nil => rw [hww] at hw; simp at hw
   | cons c r =>
    have e0 : gt (c :: r) 0 = some c := rfl
    rw [e0, bindO_s]
    refine Tot.ite (fun q3 => .ok ?_) (fun q3 => hP.mono (fun v hv => ?_))
    ·rw [c48b] at q3
     have : c = 48 := by simpa using q3
     subst this; rfl
    ·rw [c48b] at q3
     rw [hv]
     have : ((c :: r).head? == some 48) = false := by simpa using q3
     rw [this]; rfl
  ·have hw : ¬ 1 < w.length := by simp at q2; omega
   rw [decide_eq_false hw]
   exact hP.mono (fun v hv => by rw [hv]; rfl)
 ·subst hv
  cases hg : goodB w p pt with
  | false => exact .ok rfl
  | true =>
   refine Tot.ite (fun q => by cases q) (fun _ => ?_)
   rw [okStr_of (by omega), guardO_t]
   have ht : strings_TrimLeft (w ++ p) [48] = some (lz (w ++ p)) := by
    show guardO (decide ((48 : UInt8).toNat < 128) && decide ((w ++ p).length ≤ 9223372036854775807)) (some (Lib.trimLeftB (w ++ p) 48)) = _
    rw [decide_eq_true (show (48 : UInt8).toNat < 128 by decide), decide_eq_true (show (w ++ p).length ≤ 9223372036854775807 by simp; omega)]
    rfl
   rw [ht, bindO_s]
   refine Tot.ite (fun q => ?_) (fun q => ?_)
   ·have q' : lz (w ++ p) = [] := by simpa using q
    rw [if_pos rfl, if_pos q']
    exact .ok rfl
   ·have q' : lz (w ++ p) ≠ [] := by simpa using q
    rw [if_pos rfl, if_neg q']
    have hll := (tw_len (· == 48) (w ++ p)).2
    rw [List.length_append] at hll
    have hll' : (lz (w ++ p)).length ≤ w.length + p.length := hll
    cases neg with
    | true =>
     have : okStr [45] (lz (w ++ p)) = true := okStr_of (by simp; omega)
     rw [this]
     exact .ok rfl
    | false => exact .ok rfl
theorem num_lz : ∀ (l : List UInt8), num (lz l) = num l
 | [] => rfl
 | c :: l => by
  unfold lz
  rw [List.dropWhile_cons]
  split
  ·rename_i h
   have : c = 48 := by simpa using h
   subst this
   have := num_lz l
   unfold lz at this
   rw [this]
   show num l = numA 0 (48 :: l)
   rw [numA_cons]; rfl
  ·rfl
theorem lz_head (l : List UInt8) : (lz l).head? ≠ some 48 := by
 induction l with
 | nil => simp [lz]
 | cons c l ih =>
  unfold lz at ih ⊢
  rw [List.dropWhile_cons]
  split
  ·exact ih
  ·rename_i h
   simpa using h
theorem lz_all {l : List UInt8} (h : l.all isD = true) : (lz l).all isD = true := by
 rw [List.all_eq_true] at h ⊢
 intro x hx
 exact h x ((List.dropWhile_sublist _).mem hx)
theorem digB_all {l : List UInt8} (h : digB l = true) : l.all isD = true ∧ l ≠ [] := by
 unfold digB at h
 rw [Bool.and_eq_true] at h
 exact ⟨h.1, fun z => by rw [z] at h; simp at h⟩
theorem good_all {w p : List UInt8} {pt : Bool} (h : goodB w p pt = true) (hp : pt = false → p = []) : w.all isD = true ∧ w ≠ [] ∧ p.all isD = true ∧ (pt = true → p ≠ []) ∧ p.length ≤ 30 := by
 unfold goodB at h
 simp only [Bool.and_eq_true, Bool.or_eq_true, Bool.not_eq_true', decide_eq_true_eq] at h
 obtain ⟨h1, h2, h3⟩ := h
 obtain ⟨h4, h5⟩ := digB_all h1
 cases pt with
 | false => rw [hp rfl]; exact ⟨h4, h5, rfl, (fun z => by cases z), by simp⟩
 | true =>
  rcases h3 with z | ⟨z1, z2⟩
  ·cases z
  ·exact ⟨h4, h5, (digB_all z1).1, fun _ => (digB_all z1).2, z2⟩
theorem can_lz {neg : Bool} {w p : List UInt8} (h : (w ++ p).all isD = true) (hne : lz (w ++ p) ≠ []) : canI neg (lz (w ++ p)) := by
 refine ⟨⟨lz_all h, hne, fun _ => lz_head _⟩, fun _ z => ?_⟩
 have := num_pos (lz_all h) hne (lz_head _)
 have h2 := pow10_pos ((lz (w ++ p)).length - 1)
 omega
theorem canI_zero : canI false [48] := ⟨⟨rfl, by simp, fun h => by simp at h⟩, fun h => by cases h⟩
def signI (neg : Bool) (n : Nat) : Int := if neg = true then -(n : Int) else (n : Int)
theorem head45 {neg : Bool} {b : List UInt8} (h : b.all isD = true) (hne : b ≠ []) : strip ((if neg = true then [45] else []) ++ b) = (neg, b) := by
 apply strip_of
 cases b with
 | nil => exact absurd rfl hne
 | cons c r =>
  have := List.all_eq_true.1 h c (by simp)
  have := (dig_ne this).2
  simpa using this
theorem Bd_num {l : List UInt8} (h : l.all isD = true) : Bd (l.length + 1) (num l : Int) := by
 unfold Bd
 have h1 := num_lt l h
 have h2 : 10 ^ l.length ≤ 10 ^ (9 * l.length) := Nat.pow_le_pow_right (by omega) (by omega)
 have h3 := pw_ten l.length
 have h4 := pw_pos l.length
 rw [pw_succ, Int.natAbs_natCast, h3]
 generalize 10 ^ l.length = A at *
 generalize 10 ^ (9 * l.length) = B at *
 omega
theorem Bd_sign {neg : Bool} {n m : Nat} (h : Bd m (n : Int)) : Bd m (signI neg n) := by
 cases neg with
 | true => exact h.neg
 | false => exact h
def ten (n : Nat) : Int := ((10 ^ n : Nat) : Int)
theorem ten_succ (n : Nat) : ten (n + 1) = ten n * 10 := by unfold ten; rw [Nat.pow_succ, Int.natCast_mul]; rfl
theorem ten_pos (n : Nat) : 0 < ten n := by unfold ten; have := pow10_pos n; omega
theorem Bd_ten (n : Nat) : Bd (n + 1) (ten n) := by
 unfold Bd ten
 have h2 : 10 ^ n ≤ 10 ^ (9 * n) := Nat.pow_le_pow_right (by omega) (by omega)
 have h3 := pw_ten n
 have h4 := pw_pos n
 rw [pw_succ, Int.natAbs_natCast, h3]
 generalize 10 ^ n = A at *
 generalize 10 ^ (9 * n) = B at *
 omega
theorem dc_power_eq {n : Nat} (hn : n ≤ 1000) : dc_power (n : Int) = some (ofI (ten n)) := by
 apply Tot.get
 unfold dc_power
 rw [it_FromInt64_eq (by omega) (by omega), bindO_s, it_FromInt64_eq (by omega) (by omega), bindO_s]
 refine Tot.bind (E := fun v => v = ofI (ten n)) (Tot.loop (fun m v => ∃ j : Nat, m + j = n ∧ v = ((j : Int), ofI (ten j))) _ n (fuel_gt (by omega)) ⟨0, by omega, rfl⟩ (fun m v hv => ?_)) (fun v hv => .ok hv)
 obtain ⟨j, hj, rfl⟩ := hv
 dsimp only
 refine TotX.ite (fun q => ?_) (fun q => .ret ?_)
 ·have q' : j < n := by simp at q; omega
  rw [it_Mul_eq (Bd_ten j) (Bd.i64 (z := 10) (by omega) (by omega)) (by omega) (by omega), bindO_s, wI64 (by omega) (by omega), ← ten_succ]
  exact .go ⟨m - 1, by omega, j + 1, by omega, rfl⟩
 ·have q' : ¬ j < n := by simp at q; omega
  rw [show j = n by omega]
def zeroR : ApiRat := ApiRat.mk (ApiInt.mk false []) (ApiInt.mk false [])
def decQ (neg : Bool) (w p : List UInt8) : Rat := Rat.divInt (signI neg (num (w ++ p))) (ten p.length)
theorem dc_Parse_eq {s : List UInt8} {neg : Bool} {b w p : List UInt8} {pt : Bool} (hs : strip s = (neg, b)) (hc : cutV b = (w, p, pt)) (hl : s.length ≤ 20000) : dc_Parse s = some (if okD neg w p pt = true then (ofQ (decQ neg w p), 0) else (zeroR, 2)) := by
 have hbl : b.length ≤ s.length := by have := strip_len s; rw [hs] at this; exact this
 have hinv := cutV_inv b
 rw [hc] at hinv
 obtain ⟨hi1, hi2⟩ := hinv
 dsimp only at hi1 hi2
 have hwp : w.length + p.length ≤ b.length := by
  rw [hi1]
  cases pt with
  | true => simp <;> omega
  | false => rw [hi2 rfl]; simp
 unfold dc_Parse
 rw [dc_digits_eq hs hc (by omega), bindO_s]
 unfold okD
 cases hg : goodB w p pt with
 | false => rfl
 | true =>
  obtain ⟨g1, g2, g3, g4, g5⟩ := good_all hg hi2
  have hall : (w ++ p).all isD = true := by rw [List.all_append, g1, g3]; rfl
  have hbn : Bd ((w ++ p).length + 1) ((num (w ++ p) : Nat) : Int) := Bd_num hall
  rw [List.length_append] at hbn
  by_cases hz : lz (w ++ p) = []
  ·rw [if_pos rfl, if_pos hz]
   have hn0 : num (w ++ p) = 0 := by rw [← num_lz, hz]; rfl
   cases neg with
   | true => simp [hz, zeroR]
   | false =>
    simp only [Bool.not_false, Bool.not_true, Bool.false_eq_true, if_false, Bool.true_or, Bool.and_true, Bool.true_and, if_true]
    rw [it_Parse_eq (s := [48]) (neg := false) (b := [48]) rfl canI_zero (by simp), bindO_s]
    dsimp only
    rw [if_neg (by simp), dc_power_eq (by omega), bindO_s]
    have e48 : num [48] = 0 := rfl
    have hm := ra_Make_eq (n := 0) (d := ten p.length) (m := p.length + 1) (by unfold Bd; have := pw_pos (p.length + 1); omega) (Bd_ten _) (by omega) (Int.ne_of_gt (ten_pos _))
    simp only [Bool.false_eq_true, if_false, e48]
    rw [show ((0 : Nat) : Int) = 0 from rfl, hm, bindO_s]
    unfold decQ signI
    rw [hn0]
    rfl
  ·rw [if_pos rfl, if_neg hz]
   have hne : (!(lz (w ++ p)).isEmpty) = true := by
    cases hq : lz (w ++ p) with
    | nil => exact absurd hq hz
    | cons c r => rfl
   rw [hne, Bool.or_true, Bool.and_true, if_pos rfl]
   dsimp only
   rw [if_neg (by simp)]
   have hcan := can_lz (neg := neg) hall hz
   have hll := (tw_len (· == 48) (w ++ p)).2
   rw [List.length_append] at hll
   have hll' : (lz (w ++ p)).length ≤ w.length + p.length := hll
   rw [it_Parse_eq (head45 (lz_all hall) hz) hcan (by cases neg <;> simp <;> omega), bindO_s]
   dsimp only
   rw [if_neg (by simp), dc_power_eq (by omega), bindO_s, num_lz]
   have hm := ra_Make_eq (n := signI neg (num (w ++ p))) (d := ten p.length) (m := w.length + p.length + 1) (Bd_sign hbn) ((Bd_ten _).mono (by omega)) (by omega) (Int.ne_of_gt (ten_pos _))
   unfold signI at hm
   rw [hm, bindO_s]
   rfl
end Go.Proofs.YtpdjgamdnjfmkaaDoor
namespace Go.Proofs.YtpdjgamdnjfmkaaDoor
open Go.RowKit
set_option linter.unusedVariables false
set_option linter.unusedSimpArgs false
end Go.Proofs.YtpdjgamdnjfmkaaDoor
namespace Go.Proofs.YtpdjgamdnjfmkaaDoor
open Go.RowKit
def prsB (s : List UInt8) : Bool := okD (strip s).1 (cutV (strip s).2).1 (cutV (strip s).2).2.1 (cutV (strip s).2).2.2
def prsQ (s : List UInt8) : Rat := decQ (strip s).1 (cutV (strip s).2).1 (cutV (strip s).2).2.1
theorem dc_Parse_all {s : List UInt8} (hl : s.length ≤ 20000) : dc_Parse s = some (if prsB s = true then (ofQ (prsQ s), 0) else (zeroR, 2)) := dc_Parse_eq rfl rfl hl
end Go.Proofs.YtpdjgamdnjfmkaaDoor
