/-
  Jd, Je in one text.
-/
import Derived.Test.YtipefnighcdgnaaGreatDoorJx
namespace Go.Proofs.YtipefnighcdgnaaGreatDoor
open Go.RowKit
set_option linter.unusedVariables false
set_option linter.unusedSimpArgs false
def goodB (w p : List UInt8) (pt : Bool) : Bool := digB w && (!(decide (1 < w.length) && w.head? == some 48) && (!pt || (digB p && decide (p.length ≤ 30))))
def lz (l : List UInt8) : List UInt8 := l.dropWhile (· == 48)
def okD (neg : Bool) (w p : List UInt8) (pt : Bool) : Bool := goodB w p pt && (!neg || !(lz (w ++ p)).isEmpty)
theorem c48b (c : UInt8) : ((c.toNat : Int) == 48) = (c == 48) := by
 by_cases h : c = 48
 ·subst h; rfl
 ·have h2 : c.toNat ≠ 48 := fun z => h (UInt8.toNat_inj.1 (by rw [z]; rfl))
  rw [beq_eq_false_iff_ne.2 h, beq_eq_false_iff_ne.2 (by omega)]
theorem dc_plain_eq (l : List UInt8) (hl : l.length ≤ 1000000) : dc_plain l = some (digB l) := by
 unfold dc_plain digB
 cases l with
 | nil => rfl
 | cons c r =>
  have h1 : ((c :: r) == []) = false := rfl
  rw [h1]
  simp only [Bool.false_eq_true, if_false]
  unfold strings_Trim
  rw [show (([48, 49, 50, 51, 52, 53, 54, 55, 56, 57] : List UInt8).all fun c => decide (c.toNat < 128)) = true by decide, decide_eq_true (show (c :: r).length ≤ 9223372036854775807 by omega), decide_eq_true (show ([48, 49, 50, 51, 52, 53, 54, 55, 56, 57] : List UInt8).length < 4294967281 by decide)]
  simp only [Bool.and_true, guardO_t, bindO_s]
  rw [trim_nil _ _ isD digs_contains]
  simp
theorem dc_digits_eq {s : List UInt8} {neg : Bool} {b w p : List UInt8} {pt : Bool} (hs : strip s = (neg, b)) (hc : cutV b = (w, p, pt)) (hl : s.length ≤ 65536) : dc_digits s = some (if goodB w p pt = true then (if lz (w ++ p) = [] then ([48], (p.length : Int), !neg) else ((if neg = true then [45] else []) ++ lz (w ++ p), (p.length : Int), true)) else ([], 0, false)) := by
 have hbl : b.length ≤ s.length := by have := strip_len s; rw [hs] at this; exact this
 have hwp : w.length + p.length ≤ b.length := by
  have h1 := cutV_inv b
  rw [hc] at h1
  obtain ⟨h2, h3⟩ := h1
  dsimp only at h2 h3
  rw [h2]
  cases pt with
  | true => simp <;> omega
  | false => rw [h3 rfl]; simp
 unfold dc_digits
 rw [decide_eq_false (show ¬ (s.length : Int) > 65536 by omega), if_neg (by simp), cutPre s (by omega), hs, bindO_s]
 dsimp only
 rw [cutEq b (by omega), hc, bindO_s]
 dsimp only
 apply Tot.get
 refine Tot.bind (E := fun v => v = !goodB w p pt) ?_ (fun v hv => ?_)
 ·rw [dc_plain_eq w (by omega), bindO_s, dc_plain_eq p (by omega), bindO_s]
  unfold goodB
  refine Tot.ite (fun q => ?_) (fun q => .ok (by rw [q]; rfl))
  rw [q]
  have hP : Tot (if pt = true then (if digB p = true then some (decide ((p.length : Int) > 30)) else some true) else some false) (fun v => v = !(!pt || (digB p && decide (p.length ≤ 30)))) := by
   cases pt with
   | false => exact .ok rfl
   | true =>
    cases hd : digB p with
    | false => exact .ok rfl
    | true =>
     refine .ok ?_
     simp only [Bool.not_true, Bool.false_or, Bool.true_and]
     by_cases z : p.length ≤ 30
     ·rw [decide_eq_true z, decide_eq_false (by omega)]; rfl
     ·rw [decide_eq_false z, decide_eq_true (by omega)]; rfl
  refine Tot.ite (fun q2 => ?_) (fun q2 => ?_)
  ·have hw : 1 < w.length := by simp at q2; omega
   rw [decide_eq_true hw]
   cases hww : w with
   | nil => rw [hww] at hw; simp at hw
   | cons c r =>
    have e0 : gt (c :: r) 0 = some c := rfl
    rw [e0, bindO_s]
    refine Tot.ite (fun q3 => .ok ?_) (fun q3 => hP.mono (fun v hv => ?_))
    ·rw [c48b] at q3
     have : c = 48 := by simpa using q3
     subst this; rfl
    ·rw [c48b] at q3
     rw [hv]
     have : ((c :: r).head? == some 48) = false := by simpa using q3
     rw [this]; rfl
  ·have hw : ¬ 1 < w.length := by simp at q2; omega
   rw [decide_eq_false hw]
   exact hP.mono (fun v hv => by rw [hv]; rfl)
 ·subst hv
  cases hg : goodB w p pt with
  | false => exact .ok rfl
  | true =>
   refine Tot.ite (fun q => by cases q) (fun _ => ?_)
   rw [okStr_of (by omega), guardO_t]
   have ht : strings_TrimLeft (w ++ p) [48] = some (lz (w ++ p)) := by
    show guardO (decide ((48 : UInt8).toNat < 128) && decide ((w ++ p).length ≤ 9223372036854775807)) (some (Lib.trimLeftB (w ++ p) 48)) = _
    rw [decide_eq_true (show (48 : UInt8).toNat < 128 by decide), decide_eq_true (show (w ++ p).length ≤ 9223372036854775807 by simp; omega)]
    rfl
   rw [ht, bindO_s]
   refine Tot.ite (fun q => ?_) (fun q => ?_)
   ·have q' : lz (w ++ p) = [] := by simpa using q
    rw [if_pos rfl, if_pos q']
    exact .ok rfl
   ·have q' : lz (w ++ p) ≠ [] := by simpa using q
    rw [if_pos rfl, if_neg q']
    have hll := (tw_len (· == 48) (w ++ p)).2
    rw [List.length_append] at hll
    have hll' : (lz (w ++ p)).length ≤ w.length + p.length := hll
    cases neg with
    | true =>
     have : okStr [45] (lz (w ++ p)) = true := okStr_of (by simp; omega)
     rw [this]
     exact .ok rfl
    | false => exact .ok rfl
theorem num_lz : ∀ (l : List UInt8), num (lz l) = num l
 | [] => rfl
 | c :: l => by
  unfold lz
  rw [List.dropWhile_cons]
  split
  ·rename_i h
   have : c = 48 := by simpa using h
   subst this
   have := num_lz l
   unfold lz at this
   rw [this]
   show num l = numA 0 (48 :: l)
   rw [numA_cons]; rfl
  ·rfl
theorem lz_all {l : List UInt8} (h : l.all isD = true) : (lz l).all isD = true := by
 rw [List.all_eq_true] at h ⊢
 intro x hx
 exact h x ((List.dropWhile_sublist _).mem hx)
theorem digB_all {l : List UInt8} (h : digB l = true) : l.all isD = true ∧ l ≠ [] := by
 unfold digB at h
 rw [Bool.and_eq_true] at h
 exact ⟨h.1, fun z => by rw [z] at h; simp at h⟩
theorem good_all {w p : List UInt8} {pt : Bool} (h : goodB w p pt = true) (hp : pt = false → p = []) : w.all isD = true ∧ w ≠ [] ∧ p.all isD = true ∧ (pt = true → p ≠ []) ∧ p.length ≤ 30 := by
 unfold goodB at h
 simp only [Bool.and_eq_true, Bool.or_eq_true, Bool.not_eq_true', decide_eq_true_eq] at h
 obtain ⟨h1, h2, h3⟩ := h
 obtain ⟨h4, h5⟩ := digB_all h1
 cases pt with
 | false => rw [hp rfl]; exact ⟨h4, h5, rfl, (fun z => by cases z), by simp⟩
 | true =>
  rcases h3 with z | ⟨z1, z2⟩
  ·cases z
  ·exact ⟨h4, h5, (digB_all z1).1, fun _ => (digB_all z1).2, z2⟩
def signI (neg : Bool) (n : Nat) : Int := if neg = true then -(n : Int) else (n : Int)
def ten (n : Nat) : Int := ((10 ^ n : Nat) : Int)
theorem ten_succ (n : Nat) : ten (n + 1) = ten n * 10 := by unfold ten; rw [Nat.pow_succ, Int.natCast_mul]; rfl
theorem Bd_ten (n : Nat) : Bd (n + 1) (ten n) := by
 unfold Bd ten
 have h2 : 10 ^ n ≤ 10 ^ (9 * n) := Nat.pow_le_pow_right (by omega) (by omega)
 have h3 := pw_ten n
 have h4 := pw_pos n
 rw [pw_succ, Int.natAbs_natCast, h3]
 generalize 10 ^ n = A at *
 generalize 10 ^ (9 * n) = B at *
 omega
theorem BQ_ten (n : Nat) : BQ (n + 1) ((ten n : Int) : Rat) := BQ.int (Bd_ten n) (by omega)
theorem r06_Power_eq {n : Nat} (hn : n ≤ 1000) : r06_Power (n : Int) = some (ofQ ((ten n : Int) : Rat)) := by
 apply Tot.get
 unfold r06_Power
 rw [r02_FromInt64_eq (by omega) (by omega), bindO_s]
 refine Tot.bind (E := fun v => v = ofQ ((ten n : Int) : Rat)) (Tot.loop (fun m v => ∃ j : Nat, m + j = n ∧ v = ((j : Int), ofQ ((ten j : Int) : Rat))) _ n (fuel_gt (by omega)) ⟨0, by omega, rfl⟩ (fun m v hv => ?_)) (fun v hv => .ok hv)
 obtain ⟨j, hj, rfl⟩ := hv
 dsimp only
 refine TotX.ite (fun q => ?_) (fun q => .ret ?_)
 ·have q' : j < n := by simp at q; omega
  have h10 : BQ 3 ((10 : Int) : Rat) := BQ.int (Bd.i64 (by omega) (by omega)) (by omega)
  rw [r02_FromInt64_eq (by omega) (by omega), bindO_s, r02_Mul_eq (BQ_ten j) h10 (by omega), bindO_s, wI64 (by omega) (by omega), ← Rat.intCast_mul, ← ten_succ]
  exact .go ⟨m - 1, by omega, j + 1, by omega, rfl⟩
 ·have q' : ¬ j < n := by simp at q; omega
  rw [show j = n by omega]
end Go.Proofs.YtipefnighcdgnaaGreatDoor
namespace Go.Proofs.YtipefnighcdgnaaGreatDoor
open Go.RowKit
set_option linter.unusedVariables false
set_option linter.unusedSimpArgs false
theorem c46 (c : UInt8) : ((c.toNat : Int) == 46) = (c == 46) := by
 by_cases h : c = 46
 ·subst h; rfl
 ·have h2 : c.toNat ≠ 46 := fun z => h (UInt8.toNat_inj.1 (by rw [z]; rfl))
  rw [beq_eq_false_iff_ne.2 h, beq_eq_false_iff_ne.2 (by omega)]
theorem cutV_len {b w p : List UInt8} {pt : Bool} (hc : cutV b = (w, p, pt)) : b.length = w.length + (if pt = true then p.length + 1 else 0) ∧ (pt = false → p = []) := by
 have hinv := cutV_inv b
 rw [hc] at hinv
 obtain ⟨hi1, hi2⟩ := hinv
 dsimp only at hi1 hi2
 refine ⟨?_, hi2⟩
 rw [hi1]
 cases pt with
 | true => simp
 | false => simp
end Go.Proofs.YtipefnighcdgnaaGreatDoor
