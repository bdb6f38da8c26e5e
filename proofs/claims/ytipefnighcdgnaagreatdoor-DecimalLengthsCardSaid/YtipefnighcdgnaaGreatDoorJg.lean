import Derived.Test.YtipefnighcdgnaaGreatDoorJf
namespace Go.Proofs.YtipefnighcdgnaaGreatDoor
open Go.RowKit
set_option linter.unusedVariables false
set_option linter.unusedSimpArgs false
def padT (d : List UInt8) (k : Nat) : List UInt8 := zer (k + 1 - d.length) ++ d
def intP (d : List UInt8) (k : Nat) : List UInt8 := (padT d k).take ((padT d k).length - k)
def frcP (d : List UInt8) (k : Nat) : List UInt8 := (padT d k).drop ((padT d k).length - k)
def ptxt (z : Int) (k : Nat) : List UInt8 := (if z < 0 then [45] else []) ++ (if k = 0 then Lib.decDigits z.natAbs else intP (Lib.decDigits z.natAbs) k ++ [46] ++ frcP (Lib.decDigits z.natAbs) k)
theorem padT_len (d : List UInt8) (k : Nat) : (padT d k).length = max d.length (k + 1) := by
 unfold padT; rw [List.length_append, zer_len]; omega
theorem txtZ_len {z : Int} {n : Nat} (hz : Bd n z) (hn : 1 ≤ n) : (Lib.decDigits z.natAbs).length ≤ 9 * n := by
 unfold Bd at hz
 rw [pw_ten] at hz
 exact dd_lenB (by omega) (by omega)
theorem cut_point {sg' v : List UInt8} {k : Nat} (hv : k ≤ v.length) (hs : sg'.length ≤ 1) (hl : v.length ≤ 10000) : Tot (bindO (cutT v (IntKind.i64.wrap ((v.length : Int) - (k : Int)))) fun (s2 : (List UInt8)) =>
  guardO (okStr sg' s2) (
  guardO (okStr (sg' ++ s2) [46]) (
  bindO (cutF v (IntKind.i64.wrap ((v.length : Int) - (k : Int)))) fun (s3 : (List UInt8)) =>
  guardO (okStr ((sg' ++ s2) ++ [46]) s3) (
  some (((sg' ++ s2) ++ [46]) ++ s3))))) (fun e => e = sg' ++ (v.take (v.length - k) ++ [46] ++ v.drop (v.length - k))) := by
 have e : IntKind.i64.wrap ((v.length : Int) - (k : Int)) = ((v.length - k : Nat) : Int) := by rw [wI64 (by omega) (by omega)]; omega
 rw [e, cutT_k (by omega), bindO_s]
 have hc : cutF v ((v.length - k : Nat) : Int) = some (v.drop (v.length - k)) := by
  unfold cutF
  rw [if_neg (by omega), Int.toNat_natCast]
 refine Tot.guard (okStr_of (by simp; omega)) (Tot.guard (okStr_of (by simp; omega)) ?_)
 rw [hc, bindO_s]
 refine Tot.guard (okStr_of (by simp; omega)) (.ok (by simp only [List.append_assoc]))
theorem cut1 {l : List UInt8} : cutF (45 :: l) 1 = some l := by
 unfold cutF
 rw [if_neg (by simp; omega)]; rfl
theorem r06_shown_eq {z : Int} {n k : Nat} (hz : Bd n z) (hn : n ≤ 900) (hn1 : 1 ≤ n) (hk : k ≤ 30) : r06_shown (ofI z) (k : Int) = some (ptxt z k) := by
 have hdl := txtZ_len hz hn1
 have hdn : 1 ≤ (Lib.decDigits z.natAbs).length := List.length_pos_iff.2 (dd_ne _)
 apply Tot.get
 unfold r06_shown
 rw [r01_Format_eq hz (by omega), bindO_s]
 have hc : ∃ c, gt (txtZ z) 0 = some c ∧ (c == 45) = decide (z < 0) := by
  unfold txtZ
  by_cases h : z < 0
  ·rw [if_pos h, decide_eq_true h]; exact ⟨45, rfl, rfl⟩
  ·rw [if_neg h, decide_eq_false h]
   cases hd : Lib.decDigits z.natAbs with
   | nil => exact absurd hd (dd_ne _)
   | cons c r =>
    refine ⟨c, rfl, ?_⟩
    have := List.all_eq_true.1 (dd_dig z.natAbs) c (by rw [hd]; simp)
    exact beq_eq_false_iff_ne.2 (dig_ne this).2
 obtain ⟨c, hc1, hc2⟩ := hc
 rw [hc1, bindO_s, c45, hc2]
 refine Tot.bind (E := fun v => v = (Lib.decDigits z.natAbs, if z < 0 then [45] else [])) (Tot.ite (fun q => ?_) (fun q => .ok ?_)) (fun v hv => ?_)
 ·have q' : z < 0 := by simpa using q
  unfold txtZ
  rw [if_pos q']
  show Tot (bindO (cutF (45 :: Lib.decDigits z.natAbs) 1) _) _
  rw [cut1, bindO_s]
  exact .ok rfl
 ·have q' : ¬ z < 0 := by simpa using q
  unfold txtZ
  rw [if_neg q']; rfl
 ·subst hv
  dsimp only
  have hsl : (if z < 0 then ([45] : List UInt8) else []).length ≤ 1 := by split <;> simp
  unfold ptxt
  generalize (if z < 0 then ([45] : List UInt8) else []) = sg' at *
  generalize Lib.decDigits z.natAbs = d at *
  refine Tot.bind (E := fun v => v = padT d k) (Tot.loop (fun m v => ∃ j : Nat, v = zer j ++ d ∧ m + j = k + 1 - d.length) _ (k + 1 - d.length) (fuel_gt (by omega)) ⟨0, rfl, rfl⟩ (fun m v hv => ?_)) (fun v hv => ?_)
  ·obtain ⟨j, rfl, hj⟩ := hv
   have hlj : (zer j ++ d).length = j + d.length := by rw [List.length_append, zer_len]
   rw [hlj]
   refine TotX.ite (fun q => ?_) (fun q => .ret ?_)
   ·have q' : j + d.length ≤ k := by simp at q; omega
    refine TotX.guard (okStr_of (by rw [hlj]; simp; omega)) (.go ⟨m - 1, by omega, j + 1, ?_, by omega⟩)
    show 48 :: (zer j ++ d) = zer (j + 1) ++ d
    unfold zer
    rw [List.replicate_succ]; rfl
   ·have q' : ¬ j + d.length ≤ k := by simp at q; omega
    unfold padT
    rw [show j = k + 1 - d.length by omega]
  ·subst hv
   have hp := padT_len d k
   refine Tot.ite (fun q => ?_) (fun q => ?_)
   ·have q' : k = 0 := by simpa using q
    rw [if_pos q']
    have : padT d k = d := by unfold padT; rw [show k + 1 - d.length = 0 by omega]; rfl
    rw [this]
    exact Tot.guard (okStr_of (by omega)) (.ok rfl)
   ·have q' : ¬ k = 0 := by simpa using q
    rw [if_neg q']
    exact cut_point (by omega) hsl (by omega)
end Go.Proofs.YtipefnighcdgnaaGreatDoor
