/-
  The contract of swarfref33.Valid: it returns what interpolate.Valid returns.
-/
import Derived.Test.YtjdjcjhdaedakaaRfA
namespace Go.Proofs.Ytjdjcjhdaedakaa
open Go.RowKit

theorem quad_point (x y cx cy : Int) : quadD (x - cx) (y - cy) = pointD x y cx cy := by
  unfold quadD pointD dist; repeat' split
  all_goals omega
theorem quad_neg (x y cx cy : Int) : quadQ (x - cx) (y - cy) < 0 ↔ pointD x y cx cy = 0 := by
  unfold quadQ pointD dist; repeat' split
  all_goals omega
theorem quad_pointQ (x y cx cy : Int) (h : 0 < pointD x y cx cy) : quadQ (x - cx) (y - cy) = pointQ x y cx cy := by
  unfold pointD dist at h
  unfold quadQ pointQ
  repeat' split at h
  all_goals repeat' split
  all_goals omega

def anyBad (x y z tx ty tz : Int) : Bool := badM x || badM y || badM z || badM tx || badM ty || badM tz

theorem valid_line1 {x y z tx ty tz cx cy : Int} : validM x y z 1 tx ty tz cx cy 0 = if anyBad x y z tx ty tz = true then 11 else 0 := by
  rw [valid_line (by simp [rightM]) (by decide)]; simp [anyBad, or_assoc]
theorem valid_line2 {x y z tx ty tz cx cy r : Int} (hr : 0 < r) : validM x y z 2 tx ty tz cx cy r = if anyBad x y z tx ty tz = true then 11 else 0 := by
  rw [valid_line (by simp [rightM, hr]) (by decide)]; simp [anyBad, or_assoc]
theorem right_arc {x y k tx ty cx cy r : Int} (hk : k = 3 ∨ k = 4) (hr : 0 < r) : rightM x y k tx ty cx cy r = endsM x y tx ty cx cy := by
  unfold rightM endsM
  rw [if_neg (by omega), if_neg (by omega)]
  rcases hk with rfl | rfl <;> simp [hr]
theorem valid_none {x y z k tx ty tz cx cy r : Int} (h : ¬ (k = 1 ∧ r = 0)) (h2 : ¬ (k = 2 ∧ 0 < r)) (h3 : ¬ ((k = 3 ∨ k = 4) ∧ 0 < r)) : (1 : Int) = validM x y z k tx ty tz cx cy r := by
  unfold validM
  rw [if_pos]
  unfold rightM
  split
  · simp; omega
  · split
    · simp; omega
    · by_cases hk : k = 3 ∨ k = 4
      · have : ¬ 0 < r := by omega
        simp [this]
      · simp only [not_or] at hk
        simp [hk.1, hk.2]

set_option maxRecDepth 100000 in
set_option maxHeartbeats 1000000 in
theorem rvalid_line1 (x y z tx ty tz cx cy : Int) (w : World) :
    Calls Try.prog 15 #[.agg #[.int .i64 x, .int .i64 y, .int .i64 z], .agg #[.int .i64 1, .int .i64 tx, .int .i64 ty, .int .i64 tz, .int .i64 cx, .int .i64 cy, .int .i64 0]] w fun e w' => e = .returned (.int .i64 (validM x y z 1 tx ty tz cx cy 0)) ∧ Kp w w' := by
  go_enter Try.func15, Try.ntmps15
  go_upto_region 4 with fail
  go_cut [6] (fun s6 wx => s6 = .bool (anyBad x y z tx ty tz) ∧ Kp w wx)
  case first =>
    go_wp2_with (go_at_call 35; refine (rfar_any _ _).mono ?_; rintro e w' ⟨rfl, rfl⟩)
    all_goals
      go_meet
      refine ⟨?_, (by repeat (first | exact Kp.refl _ | assumption | (refine Kp.alloc ?_ _) | (refine Kp.drew ?_) | (refine Kp.drewN ?_ _) | (refine Kp.setCell ?_ (by first | omega | (simp only [World.size_alloc]; omega)) _) | (refine Kp.trans ?_ (by assumption))))⟩
      simp [anyBad, *]
  case rest =>
    cases hb : anyBad x y z tx ty tz
    all_goals
      rw [hb] at hcut
      obtain ⟨rfl, hkc⟩ := hcut
      go_wp2_with fail
      go_ret
      exact ⟨ret_int (by rw [valid_line1, hb]; rfl), hkc⟩

set_option maxRecDepth 100000 in
set_option maxHeartbeats 1000000 in
theorem rvalid_line2 (x y z tx ty tz cx cy r : Int) (w : World) (hr : 0 < r) :
    Calls Try.prog 15 #[.agg #[.int .i64 x, .int .i64 y, .int .i64 z], .agg #[.int .i64 2, .int .i64 tx, .int .i64 ty, .int .i64 tz, .int .i64 cx, .int .i64 cy, .int .i64 r]] w fun e w' => e = .returned (.int .i64 (validM x y z 2 tx ty tz cx cy r)) ∧ Kp w w' := by
  go_enter Try.func15, Try.ntmps15
  go_upto_region 4 with fail
  go_cut [6] (fun s6 wx => s6 = .bool (anyBad x y z tx ty tz) ∧ Kp w wx)
  case first =>
    go_wp2_with (go_at_call 35; refine (rfar_any _ _).mono ?_; rintro e w' ⟨rfl, rfl⟩)
    all_goals
      go_meet
      refine ⟨?_, (by repeat (first | exact Kp.refl _ | assumption | (refine Kp.alloc ?_ _) | (refine Kp.drew ?_) | (refine Kp.drewN ?_ _) | (refine Kp.setCell ?_ (by first | omega | (simp only [World.size_alloc]; omega)) _) | (refine Kp.trans ?_ (by assumption))))⟩
      simp [anyBad, *]
  case rest =>
    cases hb : anyBad x y z tx ty tz
    all_goals
      rw [hb] at hcut
      obtain ⟨rfl, hkc⟩ := hcut
      go_wp2_with fail
      go_ret
      exact ⟨ret_int (by rw [valid_line2 hr, hb]; rfl), hkc⟩

set_option maxRecDepth 100000 in
set_option maxHeartbeats 1000000 in
theorem rvalid_none (x y z k tx ty tz cx cy r : Int) (w : World) (h : ¬ (k = 1 ∧ r = 0)) (h2 : ¬ (k = 2 ∧ 0 < r)) (h3 : ¬ ((k = 3 ∨ k = 4) ∧ 0 < r)) :
    Calls Try.prog 15 #[.agg #[.int .i64 x, .int .i64 y, .int .i64 z], .agg #[.int .i64 k, .int .i64 tx, .int .i64 ty, .int .i64 tz, .int .i64 cx, .int .i64 cy, .int .i64 r]] w fun e w' => e = .returned (.int .i64 (validM x y z k tx ty tz cx cy r)) ∧ Kp w w' := by
  rw [← valid_none h h2 h3]
  by_cases k1 : k = 1
  · subst k1
    have r0 : (r == 0) = false := by simpa using h
    clear h h2 h3
    go_enter Try.func15, Try.ntmps15
    go_wp2_with (go_at_call 31; refine (rarc_any _ _ _ _ _ _ _ _).mono ?_; rintro e w1 ⟨rfl, hk1⟩; obtain ⟨hc1, hf1⟩ := hk1.see; have hz1 := hk1.size; (try simp only [World.size_alloc] at hz1); have hz1_0 : w.heap.size < w1.heap.size := (by omega); have hz1_1 : w.heap.size + 1 < w1.heap.size := (by omega))
    go_ret
    exact ⟨rfl, (by repeat (first | exact Kp.refl _ | assumption | (refine Kp.alloc ?_ _) | (refine Kp.drew ?_) | (refine Kp.drewN ?_ _) | (refine Kp.setCell ?_ (by first | omega | (simp only [World.size_alloc]; omega)) _) | (refine Kp.trans ?_ (by assumption))))⟩
  · by_cases k2 : k = 2
    · subst k2
      have r0 : ¬ 0 < r := by simpa using h2
      clear h h2 h3
      go_enter Try.func15, Try.ntmps15
      go_wp2_with (go_at_call 31; refine (rarc_any _ _ _ _ _ _ _ _).mono ?_; rintro e w1 ⟨rfl, hk1⟩; obtain ⟨hc1, hf1⟩ := hk1.see; have hz1 := hk1.size; (try simp only [World.size_alloc] at hz1); have hz1_0 : w.heap.size < w1.heap.size := (by omega); have hz1_1 : w.heap.size + 1 < w1.heap.size := (by omega))
      go_ret
      exact ⟨rfl, (by repeat (first | exact Kp.refl _ | assumption | (refine Kp.alloc ?_ _) | (refine Kp.drew ?_) | (refine Kp.drewN ?_ _) | (refine Kp.setCell ?_ (by first | omega | (simp only [World.size_alloc]; omega)) _) | (refine Kp.trans ?_ (by assumption))))⟩
    · have k1' : (k == 1) = false := by simpa using k1
      have k2' : (k == 2) = false := by simpa using k2
      by_cases k3 : k = 3 ∨ k = 4
      · have r0 : ¬ 0 < r := fun hr => h3 ⟨k3, hr⟩
        have k3' : (k == 3 || k == 4) = true := by simpa using k3
        clear h h2 h3 k3 k1 k2
        go_enter Try.func15, Try.ntmps15
        go_wp2_with (go_at_call 31; refine (rarc_any _ _ _ _ _ _ _ _).mono ?_; rw [k3']; rintro e w1 ⟨rfl, hk1⟩; obtain ⟨hc1, hf1⟩ := hk1.see; have hz1 := hk1.size; (try simp only [World.size_alloc] at hz1); have hz1_0 : w.heap.size < w1.heap.size := (by omega); have hz1_1 : w.heap.size + 1 < w1.heap.size := (by omega))
        go_ret
        exact ⟨rfl, (by repeat (first | exact Kp.refl _ | assumption | (refine Kp.alloc ?_ _) | (refine Kp.drew ?_) | (refine Kp.drewN ?_ _) | (refine Kp.setCell ?_ (by first | omega | (simp only [World.size_alloc]; omega)) _) | (refine Kp.trans ?_ (by assumption))))⟩
      · have k3' : (k == 3 || k == 4) = false := by simpa using k3
        clear h h2 h3 k3 k1 k2
        go_enter Try.func15, Try.ntmps15
        go_wp2_with (go_at_call 31; refine (rarc_any _ _ _ _ _ _ _ _).mono ?_; rw [k3']; rintro e w1 ⟨rfl, hk1⟩; obtain ⟨hc1, hf1⟩ := hk1.see; have hz1 := hk1.size; (try simp only [World.size_alloc] at hz1); have hz1_0 : w.heap.size < w1.heap.size := (by omega); have hz1_1 : w.heap.size + 1 < w1.heap.size := (by omega))
        go_ret
        exact ⟨rfl, (by repeat (first | exact Kp.refl _ | assumption | (refine Kp.alloc ?_ _) | (refine Kp.drew ?_) | (refine Kp.drewN ?_ _) | (refine Kp.setCell ?_ (by first | omega | (simp only [World.size_alloc]; omega)) _) | (refine Kp.trans ?_ (by assumption))))⟩

end Go.Proofs.Ytjdjcjhdaedakaa
