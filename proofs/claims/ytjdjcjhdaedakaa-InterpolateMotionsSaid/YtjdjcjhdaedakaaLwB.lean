/-
  The walk of the law InterpolateArc.
-/
import Derived.Test.YtjdjcjhdaedakaaFwA
namespace Go.Proofs.Ytjdjcjhdaedakaa
open Go.RowKit

theorem few_one (x y z k tx ty tz cx cy r : Int) (w : World) (hx : I64 x) (hy : I64 y) (hz : I64 z) (hkk : I64 k) (htx : I64 tx) (hty : I64 ty) (htz : I64 tz) (hcx : I64 cx) (hcy : I64 cy) (hrr : I64 r) :
    Calls Try.prog 17 #[.agg #[.int .i64 x, .int .i64 y, .int .i64 z], .slice (some ⟨w.heap.size, 0, none⟩) 1 1, .int .i64 1] (w.alloc (.cells #[.int .i64 k, .int .i64 tx, .int .i64 ty, .int .i64 tz, .int .i64 cx, .int .i64 cy, .int .i64 r] 27)) fun e w' => e = .returned (.bool (fewM x y z [⟨k, tx, ty, tz, cx, cy, r⟩])) ∧ Kp (w.alloc (.cells #[.int .i64 k, .int .i64 tx, .int .i64 ty, .int .i64 tz, .int .i64 cx, .int .i64 cy, .int .i64 r] 27)) w' :=
  few_any x y z _ [⟨k, tx, ty, tz, cx, cy, r⟩] 1 _ hx hy hz (Rd.of_own (World.ownsRow_lit (base := 0) (e := 27) (size := 7) w #[.int .i64 k, .int .i64 tx, .int .i64 ty, .int .i64 tz, .int .i64 cx, .int .i64 cy, .int .i64 r] 1 (by omega) (by unfold maxLen; omega) rfl)) (by simp only [List.mem_cons, List.not_mem_nil, or_false, forall_eq]; exact ⟨hkk, htx, hty, htz, hcx, hcy, hrr⟩) (by simp) (by simp)

theorem arcM_len (x y z k tx ty tz cx cy : Int) (h : pointD x y cx cy ≤ 10000000) : (arcM x y z k tx ty tz cx cy).length ≤ 4000 := by
  unfold arcM
  simp only [List.length_map, List.length_range]
  have q := quartersM_bd x y k tx ty cx cy
  by_cases hp : pointD x y cx cy ≤ 0
  · rw [chordsM_neg hp]; simp
  · have n2 := (chordsM_is (r := pointD x y cx cy) (by omega)).le (b := 1000) (by omega) (by omega)
    have : (chordsM (pointD x y cx cy)).toNat * (quartersM x y k tx ty cx cy).toNat ≤ 1000 * 4 := Nat.mul_le_mul (by omega) (by omega)
    omega

set_option maxRecDepth 100000 in
set_option maxHeartbeats 1000000 in
theorem lawArc_far (x y z k tx ty tz cx cy r : Int) (w : World) (hx : I64 x) (hy : I64 y) (hz : I64 z) (htx : I64 tx) (hty : I64 ty) (htz : I64 tz) (hcx : I64 cx) (hcy : I64 cy) (hkk : I64 k) (hrr : I64 r) (hfew : fewM x y z [⟨k, tx, ty, tz, cx, cy, r⟩] = false) :
    Calls Try.prog 5 #[.agg #[.int .i64 x, .int .i64 y, .int .i64 z], .agg #[.int .i64 k, .int .i64 tx, .int .i64 ty, .int .i64 tz, .int .i64 cx, .int .i64 cy, .int .i64 r]] w fun e w' => e = .returned (.bool true) ∧ Kp w w' := by
  go_enter Try.func5, Try.ntmps5
  go_wp2_with fail
  refine (awake_any _).mono ?_
  rintro e w1 ⟨rfl, hk1⟩; obtain ⟨hc1, hf1⟩ := hk1.see; have hz1 := hk1.size; (try simp only [World.size_alloc] at hz1); have hz1_0 : w.heap.size < w1.heap.size := (by omega); have hz1_1 : w.heap.size + 1 < w1.heap.size := (by omega)
  go_wp2_with (go_at_call 17; refine (few_one _ _ _ _ _ _ _ _ _ _ _ hx hy hz hkk htx hty htz hcx hcy hrr).mono ?_; rw [hfew]; rintro e w2 ⟨rfl, hk2⟩; obtain ⟨hc2, hf2⟩ := hk2.see; have hz2 := hk2.size; (try simp only [World.size_alloc] at hz2); have hz2_0 : w.heap.size < w2.heap.size := (by omega); have hz2_1 : w.heap.size + 1 < w2.heap.size := (by omega))
  refine (awake_any _).mono ?_
  rintro e w3 ⟨rfl, hk3⟩; obtain ⟨hc3, hf3⟩ := hk3.see; have hz3 := hk3.size; (try simp only [World.size_alloc] at hz3); have hz3_0 : w.heap.size < w3.heap.size := (by omega); have hz3_1 : w.heap.size + 1 < w3.heap.size := (by omega)
  go_wp2_with fail
  go_ret
  exact ⟨rfl, (by repeat (first | exact Kp.refl _ | assumption | (refine Kp.alloc ?_ _) | (refine Kp.drew ?_) | (refine Kp.drewN ?_ _) | (refine Kp.setCell ?_ (by first | omega | (simp only [World.size_alloc]; omega)) _) | (refine Kp.trans ?_ (by assumption))))⟩

set_option maxRecDepth 100000 in
set_option maxHeartbeats 1000000 in
theorem lawArc_line (x y z k tx ty tz cx cy r : Int) (w : World) (hx : I64 x) (hy : I64 y) (hz : I64 z) (htx : I64 tx) (hty : I64 ty) (htz : I64 tz) (hcx : I64 cx) (hcy : I64 cy) (hkk : I64 k) (hrr : I64 r) (hfew : fewM x y z [⟨k, tx, ty, tz, cx, cy, r⟩] = true) (hk : (k == 3 || k == 4) = false) :
    Calls Try.prog 5 #[.agg #[.int .i64 x, .int .i64 y, .int .i64 z], .agg #[.int .i64 k, .int .i64 tx, .int .i64 ty, .int .i64 tz, .int .i64 cx, .int .i64 cy, .int .i64 r]] w fun e w' => e = .returned (.bool true) ∧ Kp w w' := by
  go_enter Try.func5, Try.ntmps5
  go_wp2_with (first | (go_at_call 11; refine (awake_any _).mono ?_; rintro e w1 ⟨rfl, hk1⟩; obtain ⟨hc1, hf1⟩ := hk1.see; have hz1 := hk1.size; (try simp only [World.size_alloc] at hz1); have hz1_0 : w.heap.size < w1.heap.size := (by omega); have hz1_1 : w.heap.size + 1 < w1.heap.size := (by omega)) | (go_at_call 17; refine (few_one _ _ _ _ _ _ _ _ _ _ _ hx hy hz hkk htx hty htz hcx hcy hrr).mono ?_; rw [hfew]; rintro e w2 ⟨rfl, hk2⟩; obtain ⟨hc2, hf2⟩ := hk2.see; have hz2 := hk2.size; (try simp only [World.size_alloc] at hz2); have hz2_0 : w.heap.size < w2.heap.size := (by omega); have hz2_1 : w.heap.size + 1 < w2.heap.size := (by omega)) | (go_at_call 18; refine (arc_line _ _ _ _ _ _ _ _ _ _ _ hk).mono ?_; rintro e w3 ⟨rfl, hk3⟩; obtain ⟨hc3, hf3⟩ := hk3.see; have hz3 := hk3.size; (try simp only [World.size_alloc] at hz3); have hz3_0 : w.heap.size < w3.heap.size := (by omega); have hz3_1 : w.heap.size + 1 < w3.heap.size := (by omega)) | (go_at_call 19; refine (rarcs_line _ _ _ _ _ _ _ _ _ _ _ hk).mono ?_; rintro e w4 ⟨rfl, hk4⟩; obtain ⟨hc4, hf4⟩ := hk4.see; have hz4 := hk4.size; (try simp only [World.size_alloc] at hz4); have hz4_0 : w.heap.size < w4.heap.size := (by omega); have hz4_1 : w.heap.size + 1 < w4.heap.size := (by omega)) | (go_at_call 20; refine (same_any _ _ [] [] _ (Rd.nil _ _) (Rd.nil _ _) (by decide) (by decide)).mono ?_; rw [show sameM [] [] = true from rfl]; rintro e w5 ⟨rfl, hk5⟩; obtain ⟨hc5, hf5⟩ := hk5.see; have hz5 := hk5.size; (try simp only [World.size_alloc] at hz5)))
  go_ret
  exact ⟨rfl, (by repeat (first | exact Kp.refl _ | assumption | (refine Kp.alloc ?_ _) | (refine Kp.drew ?_) | (refine Kp.drewN ?_ _) | (refine Kp.setCell ?_ (by first | omega | (simp only [World.size_alloc]; omega)) _) | (refine Kp.trans ?_ (by assumption))))⟩

set_option maxRecDepth 100000 in
set_option maxHeartbeats 1000000 in
theorem lawArc_bad (x y z k tx ty tz cx cy r : Int) (w : World) (hx : I64 x) (hy : I64 y) (hz : I64 z) (htx : I64 tx) (hty : I64 ty) (htz : I64 tz) (hcx : I64 cx) (hcy : I64 cy) (hkk : I64 k) (hrr : I64 r) (hfew : fewM x y z [⟨k, tx, ty, tz, cx, cy, r⟩] = true) (hk : (k == 3 || k == 4) = true) (hv : (validM x y z k tx ty tz cx cy r != 0) = true) :
    Calls Try.prog 5 #[.agg #[.int .i64 x, .int .i64 y, .int .i64 z], .agg #[.int .i64 k, .int .i64 tx, .int .i64 ty, .int .i64 tz, .int .i64 cx, .int .i64 cy, .int .i64 r]] w fun e w' => e = .returned (.bool true) ∧ Kp w w' := by
  go_enter Try.func5, Try.ntmps5
  go_wp2_with (first | (go_at_call 11; refine (awake_any _).mono ?_; rintro e w1 ⟨rfl, hk1⟩; obtain ⟨hc1, hf1⟩ := hk1.see; have hz1 := hk1.size; (try simp only [World.size_alloc] at hz1); have hz1_0 : w.heap.size < w1.heap.size := (by omega); have hz1_1 : w.heap.size + 1 < w1.heap.size := (by omega)) | (go_at_call 17; refine (few_one _ _ _ _ _ _ _ _ _ _ _ hx hy hz hkk htx hty htz hcx hcy hrr).mono ?_; rw [hfew]; rintro e w2 ⟨rfl, hk2⟩; obtain ⟨hc2, hf2⟩ := hk2.see; have hz2 := hk2.size; (try simp only [World.size_alloc] at hz2); have hz2_0 : w.heap.size < w2.heap.size := (by omega); have hz2_1 : w.heap.size + 1 < w2.heap.size := (by omega)) | (go_at_call 18; refine (arc_bad _ _ _ _ _ _ _ _ _ _ _ hx hy hz htx hty htz hcx hcy hk hv).mono ?_; rintro e w3 ⟨rfl, hk3⟩; obtain ⟨hc3, hf3⟩ := hk3.see; have hz3 := hk3.size; (try simp only [World.size_alloc] at hz3); have hz3_0 : w.heap.size < w3.heap.size := (by omega); have hz3_1 : w.heap.size + 1 < w3.heap.size := (by omega)) | (go_at_call 19; refine (rarcs_bad _ _ _ _ _ _ _ _ _ _ _ hx hy htx hty hcx hcy hk hv).mono ?_; rintro e w4 ⟨rfl, hk4⟩; obtain ⟨hc4, hf4⟩ := hk4.see; have hz4 := hk4.size; (try simp only [World.size_alloc] at hz4); have hz4_0 : w.heap.size < w4.heap.size := (by omega); have hz4_1 : w.heap.size + 1 < w4.heap.size := (by omega)) | (go_at_call 20; refine (same_any _ _ [] [] _ (Rd.nil _ _) (Rd.nil _ _) (by decide) (by decide)).mono ?_; rw [show sameM [] [] = true from rfl]; rintro e w5 ⟨rfl, hk5⟩; obtain ⟨hc5, hf5⟩ := hk5.see; have hz5 := hk5.size; (try simp only [World.size_alloc] at hz5)))
  go_ret
  exact ⟨rfl, (by repeat (first | exact Kp.refl _ | assumption | (refine Kp.alloc ?_ _) | (refine Kp.drew ?_) | (refine Kp.drewN ?_ _) | (refine Kp.setCell ?_ (by first | omega | (simp only [World.size_alloc]; omega)) _) | (refine Kp.trans ?_ (by assumption))))⟩

set_option maxRecDepth 100000 in
set_option maxHeartbeats 1000000 in
theorem lawArc_good (x y z k tx ty tz cx cy r : Int) (w : World) (hx : I64 x) (hy : I64 y) (hz : I64 z) (htx : I64 tx) (hty : I64 ty) (htz : I64 tz) (hcx : I64 cx) (hcy : I64 cy) (hkk : I64 k) (hrr : I64 r) (hfew : fewM x y z [⟨k, tx, ty, tz, cx, cy, r⟩] = true) (hk : (k == 3 || k == 4) = true) (hv : (validM x y z k tx ty tz cx cy r != 0) = false) :
    Calls Try.prog 5 #[.agg #[.int .i64 x, .int .i64 y, .int .i64 z], .agg #[.int .i64 k, .int .i64 tx, .int .i64 ty, .int .i64 tz, .int .i64 cx, .int .i64 cy, .int .i64 r]] w fun e w' => e = .returned (.bool true) ∧ Kp w w' := by
  have hlen := arcM_len x y z k tx ty tz cx cy (valid0 (by simpa using hk) (by simpa using hv)).2.2.1
  go_enter Try.func5, Try.ntmps5
  go_wp2_with (first | (go_at_call 11; refine (awake_any _).mono ?_; rintro e w1 ⟨rfl, hk1⟩; obtain ⟨hc1, hf1⟩ := hk1.see; have hz1 := hk1.size; (try simp only [World.size_alloc] at hz1); have hz1_0 : w.heap.size < w1.heap.size := (by omega); have hz1_1 : w.heap.size + 1 < w1.heap.size := (by omega)) | (go_at_call 17; refine (few_one _ _ _ _ _ _ _ _ _ _ _ hx hy hz hkk htx hty htz hcx hcy hrr).mono ?_; rw [hfew]; rintro e w2 ⟨rfl, hk2⟩; obtain ⟨hc2, hf2⟩ := hk2.see; have hz2 := hk2.size; (try simp only [World.size_alloc] at hz2); have hz2_0 : w.heap.size < w2.heap.size := (by omega); have hz2_1 : w.heap.size + 1 < w2.heap.size := (by omega)) | fail)
  refine (arc_good _ _ _ _ _ _ _ _ _ _ _ hx hy hz htx hty htz hcx hcy hk hv).mono ?_
  rintro e w3 ⟨v3, rfl, hown3, hk3⟩
  have hr3 := Rd.of_own hown3
  obtain ⟨hc3, hf3⟩ := hk3.see
  have hz3 := hk3.size
  have hz3_0 : w.heap.size < w3.heap.size := by omega
  have hz3_1 : w.heap.size + 1 < w3.heap.size := by omega
  clear hown3
  go_wp2_with fail
  refine (rarcs_good _ _ _ _ _ _ _ _ _ _ _ hx hy htx hty hcx hcy hk hv).mono ?_
  rintro e w4 ⟨v4, rfl, hown4, hk4⟩
  have hr4 := Rd.of_own hown4
  clear hown4
  go_wp2_with (go_at_call 20; refine (same_any _ _ _ _ _ (hr3.kp hk4) hr4 (by omega) (by omega)).mono ?_; rw [show ∀ l, sameM l l = true from fun l => decide_eq_true rfl]; rintro e w5 ⟨rfl, hk5⟩; obtain ⟨hc5, hf5⟩ := hk5.see; have hz5 := hk5.size; (try simp only [World.size_alloc] at hz5))
  go_ret
  exact ⟨rfl, (by repeat (first | exact Kp.refl _ | assumption | (refine Kp.alloc ?_ _) | (refine Kp.drew ?_) | (refine Kp.drewN ?_ _) | (refine Kp.setCell ?_ (by first | omega | (simp only [World.size_alloc]; omega)) _) | (refine Kp.trans ?_ (by assumption))))⟩

theorem lawArc_any (x y z k tx ty tz cx cy r : Int) (w : World) (hx : I64 x) (hy : I64 y) (hz : I64 z) (htx : I64 tx) (hty : I64 ty) (htz : I64 tz) (hcx : I64 cx) (hcy : I64 cy) (hkk : I64 k) (hrr : I64 r) :
    Calls Try.prog 5 #[.agg #[.int .i64 x, .int .i64 y, .int .i64 z], .agg #[.int .i64 k, .int .i64 tx, .int .i64 ty, .int .i64 tz, .int .i64 cx, .int .i64 cy, .int .i64 r]] w fun e w' => e = .returned (.bool true) ∧ Kp w w' := by
  cases hfew : fewM x y z [⟨k, tx, ty, tz, cx, cy, r⟩]
  · exact lawArc_far x y z k tx ty tz cx cy r w hx hy hz htx hty htz hcx hcy hkk hrr hfew
  · cases hk : (k == 3 || k == 4)
    · exact lawArc_line x y z k tx ty tz cx cy r w hx hy hz htx hty htz hcx hcy hkk hrr hfew hk
    · cases hv : (validM x y z k tx ty tz cx cy r != 0)
      · exact lawArc_good x y z k tx ty tz cx cy r w hx hy hz htx hty htz hcx hcy hkk hrr hfew hk hv
      · exact lawArc_bad x y z k tx ty tz cx cy r w hx hy hz htx hty htz hcx hcy hkk hrr hfew hk hv

end Go.Proofs.Ytjdjcjhdaedakaa
