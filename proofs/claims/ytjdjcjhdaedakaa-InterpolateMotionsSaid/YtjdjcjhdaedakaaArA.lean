/-
  Contracts of Quarters, turned and floor, of the program and of the reference.
-/
import Derived.Test.YtjdjcjhdaedakaaRfC
import Derived.Test.YtjdjcjhdaedakaaChA
import Derived.Laws.BitsAllLaws
namespace Go.Proofs.Ytjdjcjhdaedakaa
open Go.RowKit

def quartersM (x y k tx ty cx cy : Int) : Int :=
  if k = 3 then (if pointQ x y cx cy - pointQ tx ty cx cy ≤ 0 then pointQ x y cx cy - pointQ tx ty cx cy + 4 else pointQ x y cx cy - pointQ tx ty cx cy)
  else (if pointQ tx ty cx cy - pointQ x y cx cy ≤ 0 then pointQ tx ty cx cy - pointQ x y cx cy + 4 else pointQ tx ty cx cy - pointQ x y cx cy)
theorem pointQ_bd (x y cx cy : Int) : 0 ≤ pointQ x y cx cy ∧ pointQ x y cx cy ≤ 3 := by
  unfold pointQ; repeat' split
  all_goals omega
theorem quartersM_bd (x y k tx ty cx cy : Int) : 1 ≤ quartersM x y k tx ty cx cy ∧ quartersM x y k tx ty cx cy ≤ 4 := by
  have := pointQ_bd x y cx cy
  have := pointQ_bd tx ty cx cy
  unfold quartersM; repeat' split
  all_goals omega

theorem neqz {a : Int} (h : a = 0) : (a != 0) = false := by simp [h]
theorem neqnz {a : Int} (h : a ≠ 0) : (a != 0) = true := by simp [h]

set_option maxRecDepth 100000 in
set_option maxHeartbeats 1000000 in
theorem quarters_line (x y z k tx ty tz cx cy r : Int) (w : World) (hk : (k == 3 || k == 4) = false) :
    Calls Try.prog 12 #[.agg #[.int .i64 x, .int .i64 y, .int .i64 z], .agg #[.int .i64 k, .int .i64 tx, .int .i64 ty, .int .i64 tz, .int .i64 cx, .int .i64 cy, .int .i64 r]] w fun e w' => e = .returned (.tuple #[.int .i64 0, .int .i64 1]) ∧ Kp w w' := by
  go_enter Try.func12, Try.ntmps12
  go_wp2_with (go_at_call 29; refine (isArc_any _ _ _ _ _ _ _ _).mono ?_; rw [hk]; rintro e w1 ⟨rfl, hk1⟩; obtain ⟨hc1, hf1⟩ := hk1.see; have hz1 := hk1.size; (try simp only [World.size_alloc] at hz1); have hz1_0 : w.heap.size < w1.heap.size := (by omega); have hz1_1 : w.heap.size + 1 < w1.heap.size := (by omega))
  go_ret2
  exact ⟨rfl, (by repeat (first | exact Kp.refl _ | assumption | (refine Kp.alloc ?_ _) | (refine Kp.drew ?_) | (refine Kp.drewN ?_ _) | (refine Kp.setCell ?_ (by first | omega | (simp only [World.size_alloc]; omega)) _) | (refine Kp.trans ?_ (by assumption))))⟩

set_option maxRecDepth 100000 in
set_option maxHeartbeats 1000000 in
theorem quarters_bad (x y z k tx ty tz cx cy r : Int) (w : World) (hx : I64 x) (hy : I64 y) (hz : I64 z) (htx : I64 tx) (hty : I64 ty) (htz : I64 tz) (hcx : I64 cx) (hcy : I64 cy) (hk : (k == 3 || k == 4) = true) (hv : (validM x y z k tx ty tz cx cy r != 0) = true) :
    Calls Try.prog 12 #[.agg #[.int .i64 x, .int .i64 y, .int .i64 z], .agg #[.int .i64 k, .int .i64 tx, .int .i64 ty, .int .i64 tz, .int .i64 cx, .int .i64 cy, .int .i64 r]] w fun e w' => e = .returned (.tuple #[.int .i64 0, .int .i64 (validM x y z k tx ty tz cx cy r)]) ∧ Kp w w' := by
  go_enter Try.func12, Try.ntmps12
  go_wp2_with (first | (go_at_call 29; refine (isArc_any _ _ _ _ _ _ _ _).mono ?_; rw [hk]; rintro e w1 ⟨rfl, hk1⟩; obtain ⟨hc1, hf1⟩ := hk1.see; have hz1 := hk1.size; (try simp only [World.size_alloc] at hz1); have hz1_0 : w.heap.size < w1.heap.size := (by omega); have hz1_1 : w.heap.size + 1 < w1.heap.size := (by omega)) | (go_at_call 14; refine (valid_any _ _ _ _ _ _ _ _ _ _ _ hx hy hz htx hty htz hcx hcy).mono ?_; rintro e w2 ⟨rfl, hk2⟩; obtain ⟨hc2, hf2⟩ := hk2.see; have hz2 := hk2.size; (try simp only [World.size_alloc] at hz2); have hz2_0 : w.heap.size < w2.heap.size := (by omega); have hz2_1 : w.heap.size + 1 < w2.heap.size := (by omega)))
  go_ret2
  exact ⟨rfl, (by repeat (first | exact Kp.refl _ | assumption | (refine Kp.alloc ?_ _) | (refine Kp.drew ?_) | (refine Kp.drewN ?_ _) | (refine Kp.setCell ?_ (by first | omega | (simp only [World.size_alloc]; omega)) _) | (refine Kp.trans ?_ (by assumption))))⟩

set_option maxRecDepth 100000 in
set_option maxHeartbeats 1000000 in
theorem quarters_good (x y z k tx ty tz cx cy r : Int) (w : World) (hx : I64 x) (hy : I64 y) (hz : I64 z) (htx : I64 tx) (hty : I64 ty) (htz : I64 tz) (hcx : I64 cx) (hcy : I64 cy) (hk : (k == 3 || k == 4) = true) (hv : (validM x y z k tx ty tz cx cy r != 0) = false) :
    Calls Try.prog 12 #[.agg #[.int .i64 x, .int .i64 y, .int .i64 z], .agg #[.int .i64 k, .int .i64 tx, .int .i64 ty, .int .i64 tz, .int .i64 cx, .int .i64 cy, .int .i64 r]] w fun e w' => e = .returned (.tuple #[.int .i64 (quartersM x y k tx ty cx cy), .int .i64 0]) ∧ Kp w w' := by
  have q1 := pointQ_bd x y cx cy
  have q2 := pointQ_bd tx ty cx cy
  by_cases hne3 : k = 3
  · subst hne3
    by_cases hn : pointQ x y cx cy - pointQ tx ty cx cy ≤ 0
    all_goals
      go_enter Try.func12, Try.ntmps12
      go_wp2_with (first | (go_at_call 29; refine (isArc_any _ _ _ _ _ _ _ _).mono ?_; rw [hk]; rintro e w1 ⟨rfl, hk1⟩; obtain ⟨hc1, hf1⟩ := hk1.see; have hz1 := hk1.size; (try simp only [World.size_alloc] at hz1); have hz1_0 : w.heap.size < w1.heap.size := (by omega); have hz1_1 : w.heap.size + 1 < w1.heap.size := (by omega)) | (go_at_call 14; refine (valid_any _ _ _ _ _ _ _ _ _ _ _ hx hy hz htx hty htz hcx hcy).mono ?_; rintro e w2 ⟨rfl, hk2⟩; obtain ⟨hc2, hf2⟩ := hk2.see; have hz2 := hk2.size; (try simp only [World.size_alloc] at hz2); have hz2_0 : w.heap.size < w2.heap.size := (by omega); have hz2_1 : w.heap.size + 1 < w2.heap.size := (by omega)) | fail)
      refine (point_any _ _ _ _ _ _ hx hy hcx hcy).mono ?_
      rintro e w3 ⟨rfl, hk3⟩; obtain ⟨hc3, hf3⟩ := hk3.see; have hz3 := hk3.size; (try simp only [World.size_alloc] at hz3); have hz3_0 : w.heap.size < w3.heap.size := (by omega); have hz3_1 : w.heap.size + 1 < w3.heap.size := (by omega)
      go_wp2_with fail
      refine (point_any _ _ _ _ _ _ htx hty hcx hcy).mono ?_
      rintro e w4 ⟨rfl, hk4⟩; obtain ⟨hc4, hf4⟩ := hk4.see; have hz4 := hk4.size; (try simp only [World.size_alloc] at hz4); have hz4_0 : w.heap.size < w4.heap.size := (by omega); have hz4_1 : w.heap.size + 1 < w4.heap.size := (by omega)
      go_wp2_with fail
      go_ret2
      exact ⟨ret_int2 (by unfold quartersM; rw [if_pos rfl]; split <;> omega) rfl, (by repeat (first | exact Kp.refl _ | assumption | (refine Kp.alloc ?_ _) | (refine Kp.drew ?_) | (refine Kp.drewN ?_ _) | (refine Kp.setCell ?_ (by first | omega | (simp only [World.size_alloc]; omega)) _) | (refine Kp.trans ?_ (by assumption))))⟩
  · have hne4 : (k == 3) = false := by simpa using hne3
    by_cases hn : pointQ tx ty cx cy - pointQ x y cx cy ≤ 0
    all_goals
      go_enter Try.func12, Try.ntmps12
      go_wp2_with (first | (go_at_call 29; refine (isArc_any _ _ _ _ _ _ _ _).mono ?_; rw [hk]; rintro e w1 ⟨rfl, hk1⟩; obtain ⟨hc1, hf1⟩ := hk1.see; have hz1 := hk1.size; (try simp only [World.size_alloc] at hz1); have hz1_0 : w.heap.size < w1.heap.size := (by omega); have hz1_1 : w.heap.size + 1 < w1.heap.size := (by omega)) | (go_at_call 14; refine (valid_any _ _ _ _ _ _ _ _ _ _ _ hx hy hz htx hty htz hcx hcy).mono ?_; rintro e w2 ⟨rfl, hk2⟩; obtain ⟨hc2, hf2⟩ := hk2.see; have hz2 := hk2.size; (try simp only [World.size_alloc] at hz2); have hz2_0 : w.heap.size < w2.heap.size := (by omega); have hz2_1 : w.heap.size + 1 < w2.heap.size := (by omega)) | fail)
      refine (point_any _ _ _ _ _ _ hx hy hcx hcy).mono ?_
      rintro e w3 ⟨rfl, hk3⟩; obtain ⟨hc3, hf3⟩ := hk3.see; have hz3 := hk3.size; (try simp only [World.size_alloc] at hz3); have hz3_0 : w.heap.size < w3.heap.size := (by omega); have hz3_1 : w.heap.size + 1 < w3.heap.size := (by omega)
      go_wp2_with fail
      refine (point_any _ _ _ _ _ _ htx hty hcx hcy).mono ?_
      rintro e w4 ⟨rfl, hk4⟩; obtain ⟨hc4, hf4⟩ := hk4.see; have hz4 := hk4.size; (try simp only [World.size_alloc] at hz4); have hz4_0 : w.heap.size < w4.heap.size := (by omega); have hz4_1 : w.heap.size + 1 < w4.heap.size := (by omega)
      go_wp2_with fail
      go_ret2
      exact ⟨ret_int2 (by unfold quartersM; rw [if_neg hne3]; split <;> omega) rfl, (by repeat (first | exact Kp.refl _ | assumption | (refine Kp.alloc ?_ _) | (refine Kp.drew ?_) | (refine Kp.drewN ?_ _) | (refine Kp.setCell ?_ (by first | omega | (simp only [World.size_alloc]; omega)) _) | (refine Kp.trans ?_ (by assumption))))⟩

end Go.Proofs.Ytjdjcjhdaedakaa
