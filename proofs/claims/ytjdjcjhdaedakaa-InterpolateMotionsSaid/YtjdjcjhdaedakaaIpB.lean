/-
  Contracts of package interpolate, second part.
-/
import Derived.Test.YtjdjcjhdaedakaaIpA
namespace Go.Proofs.Ytjdjcjhdaedakaa
open Go.RowKit

def rightM (x y k tx ty cx cy r : Int) : Bool :=
  if k = 1 then r == 0 else if k = 2 then decide (0 < r) else
    (k == 3 || k == 4) && decide (0 < r) && decide (0 < pointD x y cx cy) && (pointD x y cx cy == pointD tx ty cx cy)

set_option maxHeartbeats 400000 in
theorem right_any (x y z k tx ty tz cx cy r : Int) (w : World) (hx : I64 x) (hy : I64 y) (htx : I64 tx) (hty : I64 ty) (hcx : I64 cx) (hcy : I64 cy) :
    Calls Try.prog 33 #[.agg #[.int .i64 x, .int .i64 y, .int .i64 z], .agg #[.int .i64 k, .int .i64 tx, .int .i64 ty, .int .i64 tz, .int .i64 cx, .int .i64 cy, .int .i64 r]] w fun e w' => e = .returned (.bool (rightM x y k tx ty cx cy r)) ∧ Kp w w' := by
  go_enter Try.func33, Try.ntmps33
  go_wp2_with fail
  · go_ret
    exact ⟨by simp_all [rightM], (by repeat (first | exact Kp.refl _ | assumption | (refine Kp.alloc ?_ _) | (refine Kp.drew ?_) | (refine Kp.drewN ?_ _) | (refine Kp.setCell ?_ (by first | omega | (simp only [World.size_alloc]; omega)) _) | (refine Kp.trans ?_ (by assumption))))⟩
  · go_ret
    exact ⟨by simp_all [rightM], (by repeat (first | exact Kp.refl _ | assumption | (refine Kp.alloc ?_ _) | (refine Kp.drew ?_) | (refine Kp.drewN ?_ _) | (refine Kp.setCell ?_ (by first | omega | (simp only [World.size_alloc]; omega)) _) | (refine Kp.trans ?_ (by assumption))))⟩
  · refine (point_any _ _ _ _ _ _ hx hy hcx hcy).mono ?_
    rintro e w1 ⟨rfl, hk1⟩; obtain ⟨hc1, hf1⟩ := hk1.see; have hz1 := hk1.size; (try simp only [World.size_alloc] at hz1); have hz1_0 : w.heap.size < w1.heap.size := (by omega); have hz1_1 : w.heap.size + 1 < w1.heap.size := (by omega)
    go_wp2_with fail
    refine (point_any _ _ _ _ _ _ htx hty hcx hcy).mono ?_
    rintro e w2 ⟨rfl, hk2⟩; obtain ⟨hc2, hf2⟩ := hk2.see; have hz2 := hk2.size; (try simp only [World.size_alloc] at hz2); have hz2_0 : w.heap.size < w2.heap.size := (by omega); have hz2_1 : w.heap.size + 1 < w2.heap.size := (by omega)
    go_wp2_with (go_at_call 29; refine (isArc_any _ _ _ _ _ _ _ _).mono ?_; rintro e w3 ⟨rfl, hk3⟩; obtain ⟨hc3, hf3⟩ := hk3.see; have hz3 := hk3.size; (try simp only [World.size_alloc] at hz3))
    all_goals
      go_ret
      refine ⟨ret_bool ?_, (by repeat (first | exact Kp.refl _ | assumption | (refine Kp.alloc ?_ _) | (refine Kp.drew ?_) | (refine Kp.drewN ?_ _) | (refine Kp.setCell ?_ (by first | omega | (simp only [World.size_alloc]; omega)) _) | (refine Kp.trans ?_ (by assumption))))⟩
      clear hk1 hc1 hf1 hk2 hc2 hf2 hk3 hc3 hf3
      simp_all [rightM] <;> intros <;> omega

end Go.Proofs.Ytjdjcjhdaedakaa
