/-
  Contracts of small functions of package interpolate.
-/
import Derived.Test.YtjdjcjhdaedakaaBase
namespace Go.Proofs.Ytjdjcjhdaedakaa
open Go.RowKit

def dist (a b : Int) : Int := if a < b then b - a else a - b
theorem dist_zero (a : Int) : -dist a 0 ≤ a ∧ a ≤ dist a 0 := by unfold dist; split <;> omega
theorem dist_nonneg (a b : Int) : 0 ≤ dist a b := by unfold dist; split <;> omega
theorem dist_comm (a b : Int) : dist a b = dist b a := by unfold dist; split <;> split <;> omega
theorem wrapu_sub (a b : Int) (ha : -9223372036854775808 ≤ a) (ha' : a ≤ 9223372036854775807) (hb : -9223372036854775808 ≤ b) (hb' : b ≤ 9223372036854775807) (h : b ≤ a) :
    IntKind.u64.wrap (IntKind.u64.wrap a - IntKind.u64.wrap b) = a - b := by
  simp only [IntKind.wrap_u64]
  omega

set_option maxHeartbeats 400000 in
theorem apart_any (a b : Int) (w : World) (ha : -9223372036854775808 ≤ a) (ha' : a ≤ 9223372036854775807) (hb : -9223372036854775808 ≤ b) (hb' : b ≤ 9223372036854775807) :
    Calls Try.prog 34 #[.int .i64 a, .int .i64 b] w fun e w' => e = .returned (.int .u64 (dist a b)) ∧ w = w' := by
  by_cases h : a < b
  · go_enter Try.func34, Try.ntmps34
    go_wp2
    go_ret
    exact ⟨ret_int (by rw [wrapu_sub b a hb hb' ha ha' (by omega)]; unfold dist; rw [if_pos h]), rfl⟩
  · go_enter Try.func34, Try.ntmps34
    go_wp2
    go_ret
    exact ⟨ret_int (by rw [wrapu_sub a b ha ha' hb hb' (by omega)]; unfold dist; rw [if_neg (by omega)]), rfl⟩


set_option maxHeartbeats 400000 in
theorem isArc_any (k x y z cx cy r : Int) (w : World) :
    Calls Try.prog 29 #[.agg #[.int .i64 k, .int .i64 x, .int .i64 y, .int .i64 z, .int .i64 cx, .int .i64 cy, .int .i64 r]] w fun e w' => e = .returned (.bool (k == 3 || k == 4)) ∧ Kp w w' := by
  go_enter Try.func29, Try.ntmps29
  go_wp2
  all_goals
    go_ret
    exact ⟨by simp [*], (by repeat (first | exact Kp.refl _ | assumption | (refine Kp.alloc ?_ _) | (refine Kp.drew ?_) | (refine Kp.drewN ?_ _) | (refine Kp.setCell ?_ (by first | omega | (simp only [World.size_alloc]; omega)) _) | (refine Kp.trans ?_ (by assumption))))⟩

def pointQ (x y cx cy : Int) : Int := if y = cy ∧ cx < x then 0 else if x = cx ∧ cy < y then 1 else if y = cy ∧ x < cx then 2 else if x = cx ∧ y < cy then 3 else 0
def pointD (x y cx cy : Int) : Int := if y = cy then dist x cx else if x = cx then dist y cy else 0

theorem pointD_nonneg (x y cx cy : Int) : 0 ≤ pointD x y cx cy := by
  unfold pointD
  have := dist_nonneg x cx
  have := dist_nonneg y cy
  split <;> (try split) <;> omega

set_option maxHeartbeats 400000 in
theorem point_any (x y z cx cy : Int) (w : World) (hx : I64 x) (hy : I64 y) (hcx : I64 cx) (hcy : I64 cy) :
    Calls Try.prog 30 #[.agg #[.int .i64 x, .int .i64 y, .int .i64 z], .agg #[.int .i64 cx, .int .i64 cy]] w fun e w' => e = .returned (.tuple #[.int .i64 (pointQ x y cx cy), .int .u64 (pointD x y cx cy)]) ∧ Kp w w' := by
  obtain ⟨hx1, hx2⟩ := hx
  obtain ⟨hy1, hy2⟩ := hy
  obtain ⟨hcx1, hcx2⟩ := hcx
  obtain ⟨hcy1, hcy2⟩ := hcy
  go_enter Try.func30, Try.ntmps30
  go_wp2_with (go_at_call 34; refine (apart_any _ _ _ (by omega) (by omega) (by omega) (by omega)).mono ?_; rintro e w' ⟨rfl, rfl⟩)
  all_goals
    go_ret2
    exact ⟨ret_int2 (by unfold pointQ; repeat' split <;> omega) (by unfold pointD dist; repeat' split <;> omega), (by repeat (first | exact Kp.refl _ | assumption | (refine Kp.alloc ?_ _) | (refine Kp.drew ?_) | (refine Kp.drewN ?_ _) | (refine Kp.setCell ?_ (by first | omega | (simp only [World.size_alloc]; omega)) _) | (refine Kp.trans ?_ (by assumption))))⟩


end Go.Proofs.Ytjdjcjhdaedakaa
