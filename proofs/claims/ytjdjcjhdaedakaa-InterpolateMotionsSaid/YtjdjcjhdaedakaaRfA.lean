/-
  Contracts of small functions of the reference swarfref33.
-/
import Derived.Test.YtjdjcjhdaedakaaIpC
namespace Go.Proofs.Ytjdjcjhdaedakaa
open Go.RowKit

theorem bool_eq_decide {p : Prop} [Decidable p] {b : Bool} (h : b = true ↔ p) : b = decide p := by cases b <;> simp_all

set_option maxHeartbeats 400000 in
theorem rsize_any (a : Int) (w : World) (h : -9223372036854775807 ≤ a) (h' : a ≤ 9223372036854775807) :
    Calls Try.prog 42 #[.int .i64 a] w fun e w' => e = .returned (.int .i64 (dist a 0)) ∧ w = w' := by
  by_cases hn : a < 0
  all_goals
    go_enter Try.func42, Try.ntmps42
    go_wp2
    go_ret
    exact ⟨ret_int (by unfold dist; split <;> omega), rfl⟩

def quadQ (x y : Int) : Int := if 0 < x ∧ y = 0 then 0 else if x = 0 ∧ 0 < y then 1 else if x < 0 ∧ y = 0 then 2 else if x = 0 ∧ y < 0 then 3 else -1
def quadD (x y : Int) : Int := if 0 < x ∧ y = 0 then x else if x = 0 ∧ 0 < y then y else if x < 0 ∧ y = 0 then -x else if x = 0 ∧ y < 0 then -y else 0

set_option maxHeartbeats 400000 in
theorem quadrant_any (x y : Int) (w : World) (hx : -9223372036854775807 ≤ x) (hx' : x ≤ 9223372036854775807) (hy : -9223372036854775807 ≤ y) (hy' : y ≤ 9223372036854775807) :
    Calls Try.prog 32 #[.int .i64 x, .int .i64 y] w fun e w' => e = .returned (.tuple #[.int .i64 (quadQ x y), .int .i64 (quadD x y)]) ∧ w = w' := by
  go_enter Try.func32, Try.ntmps32
  go_wp2
  all_goals
    go_ret2
    refine ⟨ret_int2 ?_ ?_, rfl⟩ <;> (go_light; (try simp only [beq_iff_eq, beq_eq_false_iff_ne, ne_eq] at *); (first | unfold quadQ | unfold quadD); repeat' split <;> omega)

set_option maxHeartbeats 400000 in
theorem rarc_any (k x y z cx cy r : Int) (w : World) :
    Calls Try.prog 31 #[.agg #[.int .i64 k, .int .i64 x, .int .i64 y, .int .i64 z, .int .i64 cx, .int .i64 cy, .int .i64 r]] w fun e w' => e = .returned (.bool (k == 3 || k == 4)) ∧ Kp w w' := by
  go_enter Try.func31, Try.ntmps31
  go_wp2
  all_goals
    go_ret
    exact ⟨by simp [*], (by repeat (first | exact Kp.refl _ | assumption | (refine Kp.alloc ?_ _) | (refine Kp.drew ?_) | (refine Kp.drewN ?_ _) | (refine Kp.setCell ?_ (by first | omega | (simp only [World.size_alloc]; omega)) _) | (refine Kp.trans ?_ (by assumption))))⟩

theorem badM_iff (n : Int) : badM n = true ↔ 10000000 < n ∨ n < -10000000 := by
  unfold badM dist; simp only [decide_eq_true_eq]; split <;> omega

set_option maxHeartbeats 400000 in
theorem rfar_any (n : Int) (w : World) : Calls Try.prog 35 #[.int .i64 n] w fun e w' => e = .returned (.bool (badM n)) ∧ w = w' := by
  have h := badM_iff n
  rw [bool_eq_decide h]
  clear h
  go_enter Try.func35, Try.ntmps35
  go_wp2
  all_goals
    go_ret
    exact ⟨ret_bool (by simp [*]), rfl⟩

set_option maxHeartbeats 400000 in
theorem rapart_any (a b : Int) (w : World) (ha : -9223372036854775808 ≤ a) (ha' : a ≤ 9223372036854775807) (hb : -9223372036854775808 ≤ b) (hb' : b ≤ 9223372036854775807) :
    Calls Try.prog 46 #[.int .i64 a, .int .i64 b] w fun e w' => e = .returned (.int .u64 (dist a b)) ∧ w = w' := by
  by_cases h : a < b
  · go_enter Try.func46, Try.ntmps46
    go_wp2
    go_ret
    exact ⟨ret_int (by rw [wrapu_sub b a hb hb' ha ha' (by omega)]; unfold dist; rw [if_pos h]), rfl⟩
  · go_enter Try.func46, Try.ntmps46
    go_wp2
    go_ret
    exact ⟨ret_int (by rw [wrapu_sub a b ha ha' hb hb' (by omega)]; unfold dist; rw [if_neg (by omega)]), rfl⟩

def endsM (x y tx ty cx cy : Int) : Bool := decide (0 < pointD x y cx cy) && (pointD x y cx cy == pointD tx ty cx cy)

theorem dist_bd {a b : Int} (ha : I64 a) (hb : I64 b) : dist a b ≤ 18446744073709551615 := by unfold dist I64 at *; split <;> omega
theorem dist_eq0 (a b : Int) : dist a b = 0 ↔ a = b := by unfold dist; split <;> omega

theorem dist_self (a : Int) : dist a a = 0 := by unfold dist; simp
theorem wrapu_in (n : Int) (h : 0 ≤ n) (h' : n ≤ 18446744073709551615) : IntKind.u64.wrap n = n := by rw [IntKind.wrap_u64]; omega
theorem ends_eq {x y tx ty cx cy : Int} (hx : I64 x) (hy : I64 y) (htx : I64 tx) (hty : I64 ty) (hcx : I64 cx) (hcy : I64 cy) :
    (!((dist x cx == 0) == (dist y cy == 0)) && !((dist tx cx == 0) == (dist ty cy == 0)) && IntKind.u64.wrap (dist x cx + dist y cy) == IntKind.u64.wrap (dist tx cx + dist ty cy)) = endsM x y tx ty cx cy := by
  unfold endsM pointD
  have e1 := dist_eq0 x cx
  have e2 := dist_eq0 y cy
  have e3 := dist_eq0 tx cx
  have e4 := dist_eq0 ty cy
  have n1 := dist_nonneg x cx
  have n2 := dist_nonneg y cy
  have n3 := dist_nonneg tx cx
  have n4 := dist_nonneg ty cy
  have b1 := dist_bd hx hcx
  have b2 := dist_bd hy hcy
  have b3 := dist_bd htx hcx
  have b4 := dist_bd hty hcy
  generalize dist x cx = a at *
  generalize dist y cy = b at *
  generalize dist tx cx = c at *
  generalize dist ty cy = d at *
  simp only [← e1, ← e2, ← e3, ← e4]
  clear e1 e2 e3 e4
  cases q1 : (a == 0) <;> cases q2 : (b == 0) <;> cases q3 : (c == 0) <;> cases q4 : (d == 0)
  all_goals simp only [beq_iff_eq, beq_eq_false_iff_ne] at q1 q2 q3 q4
  all_goals rw [Bool.eq_iff_iff]
  all_goals simp [wrapu_in, *]
  all_goals omega

set_option maxHeartbeats 400000 in
theorem rright_any (x y z k tx ty tz cx cy r : Int) (w : World) (hx : I64 x) (hy : I64 y) (htx : I64 tx) (hty : I64 ty) (hcx : I64 cx) (hcy : I64 cy) :
    Calls Try.prog 36 #[.agg #[.int .i64 x, .int .i64 y, .int .i64 z], .agg #[.int .i64 k, .int .i64 tx, .int .i64 ty, .int .i64 tz, .int .i64 cx, .int .i64 cy, .int .i64 r]] w fun e w' => e = .returned (.bool (endsM x y tx ty cx cy)) ∧ Kp w w' := by
  go_enter Try.func36, Try.ntmps36
  go_wp2_with fail
  go_quiet ((go_at_call 46; exact quiet_left (rapart_any _ _ _ (by unfold I64 at *; omega) (by unfold I64 at *; omega) (by unfold I64 at *; omega) (by unfold I64 at *; omega))))
  go_wp2_with fail
  go_quiet ((go_at_call 46; exact quiet_add_left (rapart_any _ _ _ (by unfold I64 at *; omega) (by unfold I64 at *; omega) (by unfold I64 at *; omega) (by unfold I64 at *; omega))))
  go_wp2_with fail
  all_goals
    go_ret
    refine ⟨ret_bool ?_, (by repeat (first | exact Kp.refl _ | assumption | (refine Kp.alloc ?_ _) | (refine Kp.drew ?_) | (refine Kp.drewN ?_ _) | (refine Kp.setCell ?_ (by first | omega | (simp only [World.size_alloc]; omega)) _) | (refine Kp.trans ?_ (by assumption))))⟩
    go_light
    rw [← ends_eq hx hy htx hty hcx hcy]
    try simp [*]

end Go.Proofs.Ytjdjcjhdaedakaa
