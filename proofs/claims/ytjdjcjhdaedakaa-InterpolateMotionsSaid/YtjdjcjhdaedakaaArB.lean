/-
  Contracts of the reference's Quarters, of turned and floor (down).
-/
import Derived.Test.YtjdjcjhdaedakaaArA
namespace Go.Proofs.Ytjdjcjhdaedakaa
open Go.RowKit

theorem badM_no {n : Int} (h : badM n ≠ true) : -10000000 ≤ n ∧ n ≤ 10000000 := badM_false (by simpa using h)
theorem valid0 {x y z k tx ty tz cx cy r : Int} (hk : k = 3 ∨ k = 4) (h : validM x y z k tx ty tz cx cy r = 0) :
    endsM x y tx ty cx cy = true ∧ 0 < pointD x y cx cy ∧ pointD x y cx cy ≤ 10000000 ∧ pointD tx ty cx cy = pointD x y cx cy ∧ (-10000000 ≤ x ∧ x ≤ 10000000) ∧ (-10000000 ≤ y ∧ y ≤ 10000000) ∧ (-10000000 ≤ z ∧ z ≤ 10000000) ∧ (-10000000 ≤ tx ∧ tx ≤ 10000000) ∧ (-10000000 ≤ ty ∧ ty ≤ 10000000) ∧ (-10000000 ≤ tz ∧ tz ≤ 10000000) ∧ (-10000000 ≤ cx ∧ cx ≤ 10000000) ∧ (-10000000 ≤ cy ∧ cy ≤ 10000000) ∧
    (-10000000 ≤ cx + pointD x y cx cy ∧ cx + pointD x y cx cy ≤ 10000000) ∧ (-10000000 ≤ cx - pointD x y cx cy ∧ cx - pointD x y cx cy ≤ 10000000) ∧ (-10000000 ≤ cy + pointD x y cx cy ∧ cy + pointD x y cx cy ≤ 10000000) ∧ (-10000000 ≤ cy - pointD x y cx cy ∧ cy - pointD x y cx cy ≤ 10000000) := by
  unfold validM at h
  by_cases h1 : rightM x y k tx ty cx cy r = false
  · rw [if_pos h1] at h; omega
  rw [if_neg h1, if_pos hk] at h
  by_cases h2 : 10000000 < pointD x y cx cy ∨ badM cx = true ∨ badM cy = true
  · rw [if_pos h2] at h; omega
  rw [if_neg h2] at h
  by_cases h3 : [x, y, z, tx, ty, tz, cx + pointD x y cx cy, cx - pointD x y cx cy, cy + pointD x y cx cy, cy - pointD x y cx cy].any badM = true
  · rw [if_pos h3] at h; omega
  have hr : rightM x y k tx ty cx cy r = true := by simpa using h1
  have he : endsM x y tx ty cx cy = true := by
    unfold rightM at hr
    rw [if_neg (by omega), if_neg (by omega)] at hr
    unfold endsM
    simp only [Bool.and_eq_true] at hr ⊢
    exact ⟨hr.1.2, hr.2⟩
  have he' := he
  unfold endsM at he'
  simp only [Bool.and_eq_true, decide_eq_true_eq, beq_iff_eq] at he'
  simp only [List.any_cons, List.any_nil, Bool.or_eq_true, not_or, Bool.or_false] at h3
  obtain ⟨g1, g2, g3, g4, g5, g6, g7, g8, g9, g10⟩ := h3
  exact ⟨he, he'.1, by omega, he'.2.symm, badM_no g1, badM_no g2, badM_no g3, badM_no g4, badM_no g5, badM_no g6, badM_no (fun e => h2 (.inr (.inl e))), badM_no (fun e => h2 (.inr (.inr e))), badM_no g7, badM_no g8, badM_no g9, badM_no g10⟩

theorem quad_end {x y tx ty cx cy : Int} (h : 0 < pointD x y cx cy) (h2 : pointD tx ty cx cy = pointD x y cx cy) : quadQ (x - cx) (y - cy) = pointQ x y cx cy ∧ quadQ (tx - cx) (ty - cy) = pointQ tx ty cx cy :=
  ⟨quad_pointQ _ _ _ _ h, quad_pointQ _ _ _ _ (by omega)⟩

set_option maxRecDepth 100000 in
set_option maxHeartbeats 1000000 in
theorem rquarters_line (x y z k tx ty tz cx cy r : Int) (w : World) (hk : (k == 3 || k == 4) = false) :
    Calls Try.prog 13 #[.agg #[.int .i64 x, .int .i64 y, .int .i64 z], .agg #[.int .i64 k, .int .i64 tx, .int .i64 ty, .int .i64 tz, .int .i64 cx, .int .i64 cy, .int .i64 r]] w fun e w' => e = .returned (.tuple #[.int .i64 0, .int .i64 1]) ∧ Kp w w' := by
  go_enter Try.func13, Try.ntmps13
  go_wp2_with (go_at_call 31; refine (rarc_any _ _ _ _ _ _ _ _).mono ?_; rw [hk]; rintro e w1 ⟨rfl, hk1⟩; obtain ⟨hc1, hf1⟩ := hk1.see; have hz1 := hk1.size; (try simp only [World.size_alloc] at hz1); have hz1_0 : w.heap.size < w1.heap.size := (by omega); have hz1_1 : w.heap.size + 1 < w1.heap.size := (by omega))
  go_ret2
  exact ⟨rfl, (by repeat (first | exact Kp.refl _ | assumption | (refine Kp.alloc ?_ _) | (refine Kp.drew ?_) | (refine Kp.drewN ?_ _) | (refine Kp.setCell ?_ (by first | omega | (simp only [World.size_alloc]; omega)) _) | (refine Kp.trans ?_ (by assumption))))⟩

set_option maxRecDepth 100000 in
set_option maxHeartbeats 1000000 in
theorem rquarters_bad (x y z k tx ty tz cx cy r : Int) (w : World) (hx : I64 x) (hy : I64 y) (htx : I64 tx) (hty : I64 ty) (hcx : I64 cx) (hcy : I64 cy) (hk : (k == 3 || k == 4) = true) (hv : (validM x y z k tx ty tz cx cy r != 0) = true) :
    Calls Try.prog 13 #[.agg #[.int .i64 x, .int .i64 y, .int .i64 z], .agg #[.int .i64 k, .int .i64 tx, .int .i64 ty, .int .i64 tz, .int .i64 cx, .int .i64 cy, .int .i64 r]] w fun e w' => e = .returned (.tuple #[.int .i64 0, .int .i64 (validM x y z k tx ty tz cx cy r)]) ∧ Kp w w' := by
  go_enter Try.func13, Try.ntmps13
  go_wp2_with (first | (go_at_call 31; refine (rarc_any _ _ _ _ _ _ _ _).mono ?_; rw [hk]; rintro e w1 ⟨rfl, hk1⟩; obtain ⟨hc1, hf1⟩ := hk1.see; have hz1 := hk1.size; (try simp only [World.size_alloc] at hz1); have hz1_0 : w.heap.size < w1.heap.size := (by omega); have hz1_1 : w.heap.size + 1 < w1.heap.size := (by omega)) | (go_at_call 15; refine (rvalid_any _ _ _ _ _ _ _ _ _ _ _ hx hy htx hty hcx hcy).mono ?_; rintro e w2 ⟨rfl, hk2⟩; obtain ⟨hc2, hf2⟩ := hk2.see; have hz2 := hk2.size; (try simp only [World.size_alloc] at hz2); have hz2_0 : w.heap.size < w2.heap.size := (by omega); have hz2_1 : w.heap.size + 1 < w2.heap.size := (by omega)))
  go_ret2
  exact ⟨rfl, (by repeat (first | exact Kp.refl _ | assumption | (refine Kp.alloc ?_ _) | (refine Kp.drew ?_) | (refine Kp.drewN ?_ _) | (refine Kp.setCell ?_ (by first | omega | (simp only [World.size_alloc]; omega)) _) | (refine Kp.trans ?_ (by assumption))))⟩

set_option maxRecDepth 100000 in
set_option maxHeartbeats 1000000 in
theorem rquarters_good (x y z k tx ty tz cx cy r : Int) (w : World) (hx : I64 x) (hy : I64 y) (htx : I64 tx) (hty : I64 ty) (hcx : I64 cx) (hcy : I64 cy) (hk : (k == 3 || k == 4) = true) (hv : (validM x y z k tx ty tz cx cy r != 0) = false) :
    Calls Try.prog 13 #[.agg #[.int .i64 x, .int .i64 y, .int .i64 z], .agg #[.int .i64 k, .int .i64 tx, .int .i64 ty, .int .i64 tz, .int .i64 cx, .int .i64 cy, .int .i64 r]] w fun e w' => e = .returned (.tuple #[.int .i64 (quartersM x y k tx ty cx cy), .int .i64 0]) ∧ Kp w w' := by
  obtain ⟨_, p1, p2, p3, x1, y1, _, x2, y2, _, c1, c2, _⟩ := valid0 (by simpa using hk) (by simpa using hv)
  obtain ⟨e1, e2⟩ := quad_end p1 p3
  have q1 := pointQ_bd x y cx cy
  have q2 := pointQ_bd tx ty cx cy
  have E1 := Lib.hid e1
  have E2 := Lib.hid e2
  clear e1 e2 p1 p2 p3
  by_cases hne3 : k = 3
  · subst hne3
    go_enter Try.func13, Try.ntmps13
    go_wp2_with (first | (go_at_call 31; refine (rarc_any _ _ _ _ _ _ _ _).mono ?_; rw [hk]; rintro e w1 ⟨rfl, hk1⟩; obtain ⟨hc1, hf1⟩ := hk1.see; have hz1 := hk1.size; (try simp only [World.size_alloc] at hz1); have hz1_0 : w.heap.size < w1.heap.size := (by omega); have hz1_1 : w.heap.size + 1 < w1.heap.size := (by omega)) | (go_at_call 15; refine (rvalid_any _ _ _ _ _ _ _ _ _ _ _ hx hy htx hty hcx hcy).mono ?_; rintro e w2 ⟨rfl, hk2⟩; obtain ⟨hc2, hf2⟩ := hk2.see; have hz2 := hk2.size; (try simp only [World.size_alloc] at hz2); have hz2_0 : w.heap.size < w2.heap.size := (by omega); have hz2_1 : w.heap.size + 1 < w2.heap.size := (by omega)) | fail)
    refine (quadrant_any _ _ _ (by omega) (by omega) (by omega) (by omega)).mono ?_
    rw [E1.out]
    rintro e w' ⟨rfl, rfl⟩
    go_wp2_with fail
    refine (quadrant_any _ _ _ (by omega) (by omega) (by omega) (by omega)).mono ?_
    rw [E2.out]
    rintro e w' ⟨rfl, rfl⟩
    go_wp2_with fail
    go_ret2
    exact ⟨ret_int2 (by unfold quartersM; rw [if_pos rfl]; split <;> omega) rfl, (by repeat (first | exact Kp.refl _ | assumption | (refine Kp.alloc ?_ _) | (refine Kp.drew ?_) | (refine Kp.drewN ?_ _) | (refine Kp.setCell ?_ (by first | omega | (simp only [World.size_alloc]; omega)) _) | (refine Kp.trans ?_ (by assumption))))⟩
  · have hne4 : (k == 3) = false := by simpa using hne3
    go_enter Try.func13, Try.ntmps13
    go_wp2_with (first | (go_at_call 31; refine (rarc_any _ _ _ _ _ _ _ _).mono ?_; rw [hk]; rintro e w1 ⟨rfl, hk1⟩; obtain ⟨hc1, hf1⟩ := hk1.see; have hz1 := hk1.size; (try simp only [World.size_alloc] at hz1); have hz1_0 : w.heap.size < w1.heap.size := (by omega); have hz1_1 : w.heap.size + 1 < w1.heap.size := (by omega)) | (go_at_call 15; refine (rvalid_any _ _ _ _ _ _ _ _ _ _ _ hx hy htx hty hcx hcy).mono ?_; rintro e w2 ⟨rfl, hk2⟩; obtain ⟨hc2, hf2⟩ := hk2.see; have hz2 := hk2.size; (try simp only [World.size_alloc] at hz2); have hz2_0 : w.heap.size < w2.heap.size := (by omega); have hz2_1 : w.heap.size + 1 < w2.heap.size := (by omega)) | fail)
    refine (quadrant_any _ _ _ (by omega) (by omega) (by omega) (by omega)).mono ?_
    rw [E1.out]
    rintro e w' ⟨rfl, rfl⟩
    go_wp2_with fail
    refine (quadrant_any _ _ _ (by omega) (by omega) (by omega) (by omega)).mono ?_
    rw [E2.out]
    rintro e w' ⟨rfl, rfl⟩
    go_wp2_with fail
    go_ret2
    exact ⟨ret_int2 (by unfold quartersM; rw [if_neg hne3]; split <;> omega) rfl, (by repeat (first | exact Kp.refl _ | assumption | (refine Kp.alloc ?_ _) | (refine Kp.drew ?_) | (refine Kp.drewN ?_ _) | (refine Kp.setCell ?_ (by first | omega | (simp only [World.size_alloc]; omega)) _) | (refine Kp.trans ?_ (by assumption))))⟩

def rot : Nat → Int → Int → Int × Int
  | 0, x, y => (x, y)
  | n + 1, x, y => (-(rot n x y).2, (rot n x y).1)
theorem rot_bd (b : Int) (n : Nat) (x y : Int) (hx : -b ≤ x ∧ x ≤ b) (hy : -b ≤ y ∧ y ≤ b) : (-b ≤ (rot n x y).1 ∧ (rot n x y).1 ≤ b) ∧ (-b ≤ (rot n x y).2 ∧ (rot n x y).2 ≤ b) := by
  induction n with
  | zero => exact ⟨hx, hy⟩
  | succ n ih => simp only [rot]; omega
theorem rot4 (n : Nat) (x y : Int) : rot (n + 4) x y = rot n x y := by simp [rot]
theorem rot_add4 (n k : Nat) (x y : Int) : rot (n + 4 * k) x y = rot n x y := by
  induction k with
  | zero => rfl
  | succ k ih => rw [show n + 4 * (k + 1) = (n + 4 * k) + 4 from by omega, rot4, ih]
theorem rot_mod (n : Nat) (x y : Int) : rot (n % 4) x y = rot n x y := by
  have := rot_add4 (n % 4) (n / 4) x y
  rw [show n % 4 + 4 * (n / 4) = n from by omega] at this
  exact this.symm

theorem and3 (q : Nat) (h : q ≤ 11) : bits .and .i64 (q : Int) 3 = ((q % 4 : Nat) : Int) := by
  have : q = 0 ∨ q = 1 ∨ q = 2 ∨ q = 3 ∨ q = 4 ∨ q = 5 ∨ q = 6 ∨ q = 7 ∨ q = 8 ∨ q = 9 ∨ q = 10 ∨ q = 11 := by omega
  rcases this with rfl | rfl | rfl | rfl | rfl | rfl | rfl | rfl | rfl | rfl | rfl | rfl <;> decide

set_option maxHeartbeats 400000 in
theorem turned_any (x y : Int) (q : Nat) (w : World) (hx : -100000000 ≤ x ∧ x ≤ 100000000) (hy : -100000000 ≤ y ∧ y ≤ 100000000) (hq : q ≤ 11) :
    Calls Try.prog 37 #[.int .i64 x, .int .i64 y, .int .i64 q] w fun e w' => e = .returned (.tuple #[.int .i64 (rot q x y).1, .int .i64 (rot q x y).2]) ∧ w = w' := by
  rw [← rot_mod q]
  have h3 := and3 q hq
  have hm : q % 4 < 4 := Nat.mod_lt _ (by omega)
  generalize q % 4 = m at *
  go_enter Try.func37, Try.ntmps37
  go_wp2_with fail
  go_loopg [0, 1, 10] m (fun g a b i wr => ∃ j : Nat, g + j = m ∧ a = .int .i64 (rot j x y).1 ∧ b = .int .i64 (rot j x y).2 ∧ i = .int .i64 j ∧ w = wr)
  case atStart => exact ⟨0, by omega, rfl, rfl, rfl, rfl⟩
  case round =>
    obtain ⟨j, hj, rfl, rfl, rfl, rfl⟩ := hrel
    have hb := rot_bd 100000000 j x y hx hy
    by_cases hlt : j < m
    · go_wp2_with fail
      go_roundg (gk - 1)
      case measure => omega
      case rel => exact ⟨j + 1, by omega, rfl, rfl, by go_num, rfl⟩
    · obtain rfl : j = m := by omega
      go_wp2_with fail
      go_ret2
      exact ⟨rfl, rfl⟩

set_option maxHeartbeats 400000 in
theorem rturned_any (x y : Int) (m : Nat) (w : World) (hx : -100000000 ≤ x ∧ x ≤ 100000000) (hy : -100000000 ≤ y ∧ y ≤ 100000000) (hm : m ≤ 3) :
    Calls Try.prog 40 #[.int .i64 x, .int .i64 y, .int .i64 m] w fun e w' => e = .returned (.tuple #[.int .i64 (rot m x y).1, .int .i64 (rot m x y).2]) ∧ w = w' := by
  go_enter Try.func40, Try.ntmps40
  go_wp2_with fail
  go_loopg [0, 1, 8] m (fun g a b i wr => ∃ j : Nat, g + j = m ∧ a = .int .i64 (rot j x y).1 ∧ b = .int .i64 (rot j x y).2 ∧ i = .int .i64 j ∧ w = wr)
  case atStart => exact ⟨0, by omega, rfl, rfl, rfl, rfl⟩
  case round =>
    obtain ⟨j, hj, rfl, rfl, rfl, rfl⟩ := hrel
    have hb := rot_bd 100000000 j x y hx hy
    by_cases hlt : j < m
    · go_wp2_with fail
      go_roundg (gk - 1)
      case measure => omega
      case rel => exact ⟨j + 1, by omega, rfl, rfl, by go_num, rfl⟩
    · obtain rfl : j = m := by omega
      go_wp2_with fail
      go_ret2
      exact ⟨rfl, rfl⟩

theorem floor_neg {a b : Int} (hb : 0 < b) (h : a.tmod b < 0) : a.tdiv b - 1 = a / b := by
  rw [Int.tdiv_eq_ediv]
  rw [Int.tmod_eq_emod] at h
  have h3 := Int.emod_nonneg a (show b ≠ 0 by omega)
  have h6 : b.sign = 1 := Int.sign_eq_one_of_pos hb
  split at h
  · omega
  · rename_i hn
    rw [if_neg hn, h6]
    omega
theorem floor_pos {a b : Int} (hb : 0 < b) (h : ¬ a.tmod b < 0) : a.tdiv b = a / b := by
  rw [Int.tdiv_eq_ediv]
  rw [Int.tmod_eq_emod] at h
  have h4 := Int.emod_lt_of_pos a hb
  split at h
  · rename_i hn
    rw [if_pos hn]
    omega
  · omega

theorem ediv_bd {a b c : Int} (hb : 0 < b) (hc : 0 ≤ c) (h1 : -c ≤ a) (h2 : a ≤ c) : -c ≤ a / b ∧ a / b ≤ c := by
  have hm := Int.mul_le_mul_of_nonneg_left (show 1 ≤ b by omega) hc
  constructor
  · refine Int.le_ediv_of_mul_le hb ?_
    rw [Int.neg_mul]; omega
  · have : a / b < c + 1 := Int.ediv_lt_of_lt_mul hb (by rw [Int.add_mul]; omega)
    omega

set_option maxHeartbeats 400000 in
theorem floor_any (a b : Int) (w : World) (ha : -1000000000000000000 ≤ a ∧ a ≤ 1000000000000000000) (hb : 0 < b ∧ b ≤ 1000000000) :
    Calls Try.prog 38 #[.int .i64 a, .int .i64 b] w fun e w' => e = .returned (.int .i64 (a / b)) ∧ w = w' := by
  have hb0 : ¬ b = 0 := by omega
  have n1 : ¬ b = -1 := by omega
  have hd := ediv_bd (c := 1000000000000000000) hb.1 (by omega) ha.1 ha.2
  go_enter Try.func38, Try.ntmps38
  go_wp2_with fail
  · go_ret
    exact ⟨ret_int (by rw [floor_neg hb.1 ‹_›, IntWalk.wrap64_in _ ⟨by omega, by omega⟩]), rfl⟩
  · go_ret
    exact ⟨ret_int (floor_pos hb.1 (by omega)), rfl⟩

set_option maxHeartbeats 400000 in
theorem down_any (a b : Int) (w : World) (ha : -1000000000000000000 ≤ a ∧ a ≤ 1000000000000000000) (hb : 0 < b ∧ b ≤ 1000000000) :
    Calls Try.prog 41 #[.int .i64 a, .int .i64 b] w fun e w' => e = .returned (.int .i64 (a / b)) ∧ w = w' := by
  have hb0 : ¬ b = 0 := by omega
  have n1 : ¬ b = -1 := by omega
  have hd := ediv_bd (c := 1000000000000000000) hb.1 (by omega) ha.1 ha.2
  go_enter Try.func41, Try.ntmps41
  go_wp2_with fail
  · go_ret
    exact ⟨ret_int (by rw [floor_neg hb.1 ‹_›, IntWalk.wrap64_in _ ⟨by omega, by omega⟩]), rfl⟩
  · go_ret
    exact ⟨ret_int (floor_pos hb.1 (by omega)), rfl⟩

end Go.Proofs.Ytjdjcjhdaedakaa
