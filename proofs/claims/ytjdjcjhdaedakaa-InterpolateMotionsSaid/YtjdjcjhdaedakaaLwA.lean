/-
  The walks of the laws InterpolateValid and InterpolateChords.
-/
import Derived.Test.YtjdjcjhdaedakaaOpA
namespace Go.Proofs.Ytjdjcjhdaedakaa
open Go.RowKit

set_option maxRecDepth 100000 in
set_option maxHeartbeats 1000000 in
theorem lawValid_line (x y z k tx ty tz cx cy r : Int) (w : World) (hx : I64 x) (hy : I64 y) (hz : I64 z) (htx : I64 tx) (hty : I64 ty) (htz : I64 tz) (hcx : I64 cx) (hcy : I64 cy) (hk : (k == 3 || k == 4) = false) :
    Calls Try.prog 3 #[.agg #[.int .i64 x, .int .i64 y, .int .i64 z], .agg #[.int .i64 k, .int .i64 tx, .int .i64 ty, .int .i64 tz, .int .i64 cx, .int .i64 cy, .int .i64 r]] w fun e w' => e = .returned (.bool true) ∧ Kp w w' := by
  go_enter Try.func3, Try.ntmps3
  go_wp2_with (first | (go_at_call 11; refine (awake_any _).mono ?_; rintro e w1 ⟨rfl, hk1⟩; obtain ⟨hc1, hf1⟩ := hk1.see; have hz1 := hk1.size; (try simp only [World.size_alloc] at hz1); have hz1_0 : w.heap.size < w1.heap.size := (by omega); have hz1_1 : w.heap.size + 1 < w1.heap.size := (by omega)) | (go_at_call 12; refine (quarters_line _ _ _ _ _ _ _ _ _ _ _ hk).mono ?_; rintro e w2 ⟨rfl, hk2⟩; obtain ⟨hc2, hf2⟩ := hk2.see; have hz2 := hk2.size; (try simp only [World.size_alloc] at hz2); have hz2_0 : w.heap.size < w2.heap.size := (by omega); have hz2_1 : w.heap.size + 1 < w2.heap.size := (by omega)) | (go_at_call 13; refine (rquarters_line _ _ _ _ _ _ _ _ _ _ _ hk).mono ?_; rintro e w3 ⟨rfl, hk3⟩; obtain ⟨hc3, hf3⟩ := hk3.see; have hz3 := hk3.size; (try simp only [World.size_alloc] at hz3); have hz3_0 : w.heap.size < w3.heap.size := (by omega); have hz3_1 : w.heap.size + 1 < w3.heap.size := (by omega)))
  have hkw : Kp w w3 := (by repeat (first | exact Kp.refl _ | assumption | (refine Kp.alloc ?_ _) | (refine Kp.drew ?_) | (refine Kp.drewN ?_ _) | (refine Kp.setCell ?_ (by first | omega | (simp only [World.size_alloc]; omega)) _) | (refine Kp.trans ?_ (by assumption))))
  obtain ⟨d0, d1, d2, d3, d4, d5, d6, d7, d8, d9⟩ : w3.cell? ⟨w.heap.size, 0, none⟩ = some (.int .i64 x) ∧ w3.cell? ⟨w.heap.size, 1, none⟩ = some (.int .i64 y) ∧ w3.cell? ⟨w.heap.size, 2, none⟩ = some (.int .i64 z) ∧ w3.cell? ⟨w.heap.size + 1, 0, none⟩ = some (.int .i64 k) ∧ w3.cell? ⟨w.heap.size + 1, 1, none⟩ = some (.int .i64 tx) ∧ w3.cell? ⟨w.heap.size + 1, 2, none⟩ = some (.int .i64 ty) ∧ w3.cell? ⟨w.heap.size + 1, 3, none⟩ = some (.int .i64 tz) ∧ w3.cell? ⟨w.heap.size + 1, 4, none⟩ = some (.int .i64 cx) ∧ w3.cell? ⟨w.heap.size + 1, 5, none⟩ = some (.int .i64 cy) ∧ w3.cell? ⟨w.heap.size + 1, 6, none⟩ = some (.int .i64 r) := by refine ⟨?_, ?_, ?_, ?_, ?_, ?_, ?_, ?_, ?_, ?_⟩ <;> go_simp
  clear hc1 hf1 hk1 hc2 hf2 hk2 hc3 hf3 hk3 hz1 hz2 hz3
  go_region_held3 (fun w' => w'.cell? ⟨w.heap.size, 0, none⟩ = some (.int .i64 x) ∧ w'.cell? ⟨w.heap.size, 1, none⟩ = some (.int .i64 y) ∧ w'.cell? ⟨w.heap.size, 2, none⟩ = some (.int .i64 z) ∧ w'.cell? ⟨w.heap.size + 1, 0, none⟩ = some (.int .i64 k) ∧ w'.cell? ⟨w.heap.size + 1, 1, none⟩ = some (.int .i64 tx) ∧ w'.cell? ⟨w.heap.size + 1, 2, none⟩ = some (.int .i64 ty) ∧ w'.cell? ⟨w.heap.size + 1, 3, none⟩ = some (.int .i64 tz) ∧ w'.cell? ⟨w.heap.size + 1, 4, none⟩ = some (.int .i64 cx) ∧ w'.cell? ⟨w.heap.size + 1, 5, none⟩ = some (.int .i64 cy) ∧ w'.cell? ⟨w.heap.size + 1, 6, none⟩ = some (.int .i64 r) ∧ w.heap.size + 1 < w'.heap.size ∧ Kp w w')
    ((go_split_ands; refine ⟨?_, ?_, ?_, ?_, ?_, ?_, ?_, ?_, ?_, ?_, ?_, ?_⟩ <;> first | assumption | (exact Kp.drew hkw) | (exact Kp.trans (by assumption) hk4) | (exact Kp.trans (by assumption) hk5) | (rw [hc4 _ _ (by omega)]; assumption) | (rw [hc5 _ _ (by omega)]; assumption) | omega))
    (first | (go_at_call 14; refine (valid_any _ _ _ _ _ _ _ _ _ _ _ hx hy hz htx hty htz hcx hcy).mono ?_; rintro e w4 ⟨rfl, hk4⟩; obtain ⟨hc4, hf4⟩ := hk4.see; have hz4 := hk4.size; (try simp only [World.size_alloc] at hz4); have hz4_0 : w.heap.size < w4.heap.size := (by omega); have hz4_1 : w.heap.size + 1 < w4.heap.size := (by omega)) | (go_at_call 15; refine (rvalid_any _ _ _ _ _ _ _ _ _ _ _ hx hy htx hty hcx hcy).mono ?_; rintro e w5 ⟨rfl, hk5⟩; obtain ⟨hc5, hf5⟩ := hk5.see; have hz5 := hk5.size; (try simp only [World.size_alloc] at hz5); have hz5_0 : w.heap.size < w5.heap.size := (by omega); have hz5_1 : w.heap.size + 1 < w5.heap.size := (by omega)))
  go_wp2_with fail
  go_ret
  exact ⟨rfl, (by repeat (first | exact Kp.refl _ | assumption | (refine Kp.alloc ?_ _) | (refine Kp.drew ?_) | (refine Kp.drewN ?_ _) | (refine Kp.setCell ?_ (by first | omega | (simp only [World.size_alloc]; omega)) _) | (refine Kp.trans ?_ (by assumption))))⟩

set_option maxRecDepth 100000 in
set_option maxHeartbeats 1000000 in
theorem lawValid_bad (x y z k tx ty tz cx cy r : Int) (w : World) (hx : I64 x) (hy : I64 y) (hz : I64 z) (htx : I64 tx) (hty : I64 ty) (htz : I64 tz) (hcx : I64 cx) (hcy : I64 cy) (hk : (k == 3 || k == 4) = true) (hv : (validM x y z k tx ty tz cx cy r != 0) = true) :
    Calls Try.prog 3 #[.agg #[.int .i64 x, .int .i64 y, .int .i64 z], .agg #[.int .i64 k, .int .i64 tx, .int .i64 ty, .int .i64 tz, .int .i64 cx, .int .i64 cy, .int .i64 r]] w fun e w' => e = .returned (.bool true) ∧ Kp w w' := by
  go_enter Try.func3, Try.ntmps3
  go_wp2_with (first | (go_at_call 11; refine (awake_any _).mono ?_; rintro e w1 ⟨rfl, hk1⟩; obtain ⟨hc1, hf1⟩ := hk1.see; have hz1 := hk1.size; (try simp only [World.size_alloc] at hz1); have hz1_0 : w.heap.size < w1.heap.size := (by omega); have hz1_1 : w.heap.size + 1 < w1.heap.size := (by omega)) | (go_at_call 12; refine (quarters_bad _ _ _ _ _ _ _ _ _ _ _ hx hy hz htx hty htz hcx hcy hk hv).mono ?_; rintro e w2 ⟨rfl, hk2⟩; obtain ⟨hc2, hf2⟩ := hk2.see; have hz2 := hk2.size; (try simp only [World.size_alloc] at hz2); have hz2_0 : w.heap.size < w2.heap.size := (by omega); have hz2_1 : w.heap.size + 1 < w2.heap.size := (by omega)) | (go_at_call 13; refine (rquarters_bad _ _ _ _ _ _ _ _ _ _ _ hx hy htx hty hcx hcy hk hv).mono ?_; rintro e w3 ⟨rfl, hk3⟩; obtain ⟨hc3, hf3⟩ := hk3.see; have hz3 := hk3.size; (try simp only [World.size_alloc] at hz3); have hz3_0 : w.heap.size < w3.heap.size := (by omega); have hz3_1 : w.heap.size + 1 < w3.heap.size := (by omega)))
  have hkw : Kp w w3 := (by repeat (first | exact Kp.refl _ | assumption | (refine Kp.alloc ?_ _) | (refine Kp.drew ?_) | (refine Kp.drewN ?_ _) | (refine Kp.setCell ?_ (by first | omega | (simp only [World.size_alloc]; omega)) _) | (refine Kp.trans ?_ (by assumption))))
  obtain ⟨d0, d1, d2, d3, d4, d5, d6, d7, d8, d9⟩ : w3.cell? ⟨w.heap.size, 0, none⟩ = some (.int .i64 x) ∧ w3.cell? ⟨w.heap.size, 1, none⟩ = some (.int .i64 y) ∧ w3.cell? ⟨w.heap.size, 2, none⟩ = some (.int .i64 z) ∧ w3.cell? ⟨w.heap.size + 1, 0, none⟩ = some (.int .i64 k) ∧ w3.cell? ⟨w.heap.size + 1, 1, none⟩ = some (.int .i64 tx) ∧ w3.cell? ⟨w.heap.size + 1, 2, none⟩ = some (.int .i64 ty) ∧ w3.cell? ⟨w.heap.size + 1, 3, none⟩ = some (.int .i64 tz) ∧ w3.cell? ⟨w.heap.size + 1, 4, none⟩ = some (.int .i64 cx) ∧ w3.cell? ⟨w.heap.size + 1, 5, none⟩ = some (.int .i64 cy) ∧ w3.cell? ⟨w.heap.size + 1, 6, none⟩ = some (.int .i64 r) := by refine ⟨?_, ?_, ?_, ?_, ?_, ?_, ?_, ?_, ?_, ?_⟩ <;> go_simp
  clear hc1 hf1 hk1 hc2 hf2 hk2 hc3 hf3 hk3 hz1 hz2 hz3
  go_region_held3 (fun w' => w'.cell? ⟨w.heap.size, 0, none⟩ = some (.int .i64 x) ∧ w'.cell? ⟨w.heap.size, 1, none⟩ = some (.int .i64 y) ∧ w'.cell? ⟨w.heap.size, 2, none⟩ = some (.int .i64 z) ∧ w'.cell? ⟨w.heap.size + 1, 0, none⟩ = some (.int .i64 k) ∧ w'.cell? ⟨w.heap.size + 1, 1, none⟩ = some (.int .i64 tx) ∧ w'.cell? ⟨w.heap.size + 1, 2, none⟩ = some (.int .i64 ty) ∧ w'.cell? ⟨w.heap.size + 1, 3, none⟩ = some (.int .i64 tz) ∧ w'.cell? ⟨w.heap.size + 1, 4, none⟩ = some (.int .i64 cx) ∧ w'.cell? ⟨w.heap.size + 1, 5, none⟩ = some (.int .i64 cy) ∧ w'.cell? ⟨w.heap.size + 1, 6, none⟩ = some (.int .i64 r) ∧ w.heap.size + 1 < w'.heap.size ∧ Kp w w')
    ((go_split_ands; refine ⟨?_, ?_, ?_, ?_, ?_, ?_, ?_, ?_, ?_, ?_, ?_, ?_⟩ <;> first | assumption | (exact Kp.drew hkw) | (exact Kp.trans (by assumption) hk4) | (exact Kp.trans (by assumption) hk5) | (rw [hc4 _ _ (by omega)]; assumption) | (rw [hc5 _ _ (by omega)]; assumption) | omega))
    (first | (go_at_call 14; refine (valid_any _ _ _ _ _ _ _ _ _ _ _ hx hy hz htx hty htz hcx hcy).mono ?_; rintro e w4 ⟨rfl, hk4⟩; obtain ⟨hc4, hf4⟩ := hk4.see; have hz4 := hk4.size; (try simp only [World.size_alloc] at hz4); have hz4_0 : w.heap.size < w4.heap.size := (by omega); have hz4_1 : w.heap.size + 1 < w4.heap.size := (by omega)) | (go_at_call 15; refine (rvalid_any _ _ _ _ _ _ _ _ _ _ _ hx hy htx hty hcx hcy).mono ?_; rintro e w5 ⟨rfl, hk5⟩; obtain ⟨hc5, hf5⟩ := hk5.see; have hz5 := hk5.size; (try simp only [World.size_alloc] at hz5); have hz5_0 : w.heap.size < w5.heap.size := (by omega); have hz5_1 : w.heap.size + 1 < w5.heap.size := (by omega)))
  go_wp2_with fail
  go_ret
  exact ⟨rfl, (by repeat (first | exact Kp.refl _ | assumption | (refine Kp.alloc ?_ _) | (refine Kp.drew ?_) | (refine Kp.drewN ?_ _) | (refine Kp.setCell ?_ (by first | omega | (simp only [World.size_alloc]; omega)) _) | (refine Kp.trans ?_ (by assumption))))⟩

set_option maxRecDepth 100000 in
set_option maxHeartbeats 1000000 in
theorem lawValid_good (x y z k tx ty tz cx cy r : Int) (w : World) (hx : I64 x) (hy : I64 y) (hz : I64 z) (htx : I64 tx) (hty : I64 ty) (htz : I64 tz) (hcx : I64 cx) (hcy : I64 cy) (hk : (k == 3 || k == 4) = true) (hv : (validM x y z k tx ty tz cx cy r != 0) = false) :
    Calls Try.prog 3 #[.agg #[.int .i64 x, .int .i64 y, .int .i64 z], .agg #[.int .i64 k, .int .i64 tx, .int .i64 ty, .int .i64 tz, .int .i64 cx, .int .i64 cy, .int .i64 r]] w fun e w' => e = .returned (.bool true) ∧ Kp w w' := by
  go_enter Try.func3, Try.ntmps3
  go_wp2_with (first | (go_at_call 11; refine (awake_any _).mono ?_; rintro e w1 ⟨rfl, hk1⟩; obtain ⟨hc1, hf1⟩ := hk1.see; have hz1 := hk1.size; (try simp only [World.size_alloc] at hz1); have hz1_0 : w.heap.size < w1.heap.size := (by omega); have hz1_1 : w.heap.size + 1 < w1.heap.size := (by omega)) | (go_at_call 12; refine (quarters_good _ _ _ _ _ _ _ _ _ _ _ hx hy hz htx hty htz hcx hcy hk hv).mono ?_; rintro e w2 ⟨rfl, hk2⟩; obtain ⟨hc2, hf2⟩ := hk2.see; have hz2 := hk2.size; (try simp only [World.size_alloc] at hz2); have hz2_0 : w.heap.size < w2.heap.size := (by omega); have hz2_1 : w.heap.size + 1 < w2.heap.size := (by omega)) | (go_at_call 13; refine (rquarters_good _ _ _ _ _ _ _ _ _ _ _ hx hy htx hty hcx hcy hk hv).mono ?_; rintro e w3 ⟨rfl, hk3⟩; obtain ⟨hc3, hf3⟩ := hk3.see; have hz3 := hk3.size; (try simp only [World.size_alloc] at hz3); have hz3_0 : w.heap.size < w3.heap.size := (by omega); have hz3_1 : w.heap.size + 1 < w3.heap.size := (by omega)))
  have hkw : Kp w w3 := (by repeat (first | exact Kp.refl _ | assumption | (refine Kp.alloc ?_ _) | (refine Kp.drew ?_) | (refine Kp.drewN ?_ _) | (refine Kp.setCell ?_ (by first | omega | (simp only [World.size_alloc]; omega)) _) | (refine Kp.trans ?_ (by assumption))))
  obtain ⟨d0, d1, d2, d3, d4, d5, d6, d7, d8, d9⟩ : w3.cell? ⟨w.heap.size, 0, none⟩ = some (.int .i64 x) ∧ w3.cell? ⟨w.heap.size, 1, none⟩ = some (.int .i64 y) ∧ w3.cell? ⟨w.heap.size, 2, none⟩ = some (.int .i64 z) ∧ w3.cell? ⟨w.heap.size + 1, 0, none⟩ = some (.int .i64 k) ∧ w3.cell? ⟨w.heap.size + 1, 1, none⟩ = some (.int .i64 tx) ∧ w3.cell? ⟨w.heap.size + 1, 2, none⟩ = some (.int .i64 ty) ∧ w3.cell? ⟨w.heap.size + 1, 3, none⟩ = some (.int .i64 tz) ∧ w3.cell? ⟨w.heap.size + 1, 4, none⟩ = some (.int .i64 cx) ∧ w3.cell? ⟨w.heap.size + 1, 5, none⟩ = some (.int .i64 cy) ∧ w3.cell? ⟨w.heap.size + 1, 6, none⟩ = some (.int .i64 r) := by refine ⟨?_, ?_, ?_, ?_, ?_, ?_, ?_, ?_, ?_, ?_⟩ <;> go_simp
  clear hc1 hf1 hk1 hc2 hf2 hk2 hc3 hf3 hk3 hz1 hz2 hz3
  go_region_held3 (fun w' => w'.cell? ⟨w.heap.size, 0, none⟩ = some (.int .i64 x) ∧ w'.cell? ⟨w.heap.size, 1, none⟩ = some (.int .i64 y) ∧ w'.cell? ⟨w.heap.size, 2, none⟩ = some (.int .i64 z) ∧ w'.cell? ⟨w.heap.size + 1, 0, none⟩ = some (.int .i64 k) ∧ w'.cell? ⟨w.heap.size + 1, 1, none⟩ = some (.int .i64 tx) ∧ w'.cell? ⟨w.heap.size + 1, 2, none⟩ = some (.int .i64 ty) ∧ w'.cell? ⟨w.heap.size + 1, 3, none⟩ = some (.int .i64 tz) ∧ w'.cell? ⟨w.heap.size + 1, 4, none⟩ = some (.int .i64 cx) ∧ w'.cell? ⟨w.heap.size + 1, 5, none⟩ = some (.int .i64 cy) ∧ w'.cell? ⟨w.heap.size + 1, 6, none⟩ = some (.int .i64 r) ∧ w.heap.size + 1 < w'.heap.size ∧ Kp w w')
    ((go_split_ands; refine ⟨?_, ?_, ?_, ?_, ?_, ?_, ?_, ?_, ?_, ?_, ?_, ?_⟩ <;> first | assumption | (exact Kp.drew hkw) | (exact Kp.trans (by assumption) hk4) | (exact Kp.trans (by assumption) hk5) | (rw [hc4 _ _ (by omega)]; assumption) | (rw [hc5 _ _ (by omega)]; assumption) | omega))
    (first | (go_at_call 14; refine (valid_any _ _ _ _ _ _ _ _ _ _ _ hx hy hz htx hty htz hcx hcy).mono ?_; rintro e w4 ⟨rfl, hk4⟩; obtain ⟨hc4, hf4⟩ := hk4.see; have hz4 := hk4.size; (try simp only [World.size_alloc] at hz4); have hz4_0 : w.heap.size < w4.heap.size := (by omega); have hz4_1 : w.heap.size + 1 < w4.heap.size := (by omega)) | (go_at_call 15; refine (rvalid_any _ _ _ _ _ _ _ _ _ _ _ hx hy htx hty hcx hcy).mono ?_; rintro e w5 ⟨rfl, hk5⟩; obtain ⟨hc5, hf5⟩ := hk5.see; have hz5 := hk5.size; (try simp only [World.size_alloc] at hz5); have hz5_0 : w.heap.size < w5.heap.size := (by omega); have hz5_1 : w.heap.size + 1 < w5.heap.size := (by omega)))
  go_wp2_with fail
  go_ret
  exact ⟨rfl, (by repeat (first | exact Kp.refl _ | assumption | (refine Kp.alloc ?_ _) | (refine Kp.drew ?_) | (refine Kp.drewN ?_ _) | (refine Kp.setCell ?_ (by first | omega | (simp only [World.size_alloc]; omega)) _) | (refine Kp.trans ?_ (by assumption))))⟩

theorem lawValid_any (x y z k tx ty tz cx cy r : Int) (w : World) (hx : I64 x) (hy : I64 y) (hz : I64 z) (htx : I64 tx) (hty : I64 ty) (htz : I64 tz) (hcx : I64 cx) (hcy : I64 cy) :
    Calls Try.prog 3 #[.agg #[.int .i64 x, .int .i64 y, .int .i64 z], .agg #[.int .i64 k, .int .i64 tx, .int .i64 ty, .int .i64 tz, .int .i64 cx, .int .i64 cy, .int .i64 r]] w fun e w' => e = .returned (.bool true) ∧ Kp w w' := by
  cases hk : (k == 3 || k == 4)
  · exact lawValid_line x y z k tx ty tz cx cy r w hx hy hz htx hty htz hcx hcy hk
  · cases hv : (validM x y z k tx ty tz cx cy r != 0)
    · exact lawValid_good x y z k tx ty tz cx cy r w hx hy hz htx hty htz hcx hcy hk hv
    · exact lawValid_bad x y z k tx ty tz cx cy r w hx hy hz htx hty htz hcx hcy hk hv

set_option maxHeartbeats 1000000 in
theorem lawChords_any (r : Int) (w : World) (hr : I64 r) :
    Calls Try.prog 4 #[.int .i64 r] w fun e w' => e = .returned (.bool true) ∧ Kp w w' := by
  obtain ⟨h1, h2⟩ := hr
  by_cases hbig : 1099511627776 < r
  · go_enter Try.func4, Try.ntmps4
    go_wp2_with fail
    refine (awake_any _).mono ?_
    rintro e w1 ⟨rfl, hk1⟩; obtain ⟨hc1, hf1⟩ := hk1.see; have hz1 := hk1.size; (try simp only [World.size_alloc] at hz1)
    go_wp2_with fail
    refine (awake_any _).mono ?_
    rintro e w2 ⟨rfl, hk2⟩; obtain ⟨hc2, hf2⟩ := hk2.see; have hz2 := hk2.size; (try simp only [World.size_alloc] at hz2)
    go_wp2_with fail
    go_ret
    exact ⟨rfl, (by repeat (first | exact Kp.refl _ | assumption | (refine Kp.alloc ?_ _) | (refine Kp.drew ?_) | (refine Kp.drewN ?_ _) | (refine Kp.setCell ?_ (by first | omega | (simp only [World.size_alloc]; omega)) _) | (refine Kp.trans ?_ (by assumption))))⟩
  · by_cases h0 : r ≤ 0
    · have c0 := chordsM_neg h0
      go_enter Try.func4, Try.ntmps4
      go_wp2_with (first | (go_at_call 11; refine (awake_any _).mono ?_; rintro e w1 ⟨rfl, hk1⟩; obtain ⟨hc1, hf1⟩ := hk1.see; have hz1 := hk1.size; (try simp only [World.size_alloc] at hz1)) | (go_at_call 16; refine (chords_any _ _ (by omega)).mono ?_; rw [c0]; rintro e w' ⟨rfl, rfl⟩))
      go_ret
      exact ⟨rfl, (by repeat (first | exact Kp.refl _ | assumption | (refine Kp.alloc ?_ _) | (refine Kp.drew ?_) | (refine Kp.drewN ?_ _) | (refine Kp.setCell ?_ (by first | omega | (simp only [World.size_alloc]; omega)) _) | (refine Kp.trans ?_ (by assumption))))⟩
    · obtain ⟨a1, a2, a3⟩ := chordsM_is (r := r) (by omega)
      have a4 := IsCh.le (b := 1048576) ⟨a1, a2, a3⟩ (by omega) (by omega)
      have e1 : 10 * chordsM r * chordsM r = 10 * (chordsM r * chordsM r) := Int.mul_assoc _ _ _
      have e2 : 10 * (chordsM r - 1) * (chordsM r - 1) = 10 * ((chordsM r - 1) * (chordsM r - 1)) := Int.mul_assoc _ _ _
      have b1 := sq_mono (a := chordsM r) (b := 1048576) (by omega) a4
      have b2 := sq_mono (a := chordsM r - 1) (b := 1048576) (by omega) (by omega)
      have b3 : 0 ≤ chordsM r * chordsM r := Int.mul_nonneg (by omega) (by omega)
      have b4 : 0 ≤ (chordsM r - 1) * (chordsM r - 1) := Int.mul_nonneg (by omega) (by omega)
      by_cases h3 : chordsM r = 1
      · have a5 : r ≤ 10 := by rw [h3] at a2; omega
        go_enter Try.func4, Try.ntmps4
        go_wp2_with (first | (go_at_call 11; refine (awake_any _).mono ?_; rintro e w1 ⟨rfl, hk1⟩; obtain ⟨hc1, hf1⟩ := hk1.see; have hz1 := hk1.size; (try simp only [World.size_alloc] at hz1)) | (go_at_call 16; refine (chords_any _ _ (by omega)).mono ?_; rintro e w' ⟨rfl, rfl⟩))
        go_ret
        exact ⟨rfl, (by repeat (first | exact Kp.refl _ | assumption | (refine Kp.alloc ?_ _) | (refine Kp.drew ?_) | (refine Kp.drewN ?_ _) | (refine Kp.setCell ?_ (by first | omega | (simp only [World.size_alloc]; omega)) _) | (refine Kp.trans ?_ (by assumption))))⟩
      · have h4 : (chordsM r == 1) = false := by simpa using h3
        go_enter Try.func4, Try.ntmps4
        go_wp2_with (first | (go_at_call 11; refine (awake_any _).mono ?_; rintro e w1 ⟨rfl, hk1⟩; obtain ⟨hc1, hf1⟩ := hk1.see; have hz1 := hk1.size; (try simp only [World.size_alloc] at hz1)) | (go_at_call 16; refine (chords_any _ _ (by omega)).mono ?_; rintro e w' ⟨rfl, rfl⟩))
        go_ret
        exact ⟨rfl, (by repeat (first | exact Kp.refl _ | assumption | (refine Kp.alloc ?_ _) | (refine Kp.drew ?_) | (refine Kp.drewN ?_ _) | (refine Kp.setCell ?_ (by first | omega | (simp only [World.size_alloc]; omega)) _) | (refine Kp.trans ?_ (by assumption))))⟩

end Go.Proofs.Ytjdjcjhdaedakaa
