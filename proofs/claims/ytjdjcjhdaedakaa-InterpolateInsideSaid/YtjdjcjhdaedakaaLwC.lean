/-
  The walk of the law InterpolateInside.
-/
import Derived.Test.YtjdjcjhdaedakaaInA
namespace Go.Proofs.Ytjdjcjhdaedakaa
open Go.RowKit

set_option maxRecDepth 100000 in
set_option maxHeartbeats 1000000 in
theorem lawInside_far (x y z k tx ty tz cx cy r : Int) (w : World) (hx : I64 x) (hy : I64 y) (hz : I64 z) (htx : I64 tx) (hty : I64 ty) (htz : I64 tz) (hcx : I64 cx) (hcy : I64 cy) (hkk : I64 k) (hrr : I64 r) (hfew : fewM x y z [⟨k, tx, ty, tz, cx, cy, r⟩] = false) :
    Calls Try.prog 6 #[.agg #[.int .i64 x, .int .i64 y, .int .i64 z], .agg #[.int .i64 k, .int .i64 tx, .int .i64 ty, .int .i64 tz, .int .i64 cx, .int .i64 cy, .int .i64 r]] w fun e w' => e = .returned (.bool true) ∧ Kp w w' := by
  go_enter Try.func6, Try.ntmps6
  go_wp2_with fail
  refine (awake_any _).mono ?_
  rintro e w1 ⟨rfl, hk1⟩; obtain ⟨hc1, hf1⟩ := hk1.see; have hz1 := hk1.size; (try simp only [World.size_alloc] at hz1); have hz1_0 : w.heap.size < w1.heap.size := (by omega); have hz1_1 : w.heap.size + 1 < w1.heap.size := (by omega)
  go_wp2_with (go_at_call 17; refine (few_one _ _ _ _ _ _ _ _ _ _ _ hx hy hz hkk htx hty htz hcx hcy hrr).mono ?_; rw [hfew]; rintro e w2 ⟨rfl, hk2⟩; obtain ⟨hc2, hf2⟩ := hk2.see; have hz2 := hk2.size; (try simp only [World.size_alloc] at hz2); have hz2_0 : w.heap.size < w2.heap.size := (by omega); have hz2_1 : w.heap.size + 1 < w2.heap.size := (by omega))
  refine (awake_any _).mono ?_
  rintro e w3 ⟨rfl, hk3⟩; obtain ⟨hc3, hf3⟩ := hk3.see; have hz3 := hk3.size; (try simp only [World.size_alloc] at hz3); have hz3_0 : w.heap.size < w3.heap.size := (by omega); have hz3_1 : w.heap.size + 1 < w3.heap.size := (by omega)
  go_wp2_with fail
  go_ret
  exact ⟨rfl, (by repeat (first | exact Kp.refl _ | assumption | (refine Kp.alloc ?_ _) | (refine Kp.drew ?_) | (refine Kp.drewN ?_ _) | (refine Kp.setCell ?_ (by first | omega | (simp only [World.size_alloc]; omega)) _) | (refine Kp.trans ?_ (by assumption))))⟩

set_option maxRecDepth 100000 in
set_option maxHeartbeats 1000000 in
theorem lawInside_line (x y z k tx ty tz cx cy r : Int) (w : World) (hx : I64 x) (hy : I64 y) (hz : I64 z) (htx : I64 tx) (hty : I64 ty) (htz : I64 tz) (hcx : I64 cx) (hcy : I64 cy) (hkk : I64 k) (hrr : I64 r) (hfew : fewM x y z [⟨k, tx, ty, tz, cx, cy, r⟩] = true) (hk : (k == 3 || k == 4) = false) :
    Calls Try.prog 6 #[.agg #[.int .i64 x, .int .i64 y, .int .i64 z], .agg #[.int .i64 k, .int .i64 tx, .int .i64 ty, .int .i64 tz, .int .i64 cx, .int .i64 cy, .int .i64 r]] w fun e w' => e = .returned (.bool true) ∧ Kp w w' := by
  go_enter Try.func6, Try.ntmps6
  go_wp2_with (first | (go_at_call 11; refine (awake_any _).mono ?_; rintro e w1 ⟨rfl, hk1⟩; obtain ⟨hc1, hf1⟩ := hk1.see; have hz1 := hk1.size; (try simp only [World.size_alloc] at hz1); have hz1_0 : w.heap.size < w1.heap.size := (by omega); have hz1_1 : w.heap.size + 1 < w1.heap.size := (by omega)) | (go_at_call 17; refine (few_one _ _ _ _ _ _ _ _ _ _ _ hx hy hz hkk htx hty htz hcx hcy hrr).mono ?_; rw [hfew]; rintro e w2 ⟨rfl, hk2⟩; obtain ⟨hc2, hf2⟩ := hk2.see; have hz2 := hk2.size; (try simp only [World.size_alloc] at hz2); have hz2_0 : w.heap.size < w2.heap.size := (by omega); have hz2_1 : w.heap.size + 1 < w2.heap.size := (by omega)) | (go_at_call 18; refine (arc_line _ _ _ _ _ _ _ _ _ _ _ hk).mono ?_; rintro e w3 ⟨rfl, hk3⟩; obtain ⟨hc3, hf3⟩ := hk3.see; have hz3 := hk3.size; (try simp only [World.size_alloc] at hz3); have hz3_0 : w.heap.size < w3.heap.size := (by omega); have hz3_1 : w.heap.size + 1 < w3.heap.size := (by omega)) | (go_at_call 13; refine (rquarters_line _ _ _ _ _ _ _ _ _ _ _ hk).mono ?_; rintro e w4 ⟨rfl, hk4⟩; obtain ⟨hc4, hf4⟩ := hk4.see; have hz4 := hk4.size; (try simp only [World.size_alloc] at hz4); have hz4_0 : w.heap.size < w4.heap.size := (by omega); have hz4_1 : w.heap.size + 1 < w4.heap.size := (by omega)))
  go_ret
  exact ⟨rfl, (by repeat (first | exact Kp.refl _ | assumption | (refine Kp.alloc ?_ _) | (refine Kp.drew ?_) | (refine Kp.drewN ?_ _) | (refine Kp.setCell ?_ (by first | omega | (simp only [World.size_alloc]; omega)) _) | (refine Kp.trans ?_ (by assumption))))⟩

set_option maxRecDepth 100000 in
set_option maxHeartbeats 1000000 in
theorem lawInside_bad (x y z k tx ty tz cx cy r : Int) (w : World) (hx : I64 x) (hy : I64 y) (hz : I64 z) (htx : I64 tx) (hty : I64 ty) (htz : I64 tz) (hcx : I64 cx) (hcy : I64 cy) (hkk : I64 k) (hrr : I64 r) (hfew : fewM x y z [⟨k, tx, ty, tz, cx, cy, r⟩] = true) (hk : (k == 3 || k == 4) = true) (hv : (validM x y z k tx ty tz cx cy r != 0) = true) :
    Calls Try.prog 6 #[.agg #[.int .i64 x, .int .i64 y, .int .i64 z], .agg #[.int .i64 k, .int .i64 tx, .int .i64 ty, .int .i64 tz, .int .i64 cx, .int .i64 cy, .int .i64 r]] w fun e w' => e = .returned (.bool true) ∧ Kp w w' := by
  go_enter Try.func6, Try.ntmps6
  go_wp2_with (first | (go_at_call 11; refine (awake_any _).mono ?_; rintro e w1 ⟨rfl, hk1⟩; obtain ⟨hc1, hf1⟩ := hk1.see; have hz1 := hk1.size; (try simp only [World.size_alloc] at hz1); have hz1_0 : w.heap.size < w1.heap.size := (by omega); have hz1_1 : w.heap.size + 1 < w1.heap.size := (by omega)) | (go_at_call 17; refine (few_one _ _ _ _ _ _ _ _ _ _ _ hx hy hz hkk htx hty htz hcx hcy hrr).mono ?_; rw [hfew]; rintro e w2 ⟨rfl, hk2⟩; obtain ⟨hc2, hf2⟩ := hk2.see; have hz2 := hk2.size; (try simp only [World.size_alloc] at hz2); have hz2_0 : w.heap.size < w2.heap.size := (by omega); have hz2_1 : w.heap.size + 1 < w2.heap.size := (by omega)) | (go_at_call 18; refine (arc_bad _ _ _ _ _ _ _ _ _ _ _ hx hy hz htx hty htz hcx hcy hk hv).mono ?_; rintro e w3 ⟨rfl, hk3⟩; obtain ⟨hc3, hf3⟩ := hk3.see; have hz3 := hk3.size; (try simp only [World.size_alloc] at hz3); have hz3_0 : w.heap.size < w3.heap.size := (by omega); have hz3_1 : w.heap.size + 1 < w3.heap.size := (by omega)) | (go_at_call 13; refine (rquarters_bad _ _ _ _ _ _ _ _ _ _ _ hx hy htx hty hcx hcy hk hv).mono ?_; rintro e w4 ⟨rfl, hk4⟩; obtain ⟨hc4, hf4⟩ := hk4.see; have hz4 := hk4.size; (try simp only [World.size_alloc] at hz4); have hz4_0 : w.heap.size < w4.heap.size := (by omega); have hz4_1 : w.heap.size + 1 < w4.heap.size := (by omega)))
  go_ret
  exact ⟨rfl, (by repeat (first | exact Kp.refl _ | assumption | (refine Kp.alloc ?_ _) | (refine Kp.drew ?_) | (refine Kp.drewN ?_ _) | (refine Kp.setCell ?_ (by first | omega | (simp only [World.size_alloc]; omega)) _) | (refine Kp.trans ?_ (by assumption))))⟩

set_option maxRecDepth 100000 in
set_option maxHeartbeats 2000000 in
theorem lawInside_good (x y z k tx ty tz cx cy r : Int) (w : World) (hx : I64 x) (hy : I64 y) (hz : I64 z) (htx : I64 tx) (hty : I64 ty) (htz : I64 tz) (hcx : I64 cx) (hcy : I64 cy) (hkk : I64 k) (hrr : I64 r) (hfew : fewM x y z [⟨k, tx, ty, tz, cx, cy, r⟩] = true) (hk : (k == 3 || k == 4) = true) (hv : (validM x y z k tx ty tz cx cy r != 0) = false) :
    Calls Try.prog 6 #[.agg #[.int .i64 x, .int .i64 y, .int .i64 z], .agg #[.int .i64 k, .int .i64 tx, .int .i64 ty, .int .i64 tz, .int .i64 cx, .int .i64 cy, .int .i64 r]] w fun e w' => e = .returned (.bool true) ∧ Kp w w' := by
  have hk' : k = 3 ∨ k = 4 := by simpa using hk
  have hv' : validM x y z k tx ty tz cx cy r = 0 := by simpa using hv
  obtain ⟨_, _, _, _, x1, y1, z1, _, _, z2, c1, c2, _⟩ := valid0 hk' hv'
  obtain ⟨l, R, hl, hR, p1, p2, hpos, hlen, hnear, hlast⟩ := arc_props hk' hv'
  have HL := Lib.hid hl
  have HR := Lib.hid hR
  have HN := Lib.hid hnear
  have HLast := Lib.hid hlast
  clear hl hR hnear hlast hk' hv'
  go_enter Try.func6, Try.ntmps6
  go_wp2_with (first | (go_at_call 11; refine (awake_any _).mono ?_; rintro e w1 ⟨rfl, hk1⟩; obtain ⟨hc1, hf1⟩ := hk1.see; have hz1 := hk1.size; (try simp only [World.size_alloc] at hz1); have hz1_0 : w.heap.size < w1.heap.size := (by omega); have hz1_1 : w.heap.size + 1 < w1.heap.size := (by omega)) | (go_at_call 17; refine (few_one _ _ _ _ _ _ _ _ _ _ _ hx hy hz hkk htx hty htz hcx hcy hrr).mono ?_; rw [hfew]; rintro e w2 ⟨rfl, hk2⟩; obtain ⟨hc2, hf2⟩ := hk2.see; have hz2 := hk2.size; (try simp only [World.size_alloc] at hz2); have hz2_0 : w.heap.size < w2.heap.size := (by omega); have hz2_1 : w.heap.size + 1 < w2.heap.size := (by omega)) | fail)
  refine (arc_good _ _ _ _ _ _ _ _ _ _ _ hx hy hz htx hty htz hcx hcy hk hv).mono ?_
  rw [HL.out]
  rintro e w3 ⟨v3, rfl, hown3, hk3⟩
  obtain ⟨_, A, ca, rfl, hA⟩ := Rd.of_own hown3
  obtain ⟨b1, o1, rfl, hb3, hcb3⟩ := hA hpos
  have Hcb := Lib.hid hcb3
  clear hA hcb3
  obtain ⟨hc3, hf3⟩ := hk3.see
  have hz3 := hk3.size
  have hz3_0 : w.heap.size < w3.heap.size := by omega
  have hz3_1 : w.heap.size + 1 < w3.heap.size := by omega
  clear hown3
  go_wp2_with (first | (go_at_call 13; refine (rquarters_good _ _ _ _ _ _ _ _ _ _ _ hx hy htx hty hcx hcy hk hv).mono ?_; rintro e w4 ⟨rfl, hk4⟩; obtain ⟨hc4, hf4⟩ := hk4.see; have hz4 := hk4.size; (try simp only [World.size_alloc] at hz4); have hz4_0 : w.heap.size < w4.heap.size := (by omega); have hz4_1 : w.heap.size + 1 < w4.heap.size := (by omega)) | (go_at_call 21; refine (radius_any _ _ _ _ _ _ _ _ _ _ _ x1 y1 c1 c2).mono ?_; rw [HR.out]; rintro e w5 ⟨rfl, hk5⟩; obtain ⟨hc5, hf5⟩ := hk5.see; have hz5 := hk5.size; (try simp only [World.size_alloc] at hz5); have hz5_0 : w.heap.size < w5.heap.size := (by omega); have hz5_1 : w.heap.size + 1 < w5.heap.size := (by omega)))
  have hkw : Kp w w5 := (by repeat (first | exact Kp.refl _ | assumption | (refine Kp.alloc ?_ _) | (refine Kp.drew ?_) | (refine Kp.drewN ?_ _) | (refine Kp.setCell ?_ (by first | omega | (simp only [World.size_alloc]; omega)) _) | (refine Kp.trans ?_ (by assumption))))
  have hk35 := hk4.trans hk5
  have hb1 : b1 < w5.heap.size := Nat.lt_of_lt_of_le hb3 hk35.size
  have hc1' : ∀ j u, (cells3 l)[j]? = some u → w5.cell? ⟨b1, o1 + j, none⟩ = some u := fun j u hu => (hk35.below.cell (p := ⟨b1, o1 + j, none⟩) hb3).trans (Hcb.out j u hu)
  have Hc1 := Lib.hid hc1'
  have d1 : w5.cell? ⟨w.heap.size + 1, 4, none⟩ = some (.int .i64 cx) := by go_simp
  have d2 : w5.cell? ⟨w.heap.size + 1, 5, none⟩ = some (.int .i64 cy) := by go_simp
  have d3 : w5.cell? ⟨w.heap.size + 1, 1, none⟩ = some (.int .i64 tx) := by go_simp
  have d4 : w5.cell? ⟨w.heap.size + 1, 2, none⟩ = some (.int .i64 ty) := by go_simp
  have d5 : w5.cell? ⟨w.heap.size + 1, 3, none⟩ = some (.int .i64 tz) := by go_simp
  clear hc1 hf1 hk1 hz1 hc2 hf2 hk2 hz2 hc3 hf3 hk3 hz3 hc4 hf4 hk4 hz4 hc5 hf5 hk5 hz5 hc1' hk35
  have hRR : R * R ≤ 10000000 * 10000000 := sq_mono (by omega) p2
  have hRR0 : 0 ≤ R * R := Int.mul_nonneg (by omega) (by omega)
  go_loopg [51] l.length (fun g i wr => ∃ j : Nat, g + j = l.length ∧ i = .int .i64 j ∧ Kp w5 wr)
  case atStart => exact ⟨0, by omega, rfl, Kp.refl _⟩
  case round =>
    obtain ⟨j, hj, rfl, hkr⟩ := hrel
    by_cases hlt : j < l.length
    · obtain ⟨q1, q2, q3⟩ := cells3_at hlt
      obtain ⟨n1, n2, n3⟩ := HN.out j hlt
      generalize l[j] = p at *
      obtain ⟨pX, pY, pZ⟩ := p
      simp only at q1 q2 q3 n1 n2 n3
      have e1 := (hkr.below.cell (p := ⟨b1, o1 + j * 3, none⟩) hb1).trans (Hc1.out _ _ q1)
      have e2 := (hkr.below.cell (p := ⟨b1, o1 + (j * 3 + 1), none⟩) hb1).trans (Hc1.out _ _ q2)
      have e3 := (hkr.below.cell (p := ⟨b1, o1 + (j * 3 + 2), none⟩) hb1).trans (Hc1.out _ _ q3)
      rw [← Nat.add_assoc] at e2 e3
      have g1 := (hkr.below.cell (p := ⟨w.heap.size + 1, 4, none⟩) hz5_1).trans d1
      have g2 := (hkr.below.cell (p := ⟨w.heap.size + 1, 5, none⟩) hz5_1).trans d2
      have hne : w.heap.size + 1 < wr.heap.size := Nat.lt_of_lt_of_le hz5_1 hkr.size
      obtain ⟨dx, hdx⟩ : ∃ d, pX - cx = d := ⟨_, rfl⟩
      obtain ⟨dy, hdy⟩ : ∃ d, pY - cy = d := ⟨_, rfl⟩
      rw [hdx] at n1 n3
      rw [hdy] at n2 n3
      have m1 : 0 ≤ dx * dx := by rcases Int.le_total 0 dx with h | h; exact Int.mul_nonneg h h; exact Int.mul_nonneg_of_nonpos_of_nonpos h h
      have m2 : 0 ≤ dy * dy := by rcases Int.le_total 0 dy with h | h; exact Int.mul_nonneg h h; exact Int.mul_nonneg_of_nonpos_of_nonpos h h
      have i1 : IntKind.i64.wrap dx = dx := IntWalk.i64_in _ (by omega)
      have i2 : IntKind.i64.wrap dy = dy := IntWalk.i64_in _ (by omega)
      clear q1 q2 q3
      go_wp2_with fail
      go_quiet (fail)
      clear i1 i2
      go_wp2_with fail
      go_roundg (gk - 1)
      case measure => omega
      case rel => exact ⟨j + 1, by omega, by go_num, (by repeat (first | exact Kp.refl _ | assumption | (refine Kp.alloc ?_ _) | (refine Kp.drew ?_) | (refine Kp.drewN ?_ _) | (refine Kp.setCell ?_ (by first | omega | (simp only [World.size_alloc]; omega)) _) | (refine Kp.trans ?_ (by assumption))))⟩
    · have hl1 : l.length - 1 < l.length := by omega
      obtain ⟨q1, q2, q3⟩ := cells3_at hl1
      rw [HLast.out hl1] at q1 q2 q3
      have e1 := (hkr.below.cell (p := ⟨b1, o1 + (l.length - 1) * 3, none⟩) hb1).trans (Hc1.out _ _ q1)
      have e2 := (hkr.below.cell (p := ⟨b1, o1 + ((l.length - 1) * 3 + 1), none⟩) hb1).trans (Hc1.out _ _ q2)
      have e3 := (hkr.below.cell (p := ⟨b1, o1 + ((l.length - 1) * 3 + 2), none⟩) hb1).trans (Hc1.out _ _ q3)
      rw [← Nat.add_assoc] at e2 e3
      simp only at e1 e2 e3
      have g3 := (hkr.below.cell (p := ⟨w.heap.size + 1, 1, none⟩) hz5_1).trans d3
      have g4 := (hkr.below.cell (p := ⟨w.heap.size + 1, 2, none⟩) hz5_1).trans d4
      have g5 := (hkr.below.cell (p := ⟨w.heap.size + 1, 3, none⟩) hz5_1).trans d5
      have i0 : (0 : Int) < (l.length : Int) := by omega
      have i1 : IntKind.i64.wrap ((l.length : Int) - 1) = (l.length : Int) - 1 := IntWalk.i64_in _ (by omega)
      have i2 : ((l.length : Int) - 1).toNat = l.length - 1 := by omega
      have i3 : (0 : Int) ≤ (l.length : Int) - 1 := by omega
      have i4 : (1 : Int) ≤ (l.length : Int) := by omega
      have i5 : (l.length : Int) - 1 < (l.length : Int) := by omega
      have Hlt : ¬ (j : Int) < (l.length : Int) := by omega
      clear q1 q2 q3 hl1
      go_wp2_with fail
      go_quiet (fail)
      go_wp2_with fail
      go_ret
      exact ⟨rfl, (by repeat (first | exact Kp.refl _ | assumption | (refine Kp.alloc ?_ _) | (refine Kp.drew ?_) | (refine Kp.drewN ?_ _) | (refine Kp.setCell ?_ (by first | omega | (simp only [World.size_alloc]; omega)) _) | (refine Kp.trans ?_ (by assumption))))⟩

theorem lawInside_any (x y z k tx ty tz cx cy r : Int) (w : World) (hx : I64 x) (hy : I64 y) (hz : I64 z) (htx : I64 tx) (hty : I64 ty) (htz : I64 tz) (hcx : I64 cx) (hcy : I64 cy) (hkk : I64 k) (hrr : I64 r) :
    Calls Try.prog 6 #[.agg #[.int .i64 x, .int .i64 y, .int .i64 z], .agg #[.int .i64 k, .int .i64 tx, .int .i64 ty, .int .i64 tz, .int .i64 cx, .int .i64 cy, .int .i64 r]] w fun e w' => e = .returned (.bool true) ∧ Kp w w' := by
  cases hfew : fewM x y z [⟨k, tx, ty, tz, cx, cy, r⟩]
  · exact lawInside_far x y z k tx ty tz cx cy r w hx hy hz htx hty htz hcx hcy hkk hrr hfew
  · cases hk : (k == 3 || k == 4)
    · exact lawInside_line x y z k tx ty tz cx cy r w hx hy hz htx hty htz hcx hcy hkk hrr hfew hk
    · cases hv : (validM x y z k tx ty tz cx cy r != 0)
      · exact lawInside_good x y z k tx ty tz cx cy r w hx hy hz htx hty htz hcx hcy hkk hrr hfew hk hv
      · exact lawInside_bad x y z k tx ty tz cx cy r w hx hy hz htx hty htz hcx hcy hkk hrr hfew hk hv

end Go.Proofs.Ytjdjcjhdaedakaa
