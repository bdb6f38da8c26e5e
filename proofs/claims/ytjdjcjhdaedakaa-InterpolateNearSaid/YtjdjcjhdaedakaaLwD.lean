/-
  The walk of the law InterpolateNear.
-/
import Derived.Test.YtjdjcjhdaedakaaNeB
namespace Go.Proofs.Ytjdjcjhdaedakaa
open Go.RowKit
set_option linter.unusedVariables false

set_option maxRecDepth 100000 in
set_option maxHeartbeats 1000000 in
theorem lawNear_bad (x y z k tx ty tz cx cy r : Int) (w : World) (hx : I64 x) (hy : I64 y) (hz : I64 z) (htx : I64 tx) (hty : I64 ty) (htz : I64 tz) (hcx : I64 cx) (hcy : I64 cy) (hv : (validM x y z k tx ty tz cx cy r != 0) = true) :
    Calls Try.prog 7 #[.agg #[.int .i64 x, .int .i64 y, .int .i64 z], .agg #[.int .i64 k, .int .i64 tx, .int .i64 ty, .int .i64 tz, .int .i64 cx, .int .i64 cy, .int .i64 r]] w fun e w' => e = .returned (.bool true) ∧ Kp w w' := by
  go_enter Try.func7, Try.ntmps7
  go_wp2_with fail
  refine (awake_any _).mono ?_
  rintro e w1 ⟨rfl, hk1⟩; obtain ⟨hc1, hf1⟩ := hk1.see; have hz1 := hk1.size; (try simp only [World.size_alloc] at hz1); have hz1_0 : w.heap.size < w1.heap.size := (by omega); have hz1_1 : w.heap.size + 1 < w1.heap.size := (by omega)
  go_wp2_with (go_at_call 15; refine (rvalid_any _ _ _ _ _ _ _ _ _ _ _ hx hy htx hty hcx hcy).mono ?_; rintro e w2 ⟨rfl, hk2⟩; obtain ⟨hc2, hf2⟩ := hk2.see; have hz2 := hk2.size; (try simp only [World.size_alloc] at hz2); have hz2_0 : w.heap.size < w2.heap.size := (by omega); have hz2_1 : w.heap.size + 1 < w2.heap.size := (by omega))
  refine (awake_any _).mono ?_
  rintro e w3 ⟨rfl, hk3⟩; obtain ⟨hc3, hf3⟩ := hk3.see; have hz3 := hk3.size; (try simp only [World.size_alloc] at hz3); have hz3_0 : w.heap.size < w3.heap.size := (by omega); have hz3_1 : w.heap.size + 1 < w3.heap.size := (by omega)
  go_wp2_with fail
  go_ret
  exact ⟨rfl, (by repeat (first | exact Kp.refl _ | assumption | (refine Kp.alloc ?_ _) | (refine Kp.drew ?_) | (refine Kp.drewN ?_ _) | (refine Kp.setCell ?_ (by first | omega | (simp only [World.size_alloc]; omega)) _) | (refine Kp.trans ?_ (by assumption))))⟩

set_option maxRecDepth 100000 in
set_option maxHeartbeats 1000000 in
theorem lawNear_line (x y z k tx ty tz cx cy r : Int) (w : World) (hx : I64 x) (hy : I64 y) (hz : I64 z) (htx : I64 tx) (hty : I64 ty) (htz : I64 tz) (hcx : I64 cx) (hcy : I64 cy) (hv : (validM x y z k tx ty tz cx cy r != 0) = false) (k3 : (k != 3) = true) (k4 : (k != 4) = true) :
    Calls Try.prog 7 #[.agg #[.int .i64 x, .int .i64 y, .int .i64 z], .agg #[.int .i64 k, .int .i64 tx, .int .i64 ty, .int .i64 tz, .int .i64 cx, .int .i64 cy, .int .i64 r]] w fun e w' => e = .returned (.bool true) ∧ Kp w w' := by
  go_enter Try.func7, Try.ntmps7
  go_wp2_with fail
  refine (awake_any _).mono ?_
  rintro e w1 ⟨rfl, hk1⟩; obtain ⟨hc1, hf1⟩ := hk1.see; have hz1 := hk1.size; (try simp only [World.size_alloc] at hz1); have hz1_0 : w.heap.size < w1.heap.size := (by omega); have hz1_1 : w.heap.size + 1 < w1.heap.size := (by omega)
  go_wp2_with (go_at_call 15; refine (rvalid_any _ _ _ _ _ _ _ _ _ _ _ hx hy htx hty hcx hcy).mono ?_; rintro e w2 ⟨rfl, hk2⟩; obtain ⟨hc2, hf2⟩ := hk2.see; have hz2 := hk2.size; (try simp only [World.size_alloc] at hz2); have hz2_0 : w.heap.size < w2.heap.size := (by omega); have hz2_1 : w.heap.size + 1 < w2.heap.size := (by omega))
  refine (awake_any _).mono ?_
  rintro e w3 ⟨rfl, hk3⟩; obtain ⟨hc3, hf3⟩ := hk3.see; have hz3 := hk3.size; (try simp only [World.size_alloc] at hz3); have hz3_0 : w.heap.size < w3.heap.size := (by omega); have hz3_1 : w.heap.size + 1 < w3.heap.size := (by omega)
  go_wp2_with fail
  go_ret
  exact ⟨rfl, (by repeat (first | exact Kp.refl _ | assumption | (refine Kp.alloc ?_ _) | (refine Kp.drew ?_) | (refine Kp.drewN ?_ _) | (refine Kp.setCell ?_ (by first | omega | (simp only [World.size_alloc]; omega)) _) | (refine Kp.trans ?_ (by assumption))))⟩

set_option maxRecDepth 100000 in
set_option maxHeartbeats 1000000 in
theorem lawNear_far (x y z k tx ty tz cx cy r : Int) (w : World) (hx : I64 x) (hy : I64 y) (hz : I64 z) (htx : I64 tx) (hty : I64 ty) (htz : I64 tz) (hcx : I64 cx) (hcy : I64 cy) (hk : (k == 3 || k == 4) = true) (hv : (validM x y z k tx ty tz cx cy r != 0) = false) (hR : 20000 < pointD x y cx cy) :
    Calls Try.prog 7 #[.agg #[.int .i64 x, .int .i64 y, .int .i64 z], .agg #[.int .i64 k, .int .i64 tx, .int .i64 ty, .int .i64 tz, .int .i64 cx, .int .i64 cy, .int .i64 r]] w fun e w' => e = .returned (.bool true) ∧ Kp w w' := by
  have hk' : k = 3 ∨ k = 4 := by simpa using hk
  obtain ⟨_, p1, _, _, x1, y1, z1, _, _, z2, c1, c2, _⟩ := valid0 hk' (by simpa using hv)
  have HR := Lib.hid (radius_point p1)
  rcases hk' with rfl | rfl
  all_goals
    go_enter Try.func7, Try.ntmps7
    go_wp2_with fail
    refine (awake_any _).mono ?_
    rintro e w1 ⟨rfl, hk1⟩; obtain ⟨hc1, hf1⟩ := hk1.see; have hz1 := hk1.size; (try simp only [World.size_alloc] at hz1); have hz1_0 : w.heap.size < w1.heap.size := (by omega); have hz1_1 : w.heap.size + 1 < w1.heap.size := (by omega)
    go_wp2_with (first | (go_at_call 15; refine (rvalid_any _ _ _ _ _ _ _ _ _ _ _ hx hy htx hty hcx hcy).mono ?_; rintro e w2 ⟨rfl, hk2⟩; obtain ⟨hc2, hf2⟩ := hk2.see; have hz2 := hk2.size; (try simp only [World.size_alloc] at hz2); have hz2_0 : w.heap.size < w2.heap.size := (by omega); have hz2_1 : w.heap.size + 1 < w2.heap.size := (by omega)) | (go_at_call 21; refine (radius_any _ _ _ _ _ _ _ _ _ _ _ x1 y1 c1 c2).mono ?_; rw [HR.out]; rintro e w3 ⟨rfl, hk3⟩; obtain ⟨hc3, hf3⟩ := hk3.see; have hz3 := hk3.size; (try simp only [World.size_alloc] at hz3); have hz3_0 : w.heap.size < w3.heap.size := (by omega); have hz3_1 : w.heap.size + 1 < w3.heap.size := (by omega)) | fail)
    refine (awake_any _).mono ?_
    rintro e w4 ⟨rfl, hk4⟩; obtain ⟨hc4, hf4⟩ := hk4.see; have hz4 := hk4.size; (try simp only [World.size_alloc] at hz4); have hz4_0 : w.heap.size < w4.heap.size := (by omega); have hz4_1 : w.heap.size + 1 < w4.heap.size := (by omega)
    go_wp2_with fail
    go_ret
    exact ⟨rfl, (by repeat (first | exact Kp.refl _ | assumption | (refine Kp.alloc ?_ _) | (refine Kp.drew ?_) | (refine Kp.drewN ?_ _) | (refine Kp.setCell ?_ (by first | omega | (simp only [World.size_alloc]; omega)) _) | (refine Kp.trans ?_ (by assumption))))⟩

set_option maxRecDepth 100000 in
set_option maxHeartbeats 2000000 in
theorem lawNear_good (x y z k tx ty tz cx cy r : Int) (w : World) (hx : I64 x) (hy : I64 y) (hz : I64 z) (htx : I64 tx) (hty : I64 ty) (htz : I64 tz) (hcx : I64 cx) (hcy : I64 cy) (hk : (k == 3 || k == 4) = true) (hv : (validM x y z k tx ty tz cx cy r != 0) = false) (hR : ¬ 20000 < pointD x y cx cy) :
    Calls Try.prog 7 #[.agg #[.int .i64 x, .int .i64 y, .int .i64 z], .agg #[.int .i64 k, .int .i64 tx, .int .i64 ty, .int .i64 tz, .int .i64 cx, .int .i64 cy, .int .i64 r]] w fun e w' => e = .returned (.bool true) ∧ Kp w w' := by
  have hk' : k = 3 ∨ k = 4 := by simpa using hk
  have hv' : validM x y z k tx ty tz cx cy r = 0 := by simpa using hv
  obtain ⟨_, p1, p2, _, x1, y1, z1, _, _, z2, c1, c2, _⟩ := valid0 hk' hv'
  have HR0 := radius_point p1
  obtain ⟨l, hl⟩ : ∃ l, arcM x y z k tx ty tz cx cy = l := ⟨_, rfl⟩
  obtain ⟨R, hRR⟩ : ∃ R, pointD x y cx cy = R := ⟨_, rfl⟩
  have hok := arcOk hk' hv'
  have hpos := hok.pos
  have hlen := arcM_len x y z k tx ty tz cx cy p2
  have hnear := hok.near
  have hfar := fun j => arc_far hk' hv' j
  rw [hRR] at HR0 p1 p2 hR
  rw [hl] at hpos hlen
  have HF : Hid (∀ j (h : j < l.length), FarOk ((prevXY x y l j).1 - cx) ((prevXY x y l j).2 - cy) ((l[j]'h).1 - cx) ((l[j]'h).2.1 - cy) (max 0 (R - 7))) := by
    subst hl hRR; exact hfar
  have HN : Hid (∀ j (h : j < l.length), (-R ≤ (l[j]'h).1 - cx ∧ (l[j]'h).1 - cx ≤ R) ∧ (-R ≤ (l[j]'h).2.1 - cy ∧ (l[j]'h).2.1 - cy ≤ R)) := by
    subst hl hRR; exact fun j h => ⟨(hnear j h).1, (hnear j h).2.1⟩
  have HL := Lib.hid hl
  have HR := Lib.hid HR0
  have hfrom : (-R ≤ x - cx ∧ x - cx ≤ R) ∧ (-R ≤ y - cy ∧ y - cy ≤ R) := by
    have := HR.out
    unfold dist at this
    repeat' split at this
    all_goals omega
  clear hl hRR hok hnear hfar HR0 hv'
  obtain ⟨S, hS⟩ : ∃ S, max 0 (R - 7) = S := ⟨_, rfl⟩
  rw [hS] at HF
  have hS1 : 0 ≤ S ∧ S ≤ 20000 := by omega
  have hS7 : S = R - 5 - 2 ∧ 7 < R ∨ S = 0 ∧ R ≤ 7 := by omega
  clear hS
  rcases hk' with rfl | rfl <;> rcases hS7 with ⟨rfl, h7⟩ | ⟨rfl, h7⟩
  all_goals
    go_enter Try.func7, Try.ntmps7
    go_wp2_with fail
    refine (awake_any _).mono ?_
    rintro e w1 ⟨rfl, hk1⟩; obtain ⟨hc1, hf1⟩ := hk1.see; have hz1 := hk1.size; (try simp only [World.size_alloc] at hz1); have hz1_0 : w.heap.size < w1.heap.size := (by omega); have hz1_1 : w.heap.size + 1 < w1.heap.size := (by omega)
    go_wp2_with (first | (go_at_call 15; refine (rvalid_any _ _ _ _ _ _ _ _ _ _ _ hx hy htx hty hcx hcy).mono ?_; rintro e w2 ⟨rfl, hk2⟩; obtain ⟨hc2, hf2⟩ := hk2.see; have hz2 := hk2.size; (try simp only [World.size_alloc] at hz2); have hz2_0 : w.heap.size < w2.heap.size := (by omega); have hz2_1 : w.heap.size + 1 < w2.heap.size := (by omega)) | (go_at_call 21; refine (radius_any _ _ _ _ _ _ _ _ _ _ _ x1 y1 c1 c2).mono ?_; rw [HR.out]; rintro e w3 ⟨rfl, hk3⟩; obtain ⟨hc3, hf3⟩ := hk3.see; have hz3 := hk3.size; (try simp only [World.size_alloc] at hz3); have hz3_0 : w.heap.size < w3.heap.size := (by omega); have hz3_1 : w.heap.size + 1 < w3.heap.size := (by omega)) | fail)
    refine (arc_good _ _ _ _ _ _ _ _ _ _ _ hx hy hz htx hty htz hcx hcy hk hv).mono ?_
    rw [HL.out]
    rintro e w4 ⟨v4, rfl, hown4, hk4⟩
    obtain ⟨_, A, ca, rfl, hA⟩ := Rd.of_own hown4
    obtain ⟨b1, o1, rfl, hb4, hcb4⟩ := hA hpos
    have Hcb := Lib.hid hcb4
    obtain ⟨hc4, hf4⟩ := hk4.see
    have hz4 := hk4.size
    have hz4_0 : w.heap.size < w4.heap.size := by omega
    have hz4_1 : w.heap.size + 1 < w4.heap.size := by omega
    clear hown4 hA hcb4
    go_wp2_with fail
    refine (radius_any _ _ _ _ _ _ _ _ _ _ _ x1 y1 c1 c2).mono ?_
    rw [HR.out]
    rintro e w5 ⟨rfl, hk5⟩; obtain ⟨hc5, hf5⟩ := hk5.see; have hz5 := hk5.size; (try simp only [World.size_alloc] at hz5); have hz5_0 : w.heap.size < w5.heap.size := (by omega); have hz5_1 : w.heap.size + 1 < w5.heap.size := (by omega)
    go_wp2_with fail
    have hkw : Kp w w5 := (by repeat (first | exact Kp.refl _ | assumption | (refine Kp.alloc ?_ _) | (refine Kp.drew ?_) | (refine Kp.drewN ?_ _) | (refine Kp.setCell ?_ (by first | omega | (simp only [World.size_alloc]; omega)) _) | (refine Kp.trans ?_ (by assumption))))
    have hk45 := hk5
    have hb1 : b1 < w5.heap.size := Nat.lt_of_lt_of_le hb4 hk45.size
    have hc1' : ∀ j u, (cells3 l)[j]? = some u → w5.cell? ⟨b1, o1 + j, none⟩ = some u := fun j u hu => (hk45.below.cell (p := ⟨b1, o1 + j, none⟩) hb4).trans (Hcb.out j u hu)
    have Hc1 := Lib.hid hc1'
    have d1 : w5.cell? ⟨w.heap.size + 1, 4, none⟩ = some (.int .i64 cx) := by go_simp
    have d2 : w5.cell? ⟨w.heap.size + 1, 5, none⟩ = some (.int .i64 cy) := by go_simp
    have d3 : w5.cell? ⟨w.heap.size, 0, none⟩ = some (.int .i64 x) := by go_simp
    have d4 : w5.cell? ⟨w.heap.size, 1, none⟩ = some (.int .i64 y) := by go_simp
    have d5 : w5.cell? ⟨w.heap.size, 2, none⟩ = some (.int .i64 z) := by go_simp
    clear hc1 hf1 hk1 hz1 hc2 hf2 hk2 hz2 hc3 hf3 hk3 hz3 hc4 hf4 hk4 hz4 hc5 hf5 hk5 hz5 hc1' hk45
    go_loopg [52] l.length (fun g i wr => ∃ j : Nat, g + j = l.length ∧ i = .int .i64 j ∧ Kp w5 wr)
    case atStart => exact ⟨0, by omega, rfl, Kp.refl _⟩
    case round =>
      obtain ⟨j, hj, rfl, hkr⟩ := hrel
      by_cases hlt : j < l.length
      · obtain ⟨q1, q2, q3⟩ := cells3_at hlt
        obtain ⟨n1, n2⟩ := HN.out j hlt
        have hF := HF.out j hlt
        generalize l[j] = p at *
        obtain ⟨pX, pY, pZ⟩ := p
        simp only at q1 q2 q3 n1 n2 hF
        have e1 := (hkr.below.cell (p := ⟨b1, o1 + j * 3, none⟩) hb1).trans (Hc1.out _ _ q1)
        have e2 := (hkr.below.cell (p := ⟨b1, o1 + (j * 3 + 1), none⟩) hb1).trans (Hc1.out _ _ q2)
        have e3 := (hkr.below.cell (p := ⟨b1, o1 + (j * 3 + 2), none⟩) hb1).trans (Hc1.out _ _ q3)
        rw [← Nat.add_assoc] at e2 e3
        have g1 := (hkr.below.cell (p := ⟨w.heap.size + 1, 4, none⟩) hz5_1).trans d1
        have g2 := (hkr.below.cell (p := ⟨w.heap.size + 1, 5, none⟩) hz5_1).trans d2
        have g3 := (hkr.below.cell (p := ⟨w.heap.size, 0, none⟩) hz5_0).trans d3
        have g4 := (hkr.below.cell (p := ⟨w.heap.size, 1, none⟩) hz5_0).trans d4
        have g5 := (hkr.below.cell (p := ⟨w.heap.size, 2, none⟩) hz5_0).trans d5
        have hne : w.heap.size + 1 < wr.heap.size := Nat.lt_of_lt_of_le hz5_1 hkr.size
        have hne0 : w.heap.size < wr.heap.size := by omega
        have hnb : b1 < wr.heap.size := Nat.lt_of_lt_of_le hb1 hkr.size
        by_cases hj0 : j = 0
        · subst hj0
          rw [show prevXY x y l 0 = (x, y) from rfl] at hF
          simp only at hF
          have HFar := Lib.hid hF
          simp only [Nat.zero_mul, Nat.add_zero] at e1 e2 e3
          clear q1 q2 q3 hF
          go_wp2_with (go_at_call 22; refine (far_any _ _ _ _ _ _ (by omega) (by omega) (by omega) (by omega) (by omega) HFar.out).mono ?_; rintro e w6 ⟨rfl, hk6⟩; obtain ⟨hc6, hf6⟩ := hk6.see; have hz6 := hk6.size; (try simp only [World.size_alloc] at hz6))
          go_roundg (gk - 1)
          case measure => omega
          case rel => exact ⟨1, by omega, rfl, (by repeat (first | exact Kp.refl _ | assumption | (refine Kp.alloc ?_ _) | (refine Kp.drew ?_) | (refine Kp.drewN ?_ _) | (refine Kp.setCell ?_ (by first | omega | (simp only [World.size_alloc]; omega)) _) | (refine Kp.trans ?_ (by assumption))))⟩
        · have hj1 : j - 1 < l.length := by omega
          obtain ⟨s1, s2, s3⟩ := cells3_at hj1
          obtain ⟨m1, m2⟩ := HN.out (j - 1) hj1
          have hpv : prevXY x y l j = ((l[j - 1]'hj1).1, (l[j - 1]'hj1).2.1) := by
            unfold prevXY; rw [if_neg hj0]; simp [hj1]
          rw [hpv] at hF
          clear hpv
          generalize l[j - 1]'hj1 = a at *
          obtain ⟨aX, aY, aZ⟩ := a
          simp only at s1 s2 s3 m1 m2 hF
          have t1 := (hkr.below.cell (p := ⟨b1, o1 + (j - 1) * 3, none⟩) hb1).trans (Hc1.out _ _ s1)
          have t2 := (hkr.below.cell (p := ⟨b1, o1 + ((j - 1) * 3 + 1), none⟩) hb1).trans (Hc1.out _ _ s2)
          have t3 := (hkr.below.cell (p := ⟨b1, o1 + ((j - 1) * 3 + 2), none⟩) hb1).trans (Hc1.out _ _ s3)
          rw [← Nat.add_assoc] at t2 t3
          have HFar := Lib.hid hF
          have j0 : (0 : Int) < (j : Int) := by omega
          clear q1 q2 q3 s1 s2 s3 hF
          go_wp2_with (go_at_call 22; refine (far_any _ _ _ _ _ _ (by omega) (by omega) (by omega) (by omega) (by omega) HFar.out).mono ?_; rintro e w6 ⟨rfl, hk6⟩; obtain ⟨hc6, hf6⟩ := hk6.see; have hz6 := hk6.size; (try simp only [World.size_alloc] at hz6))
          go_roundg (gk - 1)
          case measure => omega
          case rel => exact ⟨j + 1, by omega, by go_num, (by repeat (first | exact Kp.refl _ | assumption | (refine Kp.alloc ?_ _) | (refine Kp.drew ?_) | (refine Kp.drewN ?_ _) | (refine Kp.setCell ?_ (by first | omega | (simp only [World.size_alloc]; omega)) _) | (refine Kp.trans ?_ (by assumption))))⟩
      · go_wp2_with fail
        go_ret
        exact ⟨rfl, (by repeat (first | exact Kp.refl _ | assumption | (refine Kp.alloc ?_ _) | (refine Kp.drew ?_) | (refine Kp.drewN ?_ _) | (refine Kp.setCell ?_ (by first | omega | (simp only [World.size_alloc]; omega)) _) | (refine Kp.trans ?_ (by assumption))))⟩

theorem lawNear_any (x y z k tx ty tz cx cy r : Int) (w : World) (hx : I64 x) (hy : I64 y) (hz : I64 z) (htx : I64 tx) (hty : I64 ty) (htz : I64 tz) (hcx : I64 cx) (hcy : I64 cy) :
    Calls Try.prog 7 #[.agg #[.int .i64 x, .int .i64 y, .int .i64 z], .agg #[.int .i64 k, .int .i64 tx, .int .i64 ty, .int .i64 tz, .int .i64 cx, .int .i64 cy, .int .i64 r]] w fun e w' => e = .returned (.bool true) ∧ Kp w w' := by
  cases hv : (validM x y z k tx ty tz cx cy r != 0)
  · cases hk : (k == 3 || k == 4)
    · simp only [Bool.or_eq_false_iff, beq_eq_false_iff_ne] at hk
      exact lawNear_line x y z k tx ty tz cx cy r w hx hy hz htx hty htz hcx hcy hv (by simpa using hk.1) (by simpa using hk.2)
    · by_cases hR : 20000 < pointD x y cx cy
      · exact lawNear_far x y z k tx ty tz cx cy r w hx hy hz htx hty htz hcx hcy hk hv hR
      · exact lawNear_good x y z k tx ty tz cx cy r w hx hy hz htx hty htz hcx hcy hk hv hR
  · exact lawNear_bad x y z k tx ty tz cx cy r w hx hy hz htx hty htz hcx hcy hv

end Go.Proofs.Ytjdjcjhdaedakaa
