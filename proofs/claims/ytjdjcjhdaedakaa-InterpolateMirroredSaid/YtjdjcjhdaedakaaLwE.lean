/-
  The walk of the law InterpolateMirrored.
-/
import Derived.Test.YtjdjcjhdaedakaaMiA
namespace Go.Proofs.Ytjdjcjhdaedakaa
open Go.RowKit
set_option linter.unusedVariables false

set_option maxRecDepth 100000 in
set_option maxHeartbeats 1000000 in
theorem lawMirrored_far (x y z k tx ty tz cx cy r : Int) (w : World) (hx : I64 x) (hy : I64 y) (hz : I64 z) (htx : I64 tx) (hty : I64 ty) (htz : I64 tz) (hcx : I64 cx) (hcy : I64 cy) (hkk : I64 k) (hrr : I64 r) (hfew : fewM x y z [⟨k, tx, ty, tz, cx, cy, r⟩] = false) :
    Calls Try.prog 8 #[.agg #[.int .i64 x, .int .i64 y, .int .i64 z], .agg #[.int .i64 k, .int .i64 tx, .int .i64 ty, .int .i64 tz, .int .i64 cx, .int .i64 cy, .int .i64 r]] w fun e w' => e = .returned (.bool true) ∧ Kp w w' := by
  go_enter Try.func8, Try.ntmps8
  go_wp2_with fail
  refine (awake_any _).mono ?_
  rintro e w1 ⟨rfl, hk1⟩; obtain ⟨hc1, hf1⟩ := hk1.see; have hz1 := hk1.size; (try simp only [World.size_alloc] at hz1); have hz1_0 : w.heap.size < w1.heap.size := (by omega); have hz1_1 : w.heap.size + 1 < w1.heap.size := (by omega)
  go_wp2_with (go_at_call 17; refine (few_one _ _ _ _ _ _ _ _ _ _ _ hx hy hz hkk htx hty htz hcx hcy hrr).mono ?_; rw [hfew]; rintro e w2 ⟨rfl, hk2⟩; obtain ⟨hc2, hf2⟩ := hk2.see; have hz2 := hk2.size; (try simp only [World.size_alloc] at hz2); have hz2_0 : w.heap.size < w2.heap.size := (by omega); have hz2_1 : w.heap.size + 1 < w2.heap.size := (by omega))
  refine (awake_any _).mono ?_
  rintro e w3 ⟨rfl, hk3⟩; obtain ⟨hc3, hf3⟩ := hk3.see; have hz3 := hk3.size; (try simp only [World.size_alloc] at hz3); have hz3_0 : w.heap.size < w3.heap.size := (by omega); have hz3_1 : w.heap.size + 1 < w3.heap.size := (by omega)
  go_wp2_with fail
  go_ret
  exact ⟨rfl, (by repeat (first | exact Kp.refl _ | assumption | (refine Kp.alloc ?_ _) | (refine Kp.drew ?_) | (refine Kp.drewN ?_ _) | (refine Kp.setCell ?_ (by first | omega | (simp only [World.size_alloc]; omega)) _) | (refine Kp.trans ?_ (by assumption))))⟩

set_option maxRecDepth 100000 in
set_option maxHeartbeats 1000000 in
theorem lawMirrored_bad (x y z k tx ty tz cx cy r : Int) (w : World) (hx : I64 x) (hy : I64 y) (hz : I64 z) (htx : I64 tx) (hty : I64 ty) (htz : I64 tz) (hcx : I64 cx) (hcy : I64 cy) (hkk : I64 k) (hrr : I64 r) (hfew : fewM x y z [⟨k, tx, ty, tz, cx, cy, r⟩] = true) (hv : (validM x y z k tx ty tz cx cy r != 0) = true) :
    Calls Try.prog 8 #[.agg #[.int .i64 x, .int .i64 y, .int .i64 z], .agg #[.int .i64 k, .int .i64 tx, .int .i64 ty, .int .i64 tz, .int .i64 cx, .int .i64 cy, .int .i64 r]] w fun e w' => e = .returned (.bool true) ∧ Kp w w' := by
  go_enter Try.func8, Try.ntmps8
  go_wp2_with fail
  refine (awake_any _).mono ?_
  rintro e w1 ⟨rfl, hk1⟩; obtain ⟨hc1, hf1⟩ := hk1.see; have hz1 := hk1.size; (try simp only [World.size_alloc] at hz1); have hz1_0 : w.heap.size < w1.heap.size := (by omega); have hz1_1 : w.heap.size + 1 < w1.heap.size := (by omega)
  go_wp2_with (first | (go_at_call 17; refine (few_one _ _ _ _ _ _ _ _ _ _ _ hx hy hz hkk htx hty htz hcx hcy hrr).mono ?_; rw [hfew]; rintro e w2 ⟨rfl, hk2⟩; obtain ⟨hc2, hf2⟩ := hk2.see; have hz2 := hk2.size; (try simp only [World.size_alloc] at hz2); have hz2_0 : w.heap.size < w2.heap.size := (by omega); have hz2_1 : w.heap.size + 1 < w2.heap.size := (by omega)) | (go_at_call 15; refine (rvalid_any _ _ _ _ _ _ _ _ _ _ _ hx hy htx hty hcx hcy).mono ?_; rintro e w3 ⟨rfl, hk3⟩; obtain ⟨hc3, hf3⟩ := hk3.see; have hz3 := hk3.size; (try simp only [World.size_alloc] at hz3); have hz3_0 : w.heap.size < w3.heap.size := (by omega); have hz3_1 : w.heap.size + 1 < w3.heap.size := (by omega)) | fail)
  refine (awake_any _).mono ?_
  rintro e w4 ⟨rfl, hk4⟩; obtain ⟨hc4, hf4⟩ := hk4.see; have hz4 := hk4.size; (try simp only [World.size_alloc] at hz4); have hz4_0 : w.heap.size < w4.heap.size := (by omega); have hz4_1 : w.heap.size + 1 < w4.heap.size := (by omega)
  go_wp2_with fail
  go_ret
  exact ⟨rfl, (by repeat (first | exact Kp.refl _ | assumption | (refine Kp.alloc ?_ _) | (refine Kp.drew ?_) | (refine Kp.drewN ?_ _) | (refine Kp.setCell ?_ (by first | omega | (simp only [World.size_alloc]; omega)) _) | (refine Kp.trans ?_ (by assumption))))⟩

set_option maxRecDepth 100000 in
set_option maxHeartbeats 2000000 in
theorem lawMirrored_good (x y z k tx ty tz cx cy r : Int) (w : World) (hx : I64 x) (hy : I64 y) (hz : I64 z) (htx : I64 tx) (hty : I64 ty) (htz : I64 tz) (hcx : I64 cx) (hcy : I64 cy) (hkk : I64 k) (hrr : I64 r) (hfew : fewM x y z [⟨k, tx, ty, tz, cx, cy, r⟩] = true) (hv : (validM x y z k tx ty tz cx cy r != 0) = false) :
    Calls Try.prog 8 #[.agg #[.int .i64 x, .int .i64 y, .int .i64 z], .agg #[.int .i64 k, .int .i64 tx, .int .i64 ty, .int .i64 tz, .int .i64 cx, .int .i64 cy, .int .i64 r]] w fun e w' => e = .returned (.bool true) ∧ Kp w w' := by
  go_enter Try.func8, Try.ntmps8
  go_wp2_with fail
  refine (awake_any _).mono ?_
  rintro e w1 ⟨rfl, hk1⟩; obtain ⟨hc1, hf1⟩ := hk1.see; have hz1 := hk1.size; (try simp only [World.size_alloc] at hz1); have hz1_0 : w.heap.size < w1.heap.size := (by omega); have hz1_1 : w.heap.size + 1 < w1.heap.size := (by omega)
  go_wp2_with (first | (go_at_call 17; refine (few_one _ _ _ _ _ _ _ _ _ _ _ hx hy hz hkk htx hty htz hcx hcy hrr).mono ?_; rw [hfew]; rintro e w2 ⟨rfl, hk2⟩; obtain ⟨hc2, hf2⟩ := hk2.see; have hz2 := hk2.size; (try simp only [World.size_alloc] at hz2); have hz2_0 : w.heap.size < w2.heap.size := (by omega); have hz2_1 : w.heap.size + 1 < w2.heap.size := (by omega)) | (go_at_call 15; refine (rvalid_any _ _ _ _ _ _ _ _ _ _ _ hx hy htx hty hcx hcy).mono ?_; rintro e w3 ⟨rfl, hk3⟩; obtain ⟨hc3, hf3⟩ := hk3.see; have hz3 := hk3.size; (try simp only [World.size_alloc] at hz3); have hz3_0 : w.heap.size < w3.heap.size := (by omega); have hz3_1 : w.heap.size + 1 < w3.heap.size := (by omega)) | fail)
  obtain ⟨d0, d1, d2, d3, d4, d5, d6, d7, d8, d9⟩ : w3.cell? ⟨w.heap.size, 0, none⟩ = some (.int .i64 x) ∧ w3.cell? ⟨w.heap.size, 1, none⟩ = some (.int .i64 y) ∧ w3.cell? ⟨w.heap.size, 2, none⟩ = some (.int .i64 z) ∧ w3.cell? ⟨w.heap.size + 1, 0, none⟩ = some (.int .i64 k) ∧ w3.cell? ⟨w.heap.size + 1, 1, none⟩ = some (.int .i64 tx) ∧ w3.cell? ⟨w.heap.size + 1, 2, none⟩ = some (.int .i64 ty) ∧ w3.cell? ⟨w.heap.size + 1, 3, none⟩ = some (.int .i64 tz) ∧ w3.cell? ⟨w.heap.size + 1, 4, none⟩ = some (.int .i64 cx) ∧ w3.cell? ⟨w.heap.size + 1, 5, none⟩ = some (.int .i64 cy) ∧ w3.cell? ⟨w.heap.size + 1, 6, none⟩ = some (.int .i64 r) := by refine ⟨?_, ?_, ?_, ?_, ?_, ?_, ?_, ?_, ?_, ?_⟩ <;> go_simp
  have hkw : Kp w w3 := (by repeat (first | exact Kp.refl _ | assumption | (refine Kp.alloc ?_ _) | (refine Kp.drew ?_) | (refine Kp.drewN ?_ _) | (refine Kp.setCell ?_ (by first | omega | (simp only [World.size_alloc]; omega)) _) | (refine Kp.trans ?_ (by assumption))))
  clear hc1 hf1 hk1 hz1 hc2 hf2 hk2 hz2 hc3 hf3 hk3 hz3
  go_cut [5, 6] (fun s5 s6 wx => ∃ g h : Nat, s5 = .pointer (some ⟨g, 0, none⟩) ∧ s6 = .pointer (some ⟨h, 0, none⟩) ∧ Bk3 wx g x y z ∧ Bk7 wx h k tx ty tz cx cy r ∧ g ≠ h ∧ w3.heap.size ≤ g ∧ w3.heap.size ≤ h ∧ Kp w3 wx)
  case first =>
    go_region
    all_goals
      go_wp2_with fail
      go_meet
    · exact ⟨w3.heap.size, w3.heap.size + 1, rfl, rfl, ((Bk3.new w3 x y z).kp (((Kp.refl _).alloc _).drew)), (by have h := Bk7.new (w3.alloc (.cells #[.int .i64 x, .int .i64 y, .int .i64 z] 23)) k tx ty tz cx cy r; rw [World.size_alloc] at h; exact h), by omega, by omega, by omega, (by repeat (first | exact Kp.refl _ | assumption | (refine Kp.alloc ?_ _) | (refine Kp.drew ?_) | (refine Kp.drewN ?_ _) | (refine Kp.setCell ?_ (by first | omega | (simp only [World.size_alloc]; omega)) _) | (refine Kp.trans ?_ (by assumption))))⟩
    · exact ⟨w3.heap.size + 1, w3.heap.size, rfl, rfl, (by have h := Bk3.new (w3.alloc (.cells #[.int .i64 k, .int .i64 tx, .int .i64 ty, .int .i64 tz, .int .i64 cx, .int .i64 cy, .int .i64 r] 27)) x y z; rw [World.size_alloc] at h; exact h), ((Bk7.new w3 k tx ty tz cx cy r).kp (((Kp.refl _).alloc _).drew)), by omega, by omega, by omega, (by repeat (first | exact Kp.refl _ | assumption | (refine Kp.alloc ?_ _) | (refine Kp.drew ?_) | (refine Kp.drewN ?_ _) | (refine Kp.setCell ?_ (by first | omega | (simp only [World.size_alloc]; omega)) _) | (refine Kp.trans ?_ (by assumption))))⟩
  case rest =>
    obtain ⟨g, h, rfl, rfl, hbg, hbh, hgh, hg3, hh3, hkc⟩ := hcut
    obtain ⟨a0, a1, a2⟩ := hbg.cells
    obtain ⟨b0, b1, b2, b3, b4, b5, b6⟩ := hbh.cells
    have fa := hbg.free 1
    have fb := hbh.free 2
    have fc := hbh.free 5
    have e1 := (hkc.below.cell (p := ⟨w.heap.size, 1, none⟩) hz3_0).trans d1
    have e2 := (hkc.below.cell (p := ⟨w.heap.size + 1, 2, none⟩) hz3_1).trans d5
    have e3 := (hkc.below.cell (p := ⟨w.heap.size + 1, 5, none⟩) hz3_1).trans d8
    go_wp2_with fail
    have n1 : ¬ g = w.heap.size := by omega
    have n2 : ¬ g = w.heap.size + 1 := by omega
    have n3 : ¬ h = w.heap.size := by omega
    have n4 : ¬ h = w.heap.size + 1 := by omega
    go_cut [32] (fun _ wx => ∃ yn tyn cyn : Int, yn = wrap64 (-y) ∧ tyn = wrap64 (-ty) ∧ cyn = wrap64 (-cy) ∧ Bk3 wx g x yn z ∧ Bk7 wx h k tx tyn tz cx cyn r ∧ Kp w3 wx)
    case first =>
      go_region
      go_wp2_with fail
      go_meet
      exact ⟨_, _, _, rfl, rfl, rfl, ((hbg.set1 _).far hgh _).far hgh _, ((hbh.far (p := ⟨g, 1, none⟩) (Ne.symm hgh) _).set2 _).set5 _, (((hkc.setCell hg3 _).setCell hh3 _).setCell hh3 _).drew⟩
    case rest =>
      obtain ⟨wd, rfl⟩ : ∃ wd : World, wd = wc := ⟨_, rfl⟩
      obtain ⟨yn, tyn, cyn, hyn, htyn, hcyn, hbg', hbh', hkc'⟩ := hcut
      clear a0 a1 a2 b0 b1 b2 b3 b4 b5 b6 fa fb fc e1 e2 e3 hbg hbh hkc
      obtain ⟨a0, a1, a2⟩ := hbg'.cells
      obtain ⟨b0, b1, b2, b3, b4, b5, b6⟩ := hbh'.cells
      have fa := hbh'.free 0
      have c0 := (hkc'.below.cell (p := ⟨w.heap.size, 0, none⟩) hz3_0).trans d0
      have c1 := (hkc'.below.cell (p := ⟨w.heap.size, 1, none⟩) hz3_0).trans d1
      have c2 := (hkc'.below.cell (p := ⟨w.heap.size, 2, none⟩) hz3_0).trans d2
      have c3 := (hkc'.below.cell (p := ⟨w.heap.size + 1, 0, none⟩) hz3_1).trans d3
      have c4 := (hkc'.below.cell (p := ⟨w.heap.size + 1, 1, none⟩) hz3_1).trans d4
      have c5 := (hkc'.below.cell (p := ⟨w.heap.size + 1, 2, none⟩) hz3_1).trans d5
      have c6 := (hkc'.below.cell (p := ⟨w.heap.size + 1, 3, none⟩) hz3_1).trans d6
      have c7 := (hkc'.below.cell (p := ⟨w.heap.size + 1, 4, none⟩) hz3_1).trans d7
      have c8 := (hkc'.below.cell (p := ⟨w.heap.size + 1, 5, none⟩) hz3_1).trans d8
      have c9 := (hkc'.below.cell (p := ⟨w.heap.size + 1, 6, none⟩) hz3_1).trans d9
      have Hyn := Lib.hid hyn
      have Htyn := Lib.hid htyn
      have Hcyn := Lib.hid hcyn
      clear hyn htyn hcyn d0 d1 d2 d3 d4 d5 d6 d7 d8 d9
      by_cases hk3 : k = 3
      · subst hk3
        have hk : ((3 : Int) == 3 || (3 : Int) == 4) = true := by decide
        have hkk2 : ((4 : Int) == 3 || (4 : Int) == 4) = true := by decide
        have hv0 : validM x y z 3 tx ty tz cx cy r = 0 := by simpa using hv
        obtain ⟨_, p1, p2, _, x1, y1, z1, x2, y2, z2, q1, q2, _⟩ := valid0 (by omega) hv0
        have hyy : yn = -y := by rw [Hyn.out]; exact IntWalk.wrap64_in _ ⟨by omega, by omega⟩
        have htt : tyn = -ty := by rw [Htyn.out]; exact IntWalk.wrap64_in _ ⟨by omega, by omega⟩
        have hcc : cyn = -cy := by rw [Hcyn.out]; exact IntWalk.wrap64_in _ ⟨by omega, by omega⟩
        subst hyy htt hcc
        have hv2 := valid_mirror (k' := 4) (by omega) (by omega) hv0
        have hmir := arcM_mirror (k' := 4) (by omega) hv0
        have hlen := arcM_len x y z 3 tx ty tz cx cy p2
        have hnear := (arcOk (by omega) hv0).near
        obtain ⟨l, hl⟩ : ∃ l, arcM x y z 3 tx ty tz cx cy = l := ⟨_, rfl⟩
        rw [hl] at hmir hlen
        have HN : Hid (∀ j (h : j < l.length), -100000000 ≤ (l[j]'h).2.1 ∧ (l[j]'h).2.1 ≤ 100000000) := by
          subst hl; intro j hj; have := (hnear j hj).2.1; omega
        have HL := Lib.hid hl
        have HM := Lib.hid hmir
        have hv2' : (validM x (-y) z 4 tx (-ty) tz cx (-cy) r != 0) = false := neqz hv2
        clear hl hmir hnear hv0 hv2
        have hB7 := hbh'.set0 4
        have hB3 := hbg'.far (p := ⟨h, 0, none⟩) hgh (.int .i64 4)
        have hK0 := hkc'.setCell (p := ⟨h, 0, none⟩) hh3 (.int .i64 4)
        go_wp2_with fail
        refine (arc_good _ _ _ _ _ _ _ _ _ _ _ hx hy hz htx hty htz hcx hcy hk hv).mono ?_
        rw [HL.out]
        rintro e w4 ⟨v4, rfl, hown4, hk4⟩
        obtain ⟨_, A, ca, rfl, hA4⟩ := Rd.of_own hown4
        obtain ⟨a0, a1, a2⟩ := (hB3.kp hk4).cells
        obtain ⟨b0, b1, b2, b3, b4, b5, b6⟩ := (hB7.kp hk4).cells
        clear hown4
        go_wp2_with fail
        refine (arc_good _ _ _ _ _ _ _ _ _ _ _ hx (by unfold I64; omega) hz htx (by unfold I64; omega) htz hcx (by unfold I64; omega) hkk2 hv2').mono ?_
        rw [HM.out]
        rintro e w5 ⟨v5, rfl, hown5, hk5⟩
        obtain ⟨_, B, cb, rfl, hA5⟩ := Rd.of_own hown5
        have hlm : (l.map fun p => (p.1, -p.2.1, p.2.2)).length = l.length := List.length_map _
        have HA4 := Lib.hid hA4
        have HA5 := Lib.hid hA5
        clear hown5 hA4 hA5
        rw [hlm]
        have hkw5 : Kp w w5 := (by repeat (first | exact Kp.refl _ | assumption | (refine Kp.alloc ?_ _) | (refine Kp.drew ?_) | (refine Kp.drewN ?_ _) | (refine Kp.setCell ?_ (by first | omega | (simp only [World.size_alloc]; omega)) _) | (refine Kp.trans ?_ (by assumption))))
        go_wp2_with fail
        go_loopg [81] l.length (fun g i wr => ∃ j : Nat, g + j = l.length ∧ i = .int .i64 j ∧ ∃ n, wr = w5.drewN n)
        case atStart => exact ⟨0, by omega, rfl, 0, rfl⟩
        case round =>
          obtain ⟨j, hj, rfl, n, rfl⟩ := hrel
          by_cases hlt : j < l.length
          · obtain ⟨b1, o1, rfl, hb4, hcb4⟩ := HA4.out (by omega)
            obtain ⟨b2, o2, rfl, hb5, hcb5⟩ := HA5.out (by omega)
            have hlt2 : j < (l.map fun p => (p.1, -p.2.1, p.2.2)).length := by omega
            obtain ⟨s1, s2, s3⟩ := cells3_at hlt
            obtain ⟨t1, t2, t3⟩ := cells3_at hlt2
            simp only [List.getElem_map] at t1 t2 t3
            have hb := HN.out j hlt
            generalize l[j] = p at *
            obtain ⟨pX, pY, pZ⟩ := p
            simp only at s1 s2 s3 t1 t2 t3 hb
            have m1 := (hk5.below.cell (p := ⟨b1, o1 + j * 3, none⟩) hb4).trans (hcb4 _ _ s1)
            have m2 := (hk5.below.cell (p := ⟨b1, o1 + (j * 3 + 1), none⟩) hb4).trans (hcb4 _ _ s2)
            have m3 := (hk5.below.cell (p := ⟨b1, o1 + (j * 3 + 2), none⟩) hb4).trans (hcb4 _ _ s3)
            have r1 := hcb5 _ _ t1
            have r2 := hcb5 _ _ t2
            have r3 := hcb5 _ _ t3
            rw [← Nat.add_assoc] at m2 m3 r2 r3
            have i1 : IntKind.i64.wrap pY = pY := IntWalk.i64_in _ (by omega)
            have f1 : (pX != pX) = false := by simp
            have f2 : (pY != pY) = false := by simp
            have f3 : (pZ != pZ) = false := by simp
            clear s1 s2 s3 t1 t2 t3 hcb4 hcb5
            go_wp2_with fail
            go_quiet (fail)
            go_wp2_with fail
            go_roundg (gk - 1)
            case measure => omega
            case rel => exact ⟨j + 1, by omega, by go_num, _, rfl⟩
          · go_wp2_with fail
            go_ret
            exact ⟨rfl, (by repeat (first | exact Kp.refl _ | assumption | (refine Kp.alloc ?_ _) | (refine Kp.drew ?_) | (refine Kp.drewN ?_ _) | (refine Kp.setCell ?_ (by first | omega | (simp only [World.size_alloc]; omega)) _) | (refine Kp.trans ?_ (by assumption))))⟩
      · by_cases hk4 : k = 4
        · subst hk4
          have hk : ((4 : Int) == 3 || (4 : Int) == 4) = true := by decide
          have hkk2 : ((3 : Int) == 3 || (3 : Int) == 4) = true := by decide
          have hv0 : validM x y z 4 tx ty tz cx cy r = 0 := by simpa using hv
          obtain ⟨_, p1, p2, _, x1, y1, z1, x2, y2, z2, q1, q2, _⟩ := valid0 (by omega) hv0
          have hyy : yn = -y := by rw [Hyn.out]; exact IntWalk.wrap64_in _ ⟨by omega, by omega⟩
          have htt : tyn = -ty := by rw [Htyn.out]; exact IntWalk.wrap64_in _ ⟨by omega, by omega⟩
          have hcc : cyn = -cy := by rw [Hcyn.out]; exact IntWalk.wrap64_in _ ⟨by omega, by omega⟩
          subst hyy htt hcc
          have hv2 := valid_mirror (k' := 3) (by omega) (by omega) hv0
          have hmir := arcM_mirror (k' := 3) (by omega) hv0
          have hlen := arcM_len x y z 4 tx ty tz cx cy p2
          have hnear := (arcOk (by omega) hv0).near
          obtain ⟨l, hl⟩ : ∃ l, arcM x y z 4 tx ty tz cx cy = l := ⟨_, rfl⟩
          rw [hl] at hmir hlen
          have HN : Hid (∀ j (h : j < l.length), -100000000 ≤ (l[j]'h).2.1 ∧ (l[j]'h).2.1 ≤ 100000000) := by
            subst hl; intro j hj; have := (hnear j hj).2.1; omega
          have HL := Lib.hid hl
          have HM := Lib.hid hmir
          have hv2' : (validM x (-y) z 3 tx (-ty) tz cx (-cy) r != 0) = false := neqz hv2
          clear hl hmir hnear hv0 hv2
          have hB7 := hbh'.set0 3
          have hB3 := hbg'.far (p := ⟨h, 0, none⟩) hgh (.int .i64 3)
          have hK0 := hkc'.setCell (p := ⟨h, 0, none⟩) hh3 (.int .i64 3)
          go_wp2_with fail
          refine (arc_good _ _ _ _ _ _ _ _ _ _ _ hx hy hz htx hty htz hcx hcy hk hv).mono ?_
          rw [HL.out]
          rintro e w4 ⟨v4, rfl, hown4, hkq⟩
          obtain ⟨_, A, ca, rfl, hA4⟩ := Rd.of_own hown4
          obtain ⟨a0, a1, a2⟩ := (hB3.kp hkq).cells
          obtain ⟨b0, b1, b2, b3, b4, b5, b6⟩ := (hB7.kp hkq).cells
          clear hown4
          go_wp2_with fail
          refine (arc_good _ _ _ _ _ _ _ _ _ _ _ hx (by unfold I64; omega) hz htx (by unfold I64; omega) htz hcx (by unfold I64; omega) hkk2 hv2').mono ?_
          rw [HM.out]
          rintro e w5 ⟨v5, rfl, hown5, hk5⟩
          obtain ⟨_, B, cb, rfl, hA5⟩ := Rd.of_own hown5
          have hlm : (l.map fun p => (p.1, -p.2.1, p.2.2)).length = l.length := List.length_map _
          have HA4 := Lib.hid hA4
          have HA5 := Lib.hid hA5
          clear hown5 hA4 hA5
          rw [hlm]
          have hkw5 : Kp w w5 := (by repeat (first | exact Kp.refl _ | assumption | (refine Kp.alloc ?_ _) | (refine Kp.drew ?_) | (refine Kp.drewN ?_ _) | (refine Kp.setCell ?_ (by first | omega | (simp only [World.size_alloc]; omega)) _) | (refine Kp.trans ?_ (by assumption))))
          go_wp2_with fail
          go_loopg [81] l.length (fun g i wr => ∃ j : Nat, g + j = l.length ∧ i = .int .i64 j ∧ ∃ n, wr = w5.drewN n)
          case atStart => exact ⟨0, by omega, rfl, 0, rfl⟩
          case round =>
            obtain ⟨j, hj, rfl, n, rfl⟩ := hrel
            by_cases hlt : j < l.length
            · obtain ⟨b1, o1, rfl, hb4, hcb4⟩ := HA4.out (by omega)
              obtain ⟨b2, o2, rfl, hb5, hcb5⟩ := HA5.out (by omega)
              have hlt2 : j < (l.map fun p => (p.1, -p.2.1, p.2.2)).length := by omega
              obtain ⟨s1, s2, s3⟩ := cells3_at hlt
              obtain ⟨t1, t2, t3⟩ := cells3_at hlt2
              simp only [List.getElem_map] at t1 t2 t3
              have hb := HN.out j hlt
              generalize l[j] = p at *
              obtain ⟨pX, pY, pZ⟩ := p
              simp only at s1 s2 s3 t1 t2 t3 hb
              have m1 := (hk5.below.cell (p := ⟨b1, o1 + j * 3, none⟩) hb4).trans (hcb4 _ _ s1)
              have m2 := (hk5.below.cell (p := ⟨b1, o1 + (j * 3 + 1), none⟩) hb4).trans (hcb4 _ _ s2)
              have m3 := (hk5.below.cell (p := ⟨b1, o1 + (j * 3 + 2), none⟩) hb4).trans (hcb4 _ _ s3)
              have r1 := hcb5 _ _ t1
              have r2 := hcb5 _ _ t2
              have r3 := hcb5 _ _ t3
              rw [← Nat.add_assoc] at m2 m3 r2 r3
              have i1 : IntKind.i64.wrap pY = pY := IntWalk.i64_in _ (by omega)
              have f1 : (pX != pX) = false := by simp
              have f2 : (pY != pY) = false := by simp
              have f3 : (pZ != pZ) = false := by simp
              clear s1 s2 s3 t1 t2 t3 hcb4 hcb5
              go_wp2_with fail
              go_quiet (fail)
              go_wp2_with fail
              go_roundg (gk - 1)
              case measure => omega
              case rel => exact ⟨j + 1, by omega, by go_num, _, rfl⟩
            · go_wp2_with fail
              go_ret
              exact ⟨rfl, (by repeat (first | exact Kp.refl _ | assumption | (refine Kp.alloc ?_ _) | (refine Kp.drew ?_) | (refine Kp.drewN ?_ _) | (refine Kp.setCell ?_ (by first | omega | (simp only [World.size_alloc]; omega)) _) | (refine Kp.trans ?_ (by assumption))))⟩
        · have k3 : (k == 3) = false := by simpa using hk3
          have k4 : (k == 4) = false := by simpa using hk4
          go_wp2_with fail
          go_ret
          exact ⟨rfl, (by repeat (first | exact Kp.refl _ | assumption | (refine Kp.alloc ?_ _) | (refine Kp.drew ?_) | (refine Kp.drewN ?_ _) | (refine Kp.setCell ?_ (by first | omega | (simp only [World.size_alloc]; omega)) _) | (refine Kp.trans ?_ (by assumption))))⟩

theorem lawMirrored_any (x y z k tx ty tz cx cy r : Int) (w : World) (hx : I64 x) (hy : I64 y) (hz : I64 z) (htx : I64 tx) (hty : I64 ty) (htz : I64 tz) (hcx : I64 cx) (hcy : I64 cy) (hkk : I64 k) (hrr : I64 r) :
    Calls Try.prog 8 #[.agg #[.int .i64 x, .int .i64 y, .int .i64 z], .agg #[.int .i64 k, .int .i64 tx, .int .i64 ty, .int .i64 tz, .int .i64 cx, .int .i64 cy, .int .i64 r]] w fun e w' => e = .returned (.bool true) ∧ Kp w w' := by
  cases hfew : fewM x y z [⟨k, tx, ty, tz, cx, cy, r⟩]
  · exact lawMirrored_far x y z k tx ty tz cx cy r w hx hy hz htx hty htz hcx hcy hkk hrr hfew
  · cases hv : (validM x y z k tx ty tz cx cy r != 0)
    · exact lawMirrored_good x y z k tx ty tz cx cy r w hx hy hz htx hty htz hcx hcy hkk hrr hfew hv
    · exact lawMirrored_bad x y z k tx ty tz cx cy r w hx hy hz htx hty htz hcx hcy hkk hrr hfew hv

end Go.Proofs.Ytjdjcjhdaedakaa
