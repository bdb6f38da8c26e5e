/-
  swarfref33.Valid on arcs, and as a whole.
-/
import Derived.Test.YtjdjcjhdaedakaaRfB
namespace Go.Proofs.Ytjdjcjhdaedakaa
open Go.RowKit

theorem va1 {x y z k tx ty tz cx cy r : Int} (hk : k = 3 ∨ k = 4) (hr : 0 < r) (h : endsM x y tx ty cx cy = false) : (1 : Int) = validM x y z k tx ty tz cx cy r := by
  unfold validM
  rw [right_arc hk hr, if_pos h]
theorem badM_false {n : Int} (h : badM n = false) : -10000000 ≤ n ∧ n ≤ 10000000 := by
  have := badM_iff n
  rw [h] at this
  simp at this
  omega
theorem va2 {x y z k tx ty tz cx cy r : Int} (hk : k = 3 ∨ k = 4) (hr : 0 < r) (h : endsM x y tx ty cx cy = true) (hb : anyBad x y z tx ty tz = true ∨ badM cx = true ∨ badM cy = true) : (11 : Int) = validM x y z k tx ty tz cx cy r := by
  unfold validM
  rw [right_arc hk hr, if_neg (by simp [h]), if_pos hk]
  split
  · rfl
  · rename_i h1
    rcases hb with hb | hb
    · rw [if_pos]
      simp only [anyBad, Bool.or_eq_true] at hb
      simp only [List.any_cons, Bool.or_eq_true]
      rcases hb with ((((hb | hb) | hb) | hb) | hb) | hb <;> simp [hb]
    · exact absurd (.inr hb) h1
theorem va3 {x y z k tx ty tz cx cy r : Int} (hk : k = 3 ∨ k = 4) (hr : 0 < r) (h : endsM x y tx ty cx cy = true) (h1 : anyBad x y z tx ty tz = false) (h2 : badM cx = false) (h3 : badM cy = false) :
    validM x y z k tx ty tz cx cy r = if (badM (cx + pointD x y cx cy) || badM (cx - pointD x y cx cy) || badM (cy + pointD x y cx cy) || badM (cy - pointD x y cx cy)) = true then 11 else 0 := by
  conv => lhs; unfold validM
  rw [right_arc hk hr, if_neg (by simp [h]), if_pos hk]
  simp only [anyBad, Bool.or_eq_false_iff] at h1
  obtain ⟨⟨⟨⟨⟨a1, a2⟩, a3⟩, a4⟩, a5⟩, a6⟩ := h1
  simp only [h2, h3, a1, a2, a3, a4, a5, a6, List.any_cons, List.any_nil, Bool.false_or, Bool.or_false, Bool.false_eq_true, or_false]
  have b2 := badM_false h2
  have b3 := badM_false h3
  split
  · rw [if_pos]
    simp only [Bool.or_eq_true, badM_iff]
    omega
  · simp only [Bool.or_assoc]

theorem allGood {x y z tx ty tz cx cy : Int} (h : anyBad x y z tx ty tz = false) (hcx : -10000000 ≤ cx ∧ cx ≤ 10000000) (hcy : -10000000 ≤ cy ∧ cy ≤ 10000000) :
    ((((((-10000000 ≤ x ∧ x ≤ 10000000) ∧ (-10000000 ≤ y ∧ y ≤ 10000000)) ∧ (-10000000 ≤ z ∧ z ≤ 10000000)) ∧ (-10000000 ≤ tx ∧ tx ≤ 10000000)) ∧ (-10000000 ≤ ty ∧ ty ≤ 10000000)) ∧ (-10000000 ≤ tz ∧ tz ≤ 10000000)) ∧ pointD x y cx cy ≤ 20000000 := by
  simp only [anyBad, Bool.or_eq_false_iff] at h
  obtain ⟨⟨⟨⟨⟨a1, a2⟩, a3⟩, a4⟩, a5⟩, a6⟩ := h
  have b1 := badM_false a1
  have b2 := badM_false a2
  refine ⟨⟨⟨⟨⟨⟨b1, b2⟩, badM_false a3⟩, badM_false a4⟩, badM_false a5⟩, badM_false a6⟩, ?_⟩
  unfold pointD dist
  repeat' split
  all_goals omega

theorem ends_no {x y tx ty cx cy : Int} (h : endsM x y tx ty cx cy = false) : quadQ (x - cx) (y - cy) < 0 ∨ (0 ≤ quadQ (x - cx) (y - cy) ∧ quadQ (tx - cx) (ty - cy) < 0) ∨ (0 ≤ quadQ (x - cx) (y - cy) ∧ 0 ≤ quadQ (tx - cx) (ty - cy) ∧ (pointD x y cx cy != pointD tx ty cx cy) = true) := by
  have a := quad_neg x y cx cy
  have b := quad_neg tx ty cx cy
  have c := pointD_nonneg x y cx cy
  have d := pointD_nonneg tx ty cx cy
  simp only [endsM, Bool.and_eq_false_iff, decide_eq_false_iff_not, beq_eq_false_iff_ne] at h
  rw [bne_iff_ne]
  omega
theorem ends_yes {x y tx ty cx cy : Int} (h : endsM x y tx ty cx cy = true) : 0 ≤ quadQ (x - cx) (y - cy) ∧ 0 ≤ quadQ (tx - cx) (ty - cy) ∧ (pointD x y cx cy != pointD tx ty cx cy) = false := by
  have a := quad_neg x y cx cy
  have b := quad_neg tx ty cx cy
  simp only [endsM, Bool.and_eq_true, decide_eq_true_eq, beq_iff_eq] at h
  refine ⟨by omega, by omega, ?_⟩
  simp [h.2]

set_option maxRecDepth 100000 in
set_option maxHeartbeats 2000000 in
theorem rvalid_arc (x y z k tx ty tz cx cy r : Int) (w : World) (hx : I64 x) (hy : I64 y) (htx : I64 tx) (hty : I64 ty) (hcx : I64 cx) (hcy : I64 cy) (hk : k = 3 ∨ k = 4) (hr : 0 < r) :
    Calls Try.prog 15 #[.agg #[.int .i64 x, .int .i64 y, .int .i64 z], .agg #[.int .i64 k, .int .i64 tx, .int .i64 ty, .int .i64 tz, .int .i64 cx, .int .i64 cy, .int .i64 r]] w fun e w' => e = .returned (.int .i64 (validM x y z k tx ty tz cx cy r)) ∧ Kp w w' := by
  have k1' : (k == 1) = false := by simp; omega
  have k2' : (k == 2) = false := by simp; omega
  have k3' : (k == 3 || k == 4) = true := by simpa using hk
  have Hk := Lib.hid hk
  clear hk
  go_enter Try.func15, Try.ntmps15
  go_upto_region 4 with (go_at_call 31; refine (rarc_any _ _ _ _ _ _ _ _).mono ?_; rw [k3']; rintro e w1 ⟨rfl, hk1⟩; obtain ⟨hc1, hf1⟩ := hk1.see; have hz1 := hk1.size; (try simp only [World.size_alloc] at hz1); have hz1_0 : w.heap.size < w1.heap.size := (by omega); have hz1_1 : w.heap.size + 1 < w1.heap.size := (by omega))
  go_cut [6] (fun s6 wx => s6 = .bool (anyBad x y z tx ty tz) ∧ wx = w1)
  case first =>
    go_wp2_with (go_at_call 35; refine (rfar_any _ _).mono ?_; rintro e w' ⟨rfl, rfl⟩)
    all_goals
      go_meet
      refine ⟨?_, rfl⟩
      simp [anyBad, *]
  case rest =>
    cases he : endsM x y tx ty cx cy <;> cases hb : anyBad x y z tx ty tz
    · rw [hb] at hcut
      obtain ⟨rfl, rfl⟩ := hcut
      cases hbx : badM cx <;> cases hby : badM cy
      · obtain ⟨⟨⟨⟨⟨⟨a1, a2⟩, a3⟩, a4⟩, a5⟩, a6⟩, hpb⟩ := allGood hb (badM_false hbx) (badM_false hby)
        have b1 := badM_false hbx
        have b2 := badM_false hby
        have hp := pointD_nonneg x y cx cy
        have He := Lib.hid he
        clear he hb
        rcases ends_no He.out with hq | ⟨hq0, hq⟩ | ⟨hq0, hq1, hq⟩
        all_goals
          go_wp2_with (first | (go_at_call 32; refine (quadrant_any _ _ _ (by omega) (by omega) (by omega) (by omega)).mono ?_; rw [quad_point]; rintro e w' ⟨rfl, rfl⟩) | (go_at_call 35; refine (rfar_any _ _).mono ?_; first | (rw [hbx]; rintro e w' ⟨rfl, rfl⟩) | (rw [hby]; rintro e w' ⟨rfl, rfl⟩)))
          go_ret
          exact ⟨ret_int (va1 Hk.out hr He.out), (by repeat (first | exact Kp.refl _ | assumption | (refine Kp.alloc ?_ _) | (refine Kp.drew ?_) | (refine Kp.drewN ?_ _) | (refine Kp.setCell ?_ (by first | omega | (simp only [World.size_alloc]; omega)) _) | (refine Kp.trans ?_ (by assumption))))⟩
      all_goals
        go_wp2_with (first | (go_at_call 35; refine (rfar_any _ _).mono ?_; first | (rw [hbx]; rintro e w' ⟨rfl, rfl⟩) | (rw [hby]; rintro e w' ⟨rfl, rfl⟩)) | (go_at_call 36; refine (rright_any _ _ _ _ _ _ _ _ _ _ _ hx hy htx hty hcx hcy).mono ?_; rw [he]; rintro e w2 ⟨rfl, hk2⟩; obtain ⟨hc2, hf2⟩ := hk2.see; have hz2 := hk2.size; (try simp only [World.size_alloc] at hz2)))
        go_ret
        exact ⟨ret_int (va1 Hk.out hr he), (by repeat (first | exact Kp.refl _ | assumption | (refine Kp.alloc ?_ _) | (refine Kp.drew ?_) | (refine Kp.drewN ?_ _) | (refine Kp.setCell ?_ (by first | omega | (simp only [World.size_alloc]; omega)) _) | (refine Kp.trans ?_ (by assumption))))⟩
    · rw [hb] at hcut
      obtain ⟨rfl, rfl⟩ := hcut
      go_wp2_with (go_at_call 36; refine (rright_any _ _ _ _ _ _ _ _ _ _ _ hx hy htx hty hcx hcy).mono ?_; rw [he]; rintro e w2 ⟨rfl, hk2⟩; obtain ⟨hc2, hf2⟩ := hk2.see; have hz2 := hk2.size; (try simp only [World.size_alloc] at hz2))
      go_ret
      exact ⟨ret_int (va1 Hk.out hr he), (by repeat (first | exact Kp.refl _ | assumption | (refine Kp.alloc ?_ _) | (refine Kp.drew ?_) | (refine Kp.drewN ?_ _) | (refine Kp.setCell ?_ (by first | omega | (simp only [World.size_alloc]; omega)) _) | (refine Kp.trans ?_ (by assumption))))⟩
    · rw [hb] at hcut
      obtain ⟨rfl, rfl⟩ := hcut
      cases hbx : badM cx <;> cases hby : badM cy
      · obtain ⟨⟨⟨⟨⟨⟨a1, a2⟩, a3⟩, a4⟩, a5⟩, a6⟩, hpb⟩ := allGood hb (badM_false hbx) (badM_false hby)
        have b1 := badM_false hbx
        have b2 := badM_false hby
        have hp := pointD_nonneg x y cx cy
        obtain ⟨hq0, hq1, hq⟩ := ends_yes he
        have Hv := Lib.hid (va3 (z := z) (tz := tz) Hk.out hr he hb hbx hby)
        clear he hb
        go_upto_region 17 with (first | (go_at_call 32; refine (quadrant_any _ _ _ (by omega) (by omega) (by omega) (by omega)).mono ?_; rw [quad_point]; rintro e w' ⟨rfl, rfl⟩) | (go_at_call 35; refine (rfar_any _ _).mono ?_; first | (rw [hbx]; rintro e w' ⟨rfl, rfl⟩) | (rw [hby]; rintro e w' ⟨rfl, rfl⟩)))
        cases g1 : badM (cx + pointD x y cx cy)
        · cases g2 : badM (cx - pointD x y cx cy)
          · cases g3 : badM (cy + pointD x y cx cy)
            · cases g4 : badM (cy - pointD x y cx cy)
              all_goals
                go_wp2_with (go_at_call 35; refine (rfar_any _ _).mono ?_; rintro e w' ⟨rfl, rfl⟩)
                go_ret
                exact ⟨ret_int (by rw [Hv.out, g1, g2, g3, g4]; rfl), (by repeat (first | exact Kp.refl _ | assumption | (refine Kp.alloc ?_ _) | (refine Kp.drew ?_) | (refine Kp.drewN ?_ _) | (refine Kp.setCell ?_ (by first | omega | (simp only [World.size_alloc]; omega)) _) | (refine Kp.trans ?_ (by assumption))))⟩
            · go_wp2_with (go_at_call 35; refine (rfar_any _ _).mono ?_; rintro e w' ⟨rfl, rfl⟩)
              go_ret
              exact ⟨ret_int (by rw [Hv.out, g1, g2, g3]; rfl), (by repeat (first | exact Kp.refl _ | assumption | (refine Kp.alloc ?_ _) | (refine Kp.drew ?_) | (refine Kp.drewN ?_ _) | (refine Kp.setCell ?_ (by first | omega | (simp only [World.size_alloc]; omega)) _) | (refine Kp.trans ?_ (by assumption))))⟩
          · go_wp2_with (go_at_call 35; refine (rfar_any _ _).mono ?_; rintro e w' ⟨rfl, rfl⟩)
            go_ret
            exact ⟨ret_int (by rw [Hv.out, g1, g2]; rfl), (by repeat (first | exact Kp.refl _ | assumption | (refine Kp.alloc ?_ _) | (refine Kp.drew ?_) | (refine Kp.drewN ?_ _) | (refine Kp.setCell ?_ (by first | omega | (simp only [World.size_alloc]; omega)) _) | (refine Kp.trans ?_ (by assumption))))⟩
        · go_wp2_with (go_at_call 35; refine (rfar_any _ _).mono ?_; rintro e w' ⟨rfl, rfl⟩)
          go_ret
          exact ⟨ret_int (by rw [Hv.out, g1]; rfl), (by repeat (first | exact Kp.refl _ | assumption | (refine Kp.alloc ?_ _) | (refine Kp.drew ?_) | (refine Kp.drewN ?_ _) | (refine Kp.setCell ?_ (by first | omega | (simp only [World.size_alloc]; omega)) _) | (refine Kp.trans ?_ (by assumption))))⟩
      all_goals
        go_wp2_with (first | (go_at_call 35; refine (rfar_any _ _).mono ?_; first | (rw [hbx]; rintro e w' ⟨rfl, rfl⟩) | (rw [hby]; rintro e w' ⟨rfl, rfl⟩)) | (go_at_call 36; refine (rright_any _ _ _ _ _ _ _ _ _ _ _ hx hy htx hty hcx hcy).mono ?_; rw [he]; rintro e w2 ⟨rfl, hk2⟩; obtain ⟨hc2, hf2⟩ := hk2.see; have hz2 := hk2.size; (try simp only [World.size_alloc] at hz2)))
        go_ret
        exact ⟨ret_int (va2 Hk.out hr he (by simp [hbx, hby])), (by repeat (first | exact Kp.refl _ | assumption | (refine Kp.alloc ?_ _) | (refine Kp.drew ?_) | (refine Kp.drewN ?_ _) | (refine Kp.setCell ?_ (by first | omega | (simp only [World.size_alloc]; omega)) _) | (refine Kp.trans ?_ (by assumption))))⟩
    · rw [hb] at hcut
      obtain ⟨rfl, rfl⟩ := hcut
      go_wp2_with (go_at_call 36; refine (rright_any _ _ _ _ _ _ _ _ _ _ _ hx hy htx hty hcx hcy).mono ?_; rw [he]; rintro e w2 ⟨rfl, hk2⟩; obtain ⟨hc2, hf2⟩ := hk2.see; have hz2 := hk2.size; (try simp only [World.size_alloc] at hz2))
      go_ret
      exact ⟨ret_int (va2 Hk.out hr he (.inl hb)), (by repeat (first | exact Kp.refl _ | assumption | (refine Kp.alloc ?_ _) | (refine Kp.drew ?_) | (refine Kp.drewN ?_ _) | (refine Kp.setCell ?_ (by first | omega | (simp only [World.size_alloc]; omega)) _) | (refine Kp.trans ?_ (by assumption))))⟩

theorem rvalid_any (x y z k tx ty tz cx cy r : Int) (w : World) (hx : I64 x) (hy : I64 y) (htx : I64 tx) (hty : I64 ty) (hcx : I64 cx) (hcy : I64 cy) :
    Calls Try.prog 15 #[.agg #[.int .i64 x, .int .i64 y, .int .i64 z], .agg #[.int .i64 k, .int .i64 tx, .int .i64 ty, .int .i64 tz, .int .i64 cx, .int .i64 cy, .int .i64 r]] w fun e w' => e = .returned (.int .i64 (validM x y z k tx ty tz cx cy r)) ∧ Kp w w' := by
  by_cases h1 : k = 1 ∧ r = 0
  · obtain ⟨rfl, rfl⟩ := h1
    exact rvalid_line1 x y z tx ty tz cx cy w
  · by_cases h2 : k = 2 ∧ 0 < r
    · obtain ⟨rfl, hr⟩ := h2
      exact rvalid_line2 x y z tx ty tz cx cy r w hr
    · by_cases h3 : (k = 3 ∨ k = 4) ∧ 0 < r
      · exact rvalid_arc x y z k tx ty tz cx cy r w hx hy htx hty hcx hcy h3.1 h3.2
      · exact rvalid_none x y z k tx ty tz cx cy r w h1 h2 h3

end Go.Proofs.Ytjdjcjhdaedakaa
