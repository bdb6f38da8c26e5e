/-
  Radius and Few of the reference (on one move), and the examples of the document.
-/
import Derived.Test.YtjdjcjhdaedakaaSmA
namespace Go.Proofs.Ytjdjcjhdaedakaa
open Go.RowKit

set_option maxHeartbeats 1000000 in
theorem radius_any (x y z k tx ty tz cx cy r : Int) (w : World) (hx : -10000000 ≤ x ∧ x ≤ 10000000) (hy : -10000000 ≤ y ∧ y ≤ 10000000) (hcx : -10000000 ≤ cx ∧ cx ≤ 10000000) (hcy : -10000000 ≤ cy ∧ cy ≤ 10000000) :
    Calls Try.prog 21 #[.agg #[.int .i64 x, .int .i64 y, .int .i64 z], .agg #[.int .i64 k, .int .i64 tx, .int .i64 ty, .int .i64 tz, .int .i64 cx, .int .i64 cy, .int .i64 r]] w fun e w' => e = .returned (.int .i64 (dist x cx + dist y cy)) ∧ Kp w w' := by
  have g1 : IntKind.i64.wrap (x - cx) = x - cx := IntWalk.i64_in _ (by omega)
  have g2 : IntKind.i64.wrap (y - cy) = y - cy := IntWalk.i64_in _ (by omega)
  have e1 : dist (x - cx) 0 = dist x cx := by unfold dist; split <;> split <;> omega
  have e2 : dist (y - cy) 0 = dist y cy := by unfold dist; split <;> split <;> omega
  have b1 : 0 ≤ dist x cx ∧ dist x cx ≤ 20000000 := by unfold dist; split <;> omega
  have b2 : 0 ≤ dist y cy ∧ dist y cy ≤ 20000000 := by unfold dist; split <;> omega
  have g3 : IntKind.i64.wrap (dist x cx + dist y cy) = dist x cx + dist y cy := IntWalk.i64_in _ (by omega)
  go_enter Try.func21, Try.ntmps21
  go_wp2_with fail
  go_quiet ((go_at_call 42; exact quiet_left (rsize_any _ _ (by omega) (by omega))))
  go_wp2_with fail
  go_ret
  exact ⟨rfl, (by repeat (first | exact Kp.refl _ | assumption | (refine Kp.alloc ?_ _) | (refine Kp.drew ?_) | (refine Kp.drewN ?_ _) | (refine Kp.setCell ?_ (by first | omega | (simp only [World.size_alloc]; omega)) _) | (refine Kp.trans ?_ (by assumption))))⟩

theorem arcM_ex1 : arcM 1000 0 0 4 0 1000 0 0 0 = [(980, 198, 0), (923, 384, 0), (834, 550, 0), (724, 689, 0), (600, 800, 0), (470, 882, 0), (342, 939, 0), (219, 975, 0), (104, 994, 0), (0, 1000, 0)] := by
  have e1 : pointD 1000 0 0 0 = 1000 := by decide
  have e2 : chordsM 1000 = 10 := chordsM_eq (by unfold IsCh; decide)
  have e3 : quartersM 1000 0 4 0 1000 0 0 = 1 := by decide
  unfold arcM
  rw [e1, e2, e3]
  decide
theorem arcM_ex2 : arcM 5 0 0 3 (-5) 0 (-10) 0 0 = [(0, -5, -5), (-5, 0, -10)] := by
  have e1 : pointD 5 0 0 0 = 5 := by decide
  have e2 : chordsM 5 = 1 := chordsM_eq (by unfold IsCh; decide)
  have e3 : quartersM 5 0 3 (-5) 0 0 0 = 2 := by decide
  unfold arcM
  rw [e1, e2, e3]
  decide

set_option maxRecDepth 100000 in
set_option maxHeartbeats 1000000 in
theorem awake_any (w : World) : Calls Try.prog 11 #[] w fun e w' => e = .returned (.bool true) ∧ Kp w w' := by
  have c1 : chordsM 10 = 1 := chordsM_eq (by unfold IsCh; decide)
  have c2 : chordsM 11 = 2 := chordsM_eq (by unfold IsCh; decide)
  have c3 : chordsM 40 = 2 := chordsM_eq (by unfold IsCh; decide)
  go_enter Try.func11, Try.ntmps11
  go_wp2_with fail
  refine (arc_good _ _ _ _ _ _ _ _ _ _ _ (by unfold I64; decide) (by unfold I64; decide) (by unfold I64; decide) (by unfold I64; decide) (by unfold I64; decide) (by unfold I64; decide) (by unfold I64; decide) (by unfold I64; decide) (by decide) (by decide)).mono ?_
  rw [arcM_ex1]
  rintro e w1 ⟨v, rfl, hown1, hk1⟩
  have hr1 := Rd.of_own hown1
  obtain ⟨A, ca, rfl⟩ := own_slice hown1
  go_wp2_with fail
  refine (arc_good _ _ _ _ _ _ _ _ _ _ _ (by unfold I64; decide) (by unfold I64; decide) (by unfold I64; decide) (by unfold I64; decide) (by unfold I64; decide) (by unfold I64; decide) (by unfold I64; decide) (by unfold I64; decide) (by decide) (by decide)).mono ?_
  rw [arcM_ex2]
  rintro e w2 ⟨v2, rfl, hown2, hk2⟩
  have hr2 := Rd.of_own hown2
  obtain ⟨B, cb, rfl⟩ := own_slice hown2
  obtain ⟨_, A', ca', hv, hA⟩ := hr1.kp hk2
  obtain ⟨b1, o1, rfl, hb1, hc1⟩ := hA (by decide)
  injection hv with hA' _ hca
  subst hA'
  have x1 := hc1 0 _ rfl
  have x2 := hc1 1 _ rfl
  have x3 := hc1 2 _ rfl
  clear hc1 hA hr1 hown1 hown2
  simp only [Nat.add_zero] at x1
  go_wp2_with (first | (go_at_call 16; refine (chords_any _ _ (by omega)).mono ?_; simp only [c1, c2, c3]; rintro e w' ⟨rfl, rfl⟩) | fail)
  refine (same_any _ _ [(0, -5, -5), (-5, 0, -10)] [(0, -5, -5), (-5, 0, -10)] _ (hr2.kp ((Kp.refl w2).alloc _)) (Rd.of_own (World.ownsRow_lit (base := 0) (e := 23) (size := 3) w2 #[.int .i64 0, .int .i64 (-5), .int .i64 (-5), .int .i64 (-5), .int .i64 0, .int .i64 (-10)] 2 (by omega) (by unfold maxLen; omega) rfl)) (by decide) (by decide)).mono ?_
  rw [show sameM [(0, -5, -5), (-5, 0, -10)] [(0, -5, -5), (-5, 0, -10)] = true from by decide]
  rintro e w3 ⟨rfl, hk3⟩
  go_wp2_with fail
  go_ret
  exact ⟨rfl, hk1.trans (hk2.trans (((Kp.refl w2).alloc _).trans hk3))⟩

end Go.Proofs.Ytjdjcjhdaedakaa
