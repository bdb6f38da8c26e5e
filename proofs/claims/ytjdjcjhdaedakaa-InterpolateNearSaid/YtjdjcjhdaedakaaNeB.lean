/-
  The contract of the law's function far, and that all chords of an arc meet it.
-/
import Derived.Test.YtjdjcjhdaedakaaNeA
namespace Go.Proofs.Ytjdjcjhdaedakaa
open Go.RowKit

theorem abs_mul {x y A B : Int} (hx : -A ≤ x ∧ x ≤ A) (hy : -B ≤ y ∧ y ≤ B) (hA : 0 ≤ A) : -(A * B) ≤ x * y ∧ x * y ≤ A * B := by
  rcases Int.le_total 0 y with h | h
  · exact mul_bd hx ⟨h, hy.2⟩ hA
  · have := mul_bd (b := -y) hx ⟨by omega, show -y ≤ B by omega⟩ hA
    rw [Int.mul_neg] at this
    omega

set_option maxRecDepth 100000 in
set_option maxHeartbeats 1000000 in
theorem far_any (a b c d s : Int) (w : World) (ha : -20000 ≤ a ∧ a ≤ 20000) (hb : -20000 ≤ b ∧ b ≤ 20000) (hc : -20000 ≤ c ∧ c ≤ 20000) (hd : -20000 ≤ d ∧ d ≤ 20000) (hs : 0 ≤ s ∧ s ≤ 20000) (hf : FarOk a b c d s) :
    Calls Try.prog 22 #[.int .i64 a, .int .i64 b, .int .i64 c, .int .i64 d, .int .i64 s] w fun e w' => e = .returned (.bool true) ∧ Kp w w' := by
  obtain ⟨f1, f2, f3⟩ := hf
  obtain ⟨u, hu⟩ : ∃ u, c - a = u := ⟨_, rfl⟩
  obtain ⟨v, hv⟩ : ∃ v, d - b = v := ⟨_, rfl⟩
  rw [hu, hv] at f1 f2 f3
  have bu : -40000 ≤ u ∧ u ≤ 40000 := by omega
  have bv : -40000 ≤ v ∧ v ≤ 40000 := by omega
  have z1 := abs_mul ha bu (by omega)
  have z2 := abs_mul hb bv (by omega)
  have z3 := abs_mul bu bu (by omega)
  have z4 := abs_mul bv bv (by omega)
  have z5 := abs_mul ha ha (by omega)
  have z6 := abs_mul hb hb (by omega)
  have z7 := abs_mul hc hc (by omega)
  have z8 := abs_mul hd hd (by omega)
  have z9 := abs_mul (x := s) (y := s) (A := 20000) (B := 20000) (by omega) (by omega) (by omega)
  have z10 := abs_mul ha bv (by omega)
  have z11 := abs_mul hb bu (by omega)
  have z12 := abs_mul (x := a * v - b * u) (y := a * v - b * u) (A := 1600000000) (B := 1600000000) (by omega) (by omega) (by omega)
  have z13 := abs_mul (x := s * s) (y := u * u + v * v) (A := 400000000) (B := 3200000000) (by omega) (by omega) (by omega)
  have y3 := sq_nonneg u
  have y4 := sq_nonneg v
  have F1 := Lib.hid f1
  have F2 := Lib.hid f2
  have F3 := Lib.hid f3
  clear f1 f2 f3
  go_enter Try.func22, Try.ntmps22
  go_wp2_with fail
  go_loopg [24] 4 (fun g i wr => ∃ j : Nat, g + j = 4 ∧ i = .int .i64 j ∧ wr = w.alloc (.cells #[.int .i64 a, .int .i64 b, .int .i64 c, .int .i64 d] 2))
  case atStart => exact ⟨0, by omega, rfl, rfl⟩
  case round =>
    obtain ⟨j, hj, rfl, rfl⟩ := hrel
    by_cases hlt : j < 4
    · have hx : ∃ x : Int, (w.alloc (.cells #[.int .i64 a, .int .i64 b, .int .i64 c, .int .i64 d] 2)).cell? ⟨w.heap.size, j, none⟩ = some (.int .i64 x) ∧ -20000 ≤ x ∧ x ≤ 20000 := by
        have : j = 0 ∨ j = 1 ∨ j = 2 ∨ j = 3 := by omega
        rcases this with rfl | rfl | rfl | rfl
        · exact ⟨a, by go_simp, ha⟩
        · exact ⟨b, by go_simp, hb⟩
        · exact ⟨c, by go_simp, hc⟩
        · exact ⟨d, by go_simp, hd⟩
      obtain ⟨x, hcx, hx1, hx2⟩ := hx
      go_wp2_with fail
      go_roundg (gk - 1)
      case measure => omega
      case rel => exact ⟨j + 1, by omega, by go_num, rfl⟩
    · by_cases t0 : -(a * u + b * v) ≤ 0
      · have G := F1.out t0
        go_wp2_with fail
        go_ret
        exact ⟨ret_bool (by simp), (by repeat (first | exact Kp.refl _ | assumption | (refine Kp.alloc ?_ _) | (refine Kp.drew ?_) | (refine Kp.drewN ?_ _) | (refine Kp.setCell ?_ (by first | omega | (simp only [World.size_alloc]; omega)) _) | (refine Kp.trans ?_ (by assumption))))⟩
      · by_cases t1 : u * u + v * v ≤ -(a * u + b * v)
        · have G := F2.out t1
          go_wp2_with fail
          go_ret
          exact ⟨ret_bool (by simp), (by repeat (first | exact Kp.refl _ | assumption | (refine Kp.alloc ?_ _) | (refine Kp.drew ?_) | (refine Kp.drewN ?_ _) | (refine Kp.setCell ?_ (by first | omega | (simp only [World.size_alloc]; omega)) _) | (refine Kp.trans ?_ (by assumption))))⟩
        · have G := F3.out (by omega) (by omega)
          go_wp2_with fail
          go_ret
          exact ⟨ret_bool (by simp), (by repeat (first | exact Kp.refl _ | assumption | (refine Kp.alloc ?_ _) | (refine Kp.drew ?_) | (refine Kp.drewN ?_ _) | (refine Kp.setCell ?_ (by first | omega | (simp only [World.size_alloc]; omega)) _) | (refine Kp.trans ?_ (by assumption))))⟩

theorem rot_dot (n : Nat) (x y p q : Int) : (rot n x y).1 * (rot n p q).1 + (rot n x y).2 * (rot n p q).2 = x * p + y * q := by
  induction n with
  | zero => rfl
  | succ n ih => simp only [rot, Int.neg_mul_neg]; omega
theorem arcXY_dot (k : Int) (f i : Nat) (x y p q : Int) : (arcXY k f i x y).1 * (arcXY k f i p q).1 + (arcXY k f i x y).2 * (arcXY k f i p q).2 = x * p + y * q := by
  unfold arcXY
  split
  · rw [rot_dot, Int.neg_mul_neg]
  · rw [rot_dot]
theorem far_zero (a b c d : Int) : FarOk a b c d 0 := by
  refine ⟨fun _ => ?_, fun _ => ?_, fun _ _ => ?_⟩
  · have := sq_nonneg a; have := sq_nonneg b; omega
  · have := sq_nonneg c; have := sq_nonneg d; omega
  · have := sq_nonneg (a * (d - b) - b * (c - a)); simpa using this

theorem chord_first {R n : Int} (h1 : 1 ≤ n) : chordX R n 0 = R ∧ chordY R n 0 = 0 := by
  have hn : 0 < n * n := Int.mul_pos (by omega) (by omega)
  constructor
  · unfold chordX; simp only [Int.mul_zero, Int.sub_zero, Int.add_zero]; exact Int.mul_ediv_cancel _ (by omega)
  · unfold chordY; simp

theorem arcXY_next (k R : Int) (f q : Nat) (hq : q + 1 ≤ 4) : arcXY k f q 0 R = arcXY k f (q + 1) R 0 := by
  unfold arcXY
  split
  · have h1 : rot (f + 4 - q) 0 (-R) = rot (3 + (f + 4 - q)) R 0 := by rw [← rot_rot (f + 4 - q) 3, rot_three]
    rw [h1, Int.neg_zero, ← rot_mod, ← rot_mod (f + 4 - (q + 1)), show (3 + (f + 4 - q)) % 4 = (f + 4 - (q + 1)) % 4 from by omega]
  · have h1 : rot (f + q) 0 R = rot (1 + (f + q)) R 0 := by rw [← rot_rot (f + q) 1, rot_one]
    rw [h1, show 1 + (f + q) = f + (q + 1) from by omega]

def prevXY (x y : Int) (l : List (Int × Int × Int)) (j : Nat) : Int × Int := if j = 0 then (x, y) else ((l.getD (j - 1) (0, 0, 0)).1, (l.getD (j - 1) (0, 0, 0)).2.1)

theorem arc_far {x y z k tx ty tz cx cy r : Int} (hk : k = 3 ∨ k = 4) (hv : validM x y z k tx ty tz cx cy r = 0) (j : Nat) (h : j < (arcM x y z k tx ty tz cx cy).length) :
    FarOk ((prevXY x y (arcM x y z k tx ty tz cx cy) j).1 - cx) ((prevXY x y (arcM x y z k tx ty tz cx cy) j).2 - cy) (((arcM x y z k tx ty tz cx cy)[j]'h).1 - cx) (((arcM x y z k tx ty tz cx cy)[j]'h).2.1 - cy) (max 0 (pointD x y cx cy - 7)) := by
  obtain ⟨_, p1, p2, p3, _⟩ := valid0 hk hv
  have q1 := pointQ_bd x y cx cy
  have q2 := quartersM_bd x y k tx ty cx cy
  have hch := chordsM_is p1
  have n1 := hch.1
  have n3 := hch.2.1
  have e0 := pos_of_point p1
  obtain ⟨n, hn⟩ := Int.eq_ofNat_of_zero_le (show 0 ≤ chordsM (pointD x y cx cy) by omega)
  obtain ⟨qn, hqn⟩ := Int.eq_ofNat_of_zero_le (show 0 ≤ quartersM x y k tx ty cx cy by omega)
  obtain ⟨f, hf⟩ := Int.eq_ofNat_of_zero_le q1.1
  have hlen : (arcM x y z k tx ty tz cx cy).length = n * qn := by
    unfold arcM; rw [hn, hqn]; simp
  have hget : ∀ j (h : j < (arcM x y z k tx ty tz cx cy).length), (arcM x y z k tx ty tz cx cy)[j]'h = arcPt k z tz cx cy (pointD x y cx cy) f n (n * qn) j := by
    intro j h
    unfold arcM
    simp only [List.getElem_map, List.getElem_range, hn, hqn, hf, Int.toNat_natCast]
  rw [hn] at n1 n3
  rw [hqn] at q2
  rw [hf, Int.toNat_natCast] at e0
  have hn0 : 0 < n := by omega
  have hjq : j / n < qn := Nat.div_lt_of_lt_mul (by omega)
  have hjm : j % n < n := Nat.mod_lt _ hn0
  have hjd : n * (j / n) + j % n = j := Nat.div_add_mod j n
  have hprev : ((prevXY x y (arcM x y z k tx ty tz cx cy) j).1 - cx, (prevXY x y (arcM x y z k tx ty tz cx cy) j).2 - cy) = arcXY k f (j / n) (chordX (pointD x y cx cy) n ((j % n : Nat) : Int)) (chordY (pointD x y cx cy) n ((j % n : Nat) : Int)) := by
    unfold prevXY
    by_cases hj0 : j = 0
    · subst hj0
      rw [if_pos rfl, Nat.zero_div, Nat.zero_mod]
      rw [show ((0 : Nat) : Int) = 0 from rfl, (chord_first (R := pointD x y cx cy) n1).1, (chord_first (R := pointD x y cx cy) n1).2, ← e0]
      unfold arcXY
      split
      · rw [Int.neg_zero]; exact (rot4 f _ _).symm
      · rfl
    · rw [if_neg hj0]
      have hj1 : j - 1 < (arcM x y z k tx ty tz cx cy).length := by omega
      have hgd : (arcM x y z k tx ty tz cx cy).getD (j - 1) (0, 0, 0) = arcPt k z tz cx cy (pointD x y cx cy) f n (n * qn) (j - 1) := by
        rw [← hget _ hj1]; simp [hj1]
      rw [hgd]
      unfold arcPt
      by_cases hm : j % n = 0
      · have hq0 : 0 < j / n := by
          rcases Nat.eq_zero_or_pos (j / n) with h0 | h0
          · rw [h0, hm] at hjd; omega
          · exact h0
        obtain ⟨q, hq⟩ : ∃ q, j / n = q + 1 := ⟨j / n - 1, by omega⟩
        have hjj : j - 1 = n * q + (n - 1) := by
          rw [hq, Nat.mul_add, hm] at hjd; omega
        have d1 : (j - 1) / n = q := by rw [hjj, Nat.mul_add_div hn0, Nat.div_eq_of_lt (by omega)]; omega
        have d2 : (j - 1) % n = n - 1 := by rw [hjj, Nat.mul_add_mod, Nat.mod_eq_of_lt (by omega)]
        rw [d1, d2, hq, hm, show ((n - 1 + 1 : Nat) : Int) = (n : Int) from by omega, (chord_last (R := pointD x y cx cy) n1).1, (chord_last (R := pointD x y cx cy) n1).2, show ((0 : Nat) : Int) = 0 from rfl, (chord_first (R := pointD x y cx cy) n1).1, (chord_first (R := pointD x y cx cy) n1).2, ← arcXY_next _ _ _ _ (by omega)]
        refine Prod.ext ?_ ?_ <;> (simp only; omega)
      · have hjj : j - 1 = n * (j / n) + (j % n - 1) := by omega
        have d1 : (j - 1) / n = j / n := by
          rw [hjj, Nat.mul_add_div hn0, Nat.div_eq_of_lt (show j % n - 1 < n by omega)]; omega
        have d2 : (j - 1) % n = j % n - 1 := by rw [hjj, Nat.mul_add_mod, Nat.mod_eq_of_lt (show j % n - 1 < n by omega)]
        rw [d1, d2, show j % n - 1 + 1 = j % n from by omega]
        refine Prod.ext ?_ ?_ <;> (simp only; omega)
  rw [Prod.ext_iff] at hprev
  simp only at hprev
  rw [hprev.1, hprev.2, hget j h]
  unfold arcPt
  simp only [show ∀ a b : Int, a + b - a = b from fun a b => by omega]
  rcases Int.lt_or_le (pointD x y cx cy) 7 with h7 | h7
  · rw [show max 0 (pointD x y cx cy - 7) = 0 from by omega]
    exact far_zero _ _ _ _
  · rw [show max 0 (pointD x y cx cy - 7) = pointD x y cx cy - 7 from by omega]
    obtain ⟨p, q, T, hE, hT⟩ := chord_far (R := pointD x y cx cy) (n := n) (k := ((j % n : Nat) : Int)) n3 (by omega) (by omega)
    obtain ⟨t1, t2, t3, t4⟩ := hT h7
    have es := arcXY_sq k f (j / n) p q
    refine far_of (p := (arcXY k f (j / n) p q).1) (q := (arcXY k f (j / n) p q).2) (T := T) (by omega) t1 (by rw [es]; exact t2) ?_ ?_
    · rw [arcXY_dot]; exact t3
    · rw [arcXY_dot, show ((j % n + 1 : Nat) : Int) = ((j % n : Nat) : Int) + 1 from by omega]; exact t4

end Go.Proofs.Ytjdjcjhdaedakaa
