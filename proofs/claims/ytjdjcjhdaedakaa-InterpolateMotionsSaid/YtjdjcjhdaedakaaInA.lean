/-
  Plain facts on the positions of an arc: they lie within the radius, and the last one is the end.
-/
import Derived.Test.YtjdjcjhdaedakaaLwB
namespace Go.Proofs.Ytjdjcjhdaedakaa
open Go.RowKit

theorem rot_sq (n : Nat) (x y : Int) : (rot n x y).1 * (rot n x y).1 + (rot n x y).2 * (rot n x y).2 = x * x + y * y := by
  induction n with
  | zero => rfl
  | succ n ih => simp only [rot, Int.neg_mul_neg]; omega
theorem rot_rot (m n : Nat) (x y : Int) : rot m (rot n x y).1 (rot n x y).2 = rot (n + m) x y := by
  induction m with
  | zero => rfl
  | succ m ih => rw [show n + (m + 1) = (n + m) + 1 from by omega]; simp only [rot]; rw [ih]
theorem le_of_sq_mul {a b D : Int} (hD : 0 < D) (h : a * (D * D) ≤ b * (D * D)) : a ≤ b := by
  have hDD : 0 < D * D := Int.mul_pos hD hD
  rcases Int.lt_or_le b a with h1 | h1
  · have := Int.mul_lt_mul_of_pos_right h1 hDD; omega
  · exact h1
theorem chord_in {R n K : Int} (h1 : 0 < R) (h2 : R ≤ 10000000) (h3 : n ≤ 1000) (h4 : 1 ≤ K) (h5 : K ≤ n) : chordX R n K * chordX R n K + chordY R n K * chordY R n K ≤ R * R := by
  obtain ⟨_, _, _, _, _, _, _, _, _, _, _, hx, hy⟩ := chord_facts h1 h2 h3 h4 h5
  have a2 : 1 * 1 ≤ K * K := sq_mono (by omega) h4
  have a3 : K * K ≤ n * n := sq_mono (by omega) h5
  obtain ⟨D, hD⟩ : ∃ D, n * n + K * K = D := ⟨_, rfl⟩
  have hD0 : 0 < D := by omega
  have ex : chordX R n K * D ≤ R * (n * n - K * K) := by unfold chordX; rw [hD]; exact Int.ediv_mul_le _ (by omega)
  have ey : chordY R n K * D ≤ 2 * R * K * n := by unfold chordY; rw [hD]; exact Int.ediv_mul_le _ (by omega)
  generalize chordX R n K = X at *
  generalize chordY R n K = Y at *
  have X0 : 0 ≤ X * D := Int.mul_nonneg hx.1 (by omega)
  have Y0 : 0 ≤ Y * D := Int.mul_nonneg hy.1 (by omega)
  have sx := sq_mono X0 ex
  have sy := sq_mono Y0 ey
  refine le_of_sq_mul hD0 ?_
  have e1 : (X * X + Y * Y) * (D * D) = X * D * (X * D) + Y * D * (Y * D) := by
    grind
  have e2 : R * R * (D * D) = R * (n * n - K * K) * (R * (n * n - K * K)) + 2 * R * K * n * (2 * R * K * n) := by
    subst hD
    grind
  omega
theorem pos_of_point {x y cx cy : Int} (h : 0 < pointD x y cx cy) : rot (pointQ x y cx cy).toNat (pointD x y cx cy) 0 = (x - cx, y - cy) := by
  unfold pointD dist at *
  unfold pointQ
  repeat' split at h
  all_goals repeat' split
  all_goals first | omega | (simp [rot]; omega)
theorem radius_point {x y cx cy : Int} (h : 0 < pointD x y cx cy) : dist x cx + dist y cy = pointD x y cx cy := by
  unfold pointD dist at *
  repeat' split at h
  all_goals repeat' split
  all_goals omega

theorem arcXY_sq (k : Int) (f q : Nat) (x y : Int) : (arcXY k f q x y).1 * (arcXY k f q x y).1 + (arcXY k f q x y).2 * (arcXY k f q x y).2 = x * x + y * y := by
  unfold arcXY
  split
  · rw [rot_sq, Int.neg_mul_neg]
  · rw [rot_sq]

structure ArcOk (x y z k tx ty tz cx cy : Int) : Prop where
  pos : 0 < (arcM x y z k tx ty tz cx cy).length
  near : ∀ j (h : j < (arcM x y z k tx ty tz cx cy).length), (-(pointD x y cx cy) ≤ ((arcM x y z k tx ty tz cx cy)[j]'h).1 - cx ∧ ((arcM x y z k tx ty tz cx cy)[j]'h).1 - cx ≤ pointD x y cx cy) ∧ (-(pointD x y cx cy) ≤ ((arcM x y z k tx ty tz cx cy)[j]'h).2.1 - cy ∧ ((arcM x y z k tx ty tz cx cy)[j]'h).2.1 - cy ≤ pointD x y cx cy) ∧
    (((arcM x y z k tx ty tz cx cy)[j]'h).1 - cx) * (((arcM x y z k tx ty tz cx cy)[j]'h).1 - cx) + (((arcM x y z k tx ty tz cx cy)[j]'h).2.1 - cy) * (((arcM x y z k tx ty tz cx cy)[j]'h).2.1 - cy) ≤ pointD x y cx cy * pointD x y cx cy
  last : ∀ (h : (arcM x y z k tx ty tz cx cy).length - 1 < (arcM x y z k tx ty tz cx cy).length), (arcM x y z k tx ty tz cx cy)[(arcM x y z k tx ty tz cx cy).length - 1]'h = (tx, ty, tz)

theorem chord_last {R n : Int} (h1 : 1 ≤ n) : chordX R n n = 0 ∧ chordY R n n = R := by
  have hn : 0 < n * n := Int.mul_pos (by omega) (by omega)
  constructor
  · unfold chordX; rw [Int.sub_self, Int.mul_zero, Int.zero_ediv]
  · unfold chordY
    rw [show 2 * R * n * n = R * (n * n + n * n) from by grind]
    exact Int.mul_ediv_cancel _ (by omega)

theorem rot_three (R : Int) : rot 3 R 0 = (0, -R) := by simp [rot]
theorem rot_one (R : Int) : rot 1 R 0 = (0, R) := by simp [rot]

theorem arcOk {x y z k tx ty tz cx cy r : Int} (hk : k = 3 ∨ k = 4) (hv : validM x y z k tx ty tz cx cy r = 0) : ArcOk x y z k tx ty tz cx cy := by
  obtain ⟨_, p1, p2, p3, _⟩ := valid0 hk hv
  have q1 := pointQ_bd x y cx cy
  have q1' := pointQ_bd tx ty cx cy
  have q2 := quartersM_bd x y k tx ty cx cy
  have hch := chordsM_is p1
  have n2 := hch.le (b := 1000) (by omega) (by omega)
  have n1 := hch.1
  have e0 := pos_of_point p1
  have e1 := pos_of_point (x := tx) (y := ty) (cx := cx) (cy := cy) (by omega)
  rw [p3] at e1
  obtain ⟨n, hn⟩ := Int.eq_ofNat_of_zero_le (show 0 ≤ chordsM (pointD x y cx cy) by omega)
  obtain ⟨qn, hqn⟩ := Int.eq_ofNat_of_zero_le (show 0 ≤ quartersM x y k tx ty cx cy by omega)
  obtain ⟨f, hf⟩ := Int.eq_ofNat_of_zero_le q1.1
  obtain ⟨f', hf'⟩ := Int.eq_ofNat_of_zero_le q1'.1
  have hlen : (arcM x y z k tx ty tz cx cy).length = n * qn := by
    unfold arcM; rw [hn, hqn]; simp
  have hget : ∀ j (h : j < (arcM x y z k tx ty tz cx cy).length), (arcM x y z k tx ty tz cx cy)[j]'h = arcPt k z tz cx cy (pointD x y cx cy) f n (n * qn) j := by
    intro j h
    unfold arcM
    simp only [List.getElem_map, List.getElem_range, hn, hqn, hf, Int.toNat_natCast]
  rw [hn] at n1 n2
  rw [hqn] at q2
  have hq : quartersM x y k tx ty cx cy = (qn : Int) := hqn
  have hn0 : 0 < n := by omega
  have hnq : 0 < n * qn := Nat.mul_pos hn0 (by omega)
  refine ⟨by omega, fun j h => ?_, fun h => ?_⟩
  · rw [hget j h]
    have hj : j % n < n := Nat.mod_lt _ hn0
    have hc := chord_in (R := pointD x y cx cy) (n := n) (K := ((j % n + 1 : Nat) : Int)) p1 p2 n2 (by omega) (by omega)
    obtain ⟨_, _, _, _, _, _, _, _, _, _, _, hx, hy⟩ := chord_facts (R := pointD x y cx cy) (n := n) (K := ((j % n + 1 : Nat) : Int)) p1 p2 n2 (by omega) (by omega)
    have hb := arcXY_bd (pointD x y cx cy) k f (j / n) hx hy
    have hs := arcXY_sq k f (j / n) (chordX (pointD x y cx cy) n ((j % n + 1 : Nat) : Int)) (chordY (pointD x y cx cy) n ((j % n + 1 : Nat) : Int))
    unfold arcPt
    generalize arcXY k f (j / n) (chordX (pointD x y cx cy) n ((j % n + 1 : Nat) : Int)) (chordY (pointD x y cx cy) n ((j % n + 1 : Nat) : Int)) = P at *
    simp only [show ∀ a b : Int, a + b - a = b from fun a b => by omega]
    exact ⟨hb.1, hb.2, by omega⟩
  · rw [hget _ h]
    have hl : (arcM x y z k tx ty tz cx cy).length - 1 = n * (qn - 1) + (n - 1) := by
      rw [hlen]
      obtain ⟨m, rfl⟩ : ∃ m, qn = m + 1 := ⟨qn - 1, by omega⟩
      rw [Nat.mul_add]; simp; omega
    rw [hl]
    unfold arcPt
    have d1 : (n * (qn - 1) + (n - 1)) / n = qn - 1 := by rw [Nat.mul_add_div hn0, Nat.div_eq_of_lt (by omega)]; omega
    have d2 : (n * (qn - 1) + (n - 1)) % n = n - 1 := by rw [Nat.mul_add_mod, Nat.mod_eq_of_lt (by omega)]
    rw [d1, d2, show ((n - 1 + 1 : Nat) : Int) = (n : Int) from by omega, (chord_last (R := pointD x y cx cy) n1).1, (chord_last (R := pointD x y cx cy) n1).2]
    have d3 : n * (qn - 1) + (n - 1) + 1 = n * qn := by
      obtain ⟨m, rfl⟩ : ∃ m, qn = m + 1 := ⟨qn - 1, by omega⟩
      rw [Nat.mul_add]; simp; omega
    rw [d3, Int.mul_ediv_cancel _ (by omega)]
    have key : arcXY k f (qn - 1) 0 (pointD x y cx cy) = (tx - cx, ty - cy) := by
      rw [← e1, hf', Int.toNat_natCast]
      unfold quartersM at hq
      unfold arcXY
      by_cases h3 : k = 3
      · rw [if_pos h3] at hq ⊢
        have : rot (f + 4 - (qn - 1)) 0 (-(pointD x y cx cy)) = rot (3 + (f + 4 - (qn - 1))) (pointD x y cx cy) 0 := by
          rw [← rot_rot (f + 4 - (qn - 1)) 3, rot_three]
        rw [this, ← rot_mod, ← rot_mod f']
        congr 1
        split at hq <;> omega
      · rw [if_neg h3] at hq ⊢
        have : rot (f + (qn - 1)) 0 (pointD x y cx cy) = rot (1 + (f + (qn - 1))) (pointD x y cx cy) 0 := by
          rw [← rot_rot (f + (qn - 1)) 1, rot_one]
        rw [this, ← rot_mod, ← rot_mod f']
        congr 1
        split at hq <;> omega
    rw [key]
    simp only [Prod.mk.injEq]
    omega

theorem arc_props {x y z k tx ty tz cx cy r : Int} (hk : k = 3 ∨ k = 4) (hv : validM x y z k tx ty tz cx cy r = 0) :
    ∃ (l : List (Int × Int × Int)) (R : Int), arcM x y z k tx ty tz cx cy = l ∧ dist x cx + dist y cy = R ∧ 0 < R ∧ R ≤ 10000000 ∧ 0 < l.length ∧ l.length ≤ 4000 ∧
      (∀ j (h : j < l.length), (-R ≤ (l[j]'h).1 - cx ∧ (l[j]'h).1 - cx ≤ R) ∧ (-R ≤ (l[j]'h).2.1 - cy ∧ (l[j]'h).2.1 - cy ≤ R) ∧ ((l[j]'h).1 - cx) * ((l[j]'h).1 - cx) + ((l[j]'h).2.1 - cy) * ((l[j]'h).2.1 - cy) ≤ R * R) ∧
      (∀ (h : l.length - 1 < l.length), l[l.length - 1]'h = (tx, ty, tz)) := by
  obtain ⟨_, p1, p2, _⟩ := valid0 hk hv
  have hok := arcOk hk hv
  exact ⟨_, _, rfl, radius_point p1, p1, p2, hok.pos, arcM_len x y z k tx ty tz cx cy p2, hok.near, hok.last⟩

end Go.Proofs.Ytjdjcjhdaedakaa
