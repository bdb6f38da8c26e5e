/-
  Plain facts: every chord of an arc stays at the distance radius minus 7 from the center.
-/
import Derived.Test.YtjdjcjhdaedakaaInA
namespace Go.Proofs.Ytjdjcjhdaedakaa
open Go.RowKit

theorem sq_nonneg (a : Int) : 0 ≤ a * a := by
  rcases Int.le_total 0 a with h | h
  · exact Int.mul_nonneg h h
  · exact Int.mul_nonneg_of_nonpos_of_nonpos h h
theorem cauchy (a b p q : Int) : (a * p + b * q) * (a * p + b * q) ≤ (a * a + b * b) * (p * p + q * q) := by
  have h := sq_nonneg (a * q - b * p)
  have e : (a * a + b * b) * (p * p + q * q) = (a * p + b * q) * (a * p + b * q) + (a * q - b * p) * (a * q - b * p) := by grind
  omega
theorem le_of_mul {a b c : Int} (hc : 0 < c) (h : a * c ≤ b * c) : a ≤ b := by
  rcases Int.lt_or_le b a with h1 | h1
  · have := Int.mul_lt_mul_of_pos_right h1 hc; omega
  · exact h1

/-- What the law's function far asks of a segment, as a proposition. -/
def FarOk (a b c d least : Int) : Prop :=
  (-(a * (c - a) + b * (d - b)) ≤ 0 → least * least ≤ a * a + b * b) ∧
  ((c - a) * (c - a) + (d - b) * (d - b) ≤ -(a * (c - a) + b * (d - b)) → least * least ≤ c * c + d * d) ∧
  (0 < -(a * (c - a) + b * (d - b)) → -(a * (c - a) + b * (d - b)) < (c - a) * (c - a) + (d - b) * (d - b) → least * least * ((c - a) * (c - a) + (d - b) * (d - b)) ≤ (a * (d - b) - b * (c - a)) * (a * (d - b) - b * (c - a)))

theorem far_of {a b c d p q T s : Int} (hE : 0 < p * p + q * q) (hT : 0 ≤ T) (h : s * s * (p * p + q * q) ≤ T * T) (hA : T ≤ a * p + b * q) (hC : T ≤ c * p + d * q) : FarOk a b c d s := by
  have key : ∀ x y : Int, T ≤ x * p + y * q → s * s ≤ x * x + y * y := fun x y hx => by
    have h1 := sq_mono hT hx
    have h2 := cauchy x y p q
    exact le_of_mul hE (by omega)
  refine ⟨fun _ => key a b hA, fun _ => key c d hC, fun h0 h1 => ?_⟩
  obtain ⟨t, ht⟩ : ∃ t, -(a * (c - a) + b * (d - b)) = t := ⟨_, rfl⟩
  obtain ⟨n, hn⟩ : ∃ n, (c - a) * (c - a) + (d - b) * (d - b) = n := ⟨_, rfl⟩
  rw [ht] at h0 h1
  rw [hn] at h1 ⊢
  have hn0 : 0 < n := by omega
  have m1 : T * (n - t) ≤ (a * p + b * q) * (n - t) := Int.mul_le_mul_of_nonneg_right hA (by omega)
  have m2 : T * t ≤ (c * p + d * q) * t := Int.mul_le_mul_of_nonneg_right hC (by omega)
  have e1 : (n * a + t * (c - a)) * p + (n * b + t * (d - b)) * q = (a * p + b * q) * (n - t) + (c * p + d * q) * t := by grind
  have m3 : T * n ≤ (n * a + t * (c - a)) * p + (n * b + t * (d - b)) * q := by
    have : T * n = T * (n - t) + T * t := by grind
    omega
  have m4 := sq_mono (Int.mul_nonneg hT (by omega)) m3
  have m5 := cauchy (n * a + t * (c - a)) (n * b + t * (d - b)) p q
  have e2 : (n * a + t * (c - a)) * (n * a + t * (c - a)) + (n * b + t * (d - b)) * (n * b + t * (d - b)) = n * ((a * (d - b) - b * (c - a)) * (a * (d - b) - b * (c - a))) := by
    subst ht hn; grind
  rw [e2] at m5
  have m6 : s * s * (p * p + q * q) * (n * n) ≤ T * T * (n * n) := Int.mul_le_mul_of_nonneg_right h (sq_nonneg n)
  have m7 : s * s * n * (n * (p * p + q * q)) ≤ (a * (d - b) - b * (c - a)) * (a * (d - b) - b * (c - a)) * (n * (p * p + q * q)) := by
    have e3 : s * s * n * (n * (p * p + q * q)) = s * s * (p * p + q * q) * (n * n) := by grind
    have e4 : (a * (d - b) - b * (c - a)) * (a * (d - b) - b * (c - a)) * (n * (p * p + q * q)) = n * ((a * (d - b) - b * (c - a)) * (a * (d - b) - b * (c - a))) * (p * p + q * q) := by grind
    have e5 : T * n * (T * n) = T * T * (n * n) := by grind
    omega
  exact le_of_mul (Int.mul_pos hn0 hE) m7

/-- The chord from k to k + 1 of the first quarter: the direction (p, q) and the bound T. -/
theorem chord_far {R n k : Int} (hn : R ≤ 10 * (n * n)) (h4 : 0 ≤ k) (h5 : k + 1 ≤ n) :
    ∃ p q T : Int, 0 < p * p + q * q ∧ (7 ≤ R → 0 ≤ T ∧ (R - 7) * (R - 7) * (p * p + q * q) ≤ T * T ∧ T ≤ chordX R n k * p + chordY R n k * q ∧ T ≤ chordX R n (k + 1) * p + chordY R n (k + 1) * q) := by
  have hn1 : 1 ≤ n := by omega
  have nn : 0 < n * n := Int.mul_pos (by omega) (by omega)
  have kk : 0 ≤ k * k := sq_nonneg k
  have kn : k * (k + 1) ≤ (n - 1) * n := Int.mul_le_mul (by omega) h5 (by omega) (by omega)
  have kn' : (n - 1) * n = n * n - n := by grind
  have k2 : 0 ≤ k * (k + 1) := Int.mul_nonneg h4 (by omega)
  have hp : 0 < n * n - k * (k + 1) := by omega
  have hq : 0 < n * (2 * k + 1) := Int.mul_pos (by omega) (by omega)
  have D0 : 0 < n * n + k * k := by omega
  have k3 : 0 ≤ (k + 1) * (k + 1) := sq_nonneg _
  have D1 : 0 < n * n + (k + 1) * (k + 1) := by omega
  refine ⟨n * n - k * (k + 1), n * (2 * k + 1), R * (n * n + k * (k + 1)) - (n * n - k * (k + 1)) - n * (2 * k + 1), ?_, fun hR => ?_⟩
  · have := Int.mul_pos hp hp
    have := sq_nonneg (n * (2 * k + 1))
    omega
  · obtain ⟨m, hm⟩ : ∃ m, n * n + k * (k + 1) = m := ⟨_, rfl⟩
    have hm0 : 0 < m := by omega
    have hpq : (n * n - k * (k + 1)) + n * (2 * k + 1) ≤ 2 * m := by
      have h := sq_nonneg (n - k)
      have e : (n - k) * (n - k) = n * n - 2 * (k * n) + k * k := by grind
      have e2 : n * (2 * k + 1) = 2 * (k * n) + n := by grind
      have e3 : k * (k + 1) = k * k + k := by grind
      by_cases hk0 : k = 0
      · subst hk0
        have : n * 1 ≤ n * n := Int.mul_le_mul_of_nonneg_left hn1 (by omega)
        omega
      · obtain ⟨s, hs⟩ : ∃ s, n = k + s := ⟨n - k, by omega⟩
        have hss : s * 1 ≤ s * s := Int.mul_le_mul_of_nonneg_left (by omega) (by omega)
        have e4 : (n - k) * (n - k) = s * s := by subst hs; grind
        omega
    have hEE : (n * n - k * (k + 1)) * (n * n - k * (k + 1)) + n * (2 * k + 1) * (n * (2 * k + 1)) = m * m + n * n := by subst hm; grind
    have cx0 : ∀ j, 0 < n * n + j * j → 0 ≤ j → j ≤ n → R * (n * n - j * j) < (chordX R n j + 1) * (n * n + j * j) ∧ 2 * R * j * n < (chordY R n j + 1) * (n * n + j * j) := by
      intro j hj _ _
      constructor
      · have := Int.lt_ediv_add_one_mul_self (R * (n * n - j * j)) hj; exact this
      · have := Int.lt_ediv_add_one_mul_self (2 * R * j * n) hj; exact this
    rw [hEE, hm]
    obtain ⟨p, hpp⟩ : ∃ p, n * n - k * (k + 1) = p := ⟨_, rfl⟩
    obtain ⟨q, hqq⟩ : ∃ q, n * (2 * k + 1) = q := ⟨_, rfl⟩
    rw [hpp, hqq] at hpq ⊢
    rw [hpp] at hp
    rw [hqq] at hq
    have Rm : 2 * m ≤ R * m := Int.mul_le_mul_of_nonneg_right (by omega) (by omega)
    have hT : 0 ≤ R * m - p - q := by omega
    refine ⟨hT, ?_, ?_, ?_⟩
    · -- 2 m T ≥ (R - 7) (2 m^2 + n^2)
      have hRn : R * (n * n) ≤ 10 * (n * n) * (n * n) := Int.mul_le_mul_of_nonneg_right hn (by omega)
      have hmm : n * n ≤ m := by omega
      have h1 : 10 * (n * n) * (n * n) ≤ 10 * (m * m) := by
        have := sq_mono (a := n * n) (b := m) (by omega) hmm
        have e : 10 * (n * n) * (n * n) = 10 * (n * n * (n * n)) := by grind
        omega
      have h2 : (R - 7) * (2 * (m * m) + n * n) ≤ 2 * m * (R * m - p - q) := by
        have e1 : (R - 7) * (2 * (m * m) + n * n) = 2 * (R * (m * m)) - 14 * (m * m) + R * (n * n) - 7 * (n * n) := by grind
        have e2 : 2 * m * (R * m - p - q) = 2 * (R * (m * m)) - 2 * (m * (p + q)) := by grind
        have e3 : m * (p + q) ≤ m * (2 * m) := Int.mul_le_mul_of_nonneg_left hpq (by omega)
        have e4 : m * (2 * m) = 2 * (m * m) := by grind
        omega
      have h3 : 0 ≤ (R - 7) * (2 * (m * m) + n * n) := Int.mul_nonneg (by omega) (by have := sq_nonneg m; omega)
      have h4 := sq_mono h3 h2
      have h5 : (R - 7) * (R - 7) * (m * m + n * n) * (4 * (m * m)) ≤ (R * m - p - q) * (R * m - p - q) * (4 * (m * m)) := by
        have e1 : (R - 7) * (2 * (m * m) + n * n) * ((R - 7) * (2 * (m * m) + n * n)) = (R - 7) * (R - 7) * (m * m + n * n) * (4 * (m * m)) + (R - 7) * (R - 7) * (n * n * (n * n)) := by grind
        have e2 : 2 * m * (R * m - p - q) * (2 * m * (R * m - p - q)) = (R * m - p - q) * (R * m - p - q) * (4 * (m * m)) := by grind
        have e3 : 0 ≤ (R - 7) * (R - 7) * (n * n * (n * n)) := Int.mul_nonneg (sq_nonneg _) (sq_nonneg _)
        omega
      exact le_of_mul (by have := Int.mul_pos hm0 hm0; omega) h5
    · obtain ⟨a1, a2⟩ := cx0 k D0 h4 (by omega)
      refine le_of_mul D0 ?_
      have b1 : (R * (n * n - k * k)) * p ≤ (chordX R n k + 1) * (n * n + k * k) * p := Int.mul_le_mul_of_nonneg_right (by omega) (by omega)
      have b2 : (2 * R * k * n) * q ≤ (chordY R n k + 1) * (n * n + k * k) * q := Int.mul_le_mul_of_nonneg_right (by omega) (by omega)
      have e1 : R * m * (n * n + k * k) = (R * (n * n - k * k)) * p + (2 * R * k * n) * q := by subst hm hpp hqq; grind
      have e2 : (R * m - p - q) * (n * n + k * k) = R * m * (n * n + k * k) - p * (n * n + k * k) - q * (n * n + k * k) := by grind
      have e3 : (chordX R n k * p + chordY R n k * q) * (n * n + k * k) = (chordX R n k + 1) * (n * n + k * k) * p + (chordY R n k + 1) * (n * n + k * k) * q - p * (n * n + k * k) - q * (n * n + k * k) := by grind
      omega
    · obtain ⟨a1, a2⟩ := cx0 (k + 1) D1 (by omega) h5
      refine le_of_mul D1 ?_
      have b1 : (R * (n * n - (k + 1) * (k + 1))) * p ≤ (chordX R n (k + 1) + 1) * (n * n + (k + 1) * (k + 1)) * p := Int.mul_le_mul_of_nonneg_right (by omega) (by omega)
      have b2 : (2 * R * (k + 1) * n) * q ≤ (chordY R n (k + 1) + 1) * (n * n + (k + 1) * (k + 1)) * q := Int.mul_le_mul_of_nonneg_right (by omega) (by omega)
      have e1 : R * m * (n * n + (k + 1) * (k + 1)) = (R * (n * n - (k + 1) * (k + 1))) * p + (2 * R * (k + 1) * n) * q := by subst hm hpp hqq; grind
      have e2 : (R * m - p - q) * (n * n + (k + 1) * (k + 1)) = R * m * (n * n + (k + 1) * (k + 1)) - p * (n * n + (k + 1) * (k + 1)) - q * (n * n + (k + 1) * (k + 1)) := by grind
      have e3 : (chordX R n (k + 1) * p + chordY R n (k + 1) * q) * (n * n + (k + 1) * (k + 1)) = (chordX R n (k + 1) + 1) * (n * n + (k + 1) * (k + 1)) * p + (chordY R n (k + 1) + 1) * (n * n + (k + 1) * (k + 1)) * q - p * (n * n + (k + 1) * (k + 1)) - q * (n * n + (k + 1) * (k + 1)) := by grind
      omega

end Go.Proofs.Ytjdjcjhdaedakaa
