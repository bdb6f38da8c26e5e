/-
  The number of chords of a quarter: the plain law, and the contracts of both functions Chords.
-/
import Derived.Test.YtjdjcjhdaedakaaBase
namespace Go.Proofs.Ytjdjcjhdaedakaa
open Go.RowKit

def IsCh (r n : Int) : Prop := 1 ≤ n ∧ r ≤ 10 * (n * n) ∧ 10 * ((n - 1) * (n - 1)) < r
theorem sq_mono {a b : Int} (h0 : 0 ≤ a) (h : a ≤ b) : a * a ≤ b * b := Int.mul_le_mul h h h0 (by omega)
theorem IsCh.unique {r n m : Int} (hn : IsCh r n) (hm : IsCh r m) : n = m := by
  obtain ⟨a1, a2, a3⟩ := hn
  obtain ⟨b1, b2, b3⟩ := hm
  rcases Int.lt_trichotomy n m with h | h | h
  · have := sq_mono (a := n) (b := m - 1) (by omega) (by omega); omega
  · exact h
  · have := sq_mono (a := m) (b := n - 1) (by omega) (by omega); omega

def chordsFrom (r : Int) : Nat → Int → Int
  | 0, n => n
  | f + 1, n => if 10 * (n * n) < r then chordsFrom r f (n + 1) else n
theorem chordsFrom_is (r : Int) : ∀ (f : Nat) (n : Int), 1 ≤ n → 10 * ((n - 1) * (n - 1)) < r → r ≤ 10 * ((n + f) * (n + f)) → IsCh r (chordsFrom r f n) := by
  intro f
  induction f with
  | zero => intro n h1 h2 h3; show IsCh r n; exact ⟨h1, by simpa using h3, h2⟩
  | succ f ih =>
    intro n h1 h2 h3
    unfold chordsFrom
    split
    · rename_i h
      exact ih (n + 1) (by omega) (by rw [show n + 1 - 1 = n from by omega]; omega) (by rw [show n + 1 + (f : Int) = n + ((f + 1 : Nat) : Int) from by omega]; exact h3)
    · exact ⟨h1, by omega, h2⟩
def chordsM (r : Int) : Int := if r ≤ 0 then 0 else chordsFrom r r.toNat 1
theorem chordsM_is {r : Int} (h : 0 < r) : IsCh r (chordsM r) := by
  unfold chordsM
  rw [if_neg (by omega)]
  refine chordsFrom_is r _ 1 (by omega) (by simpa using h) ?_
  have e : (1 : Int) + (r.toNat : Int) = 1 + r := by omega
  rw [e]
  have := Int.mul_le_mul (a := 1) (b := r) (c := 1 + r) (d := 1 + r) (by omega) (by omega) (by omega) (by omega)
  have h2 : (1 + r) * (1 + r) = 1 + r + r * (1 + r) := by rw [Int.add_mul, Int.one_mul]
  omega
theorem chordsM_eq {r n : Int} (h : IsCh r n) : chordsM r = n := by
  have hr : 0 < r := by
    have := h.2.2
    have h2 : 0 ≤ (n - 1) * (n - 1) := Int.mul_nonneg (by have := h.1; omega) (by have := h.1; omega)
    omega
  exact (chordsM_is hr).unique h
theorem chordsM_neg {r : Int} (h : r ≤ 0) : chordsM r = 0 := by unfold chordsM; rw [if_pos h]
theorem IsCh.le {r n b : Int} (h : IsCh r n) (hb : 0 ≤ b) (hr : r ≤ 10 * (b * b)) : n ≤ b := by
  rcases Int.lt_or_le b n with h1 | h1
  · have := sq_mono (a := b) (b := n - 1) hb (by omega)
    have := h.2.2
    omega
  · exact h1

set_option maxHeartbeats 400000 in
theorem chords_any (r : Int) (w : World) (h' : r ≤ 9223372036854775807) :
    Calls Try.prog 16 #[.int .i64 r] w fun e w' => e = .returned (.int .i64 (chordsM r)) ∧ w = w' := by
  by_cases hr : r ≤ 0
  · go_enter Try.func16, Try.ntmps16
    go_wp2
    go_ret
    exact ⟨ret_int (chordsM_neg hr).symm, rfl⟩
  · go_enter Try.func16, Try.ntmps16
    go_wp2_with fail
    go_loopg [4, 5] 1073741824 (fun g l h wr => ∃ a b : Int, 1 ≤ a ∧ a ≤ b ∧ b ≤ 1073741824 ∧ b - a ≤ g ∧ (r - 1) / 10 + 1 ≤ b * b ∧ (a - 1) * (a - 1) < (r - 1) / 10 + 1 ∧ l = .int .i64 a ∧ h = .int .i64 b ∧ w = wr)
    case atStart => exact ⟨1, 1073741824, by omega, by omega, by omega, by omega, by omega, by omega, rfl, rfl, rfl⟩
    case round =>
      obtain ⟨a, b, h1, h2, h3, h4, h5, h6, rfl, rfl, rfl⟩ := hrel
      by_cases hab : a < b
      · obtain ⟨m, hm⟩ : ∃ m, (a + b) / 2 = m := ⟨_, rfl⟩
        have m1 : a ≤ m := by omega
        have m2 : m < b := by omega
        have m3 : 0 ≤ m * m := Int.mul_nonneg (by omega) (by omega)
        have m4 : m * m ≤ 1073741824 * 1073741824 := sq_mono (by omega) (by omega)
        by_cases hq : (r - 1) / 10 + 1 ≤ m * m
        · go_wp2_with fail
          go_roundg (m - a).toNat
          case measure => omega
          case rel => exact ⟨a, m, by omega, by omega, by omega, by omega, hq, h6, rfl, by rw [hm], rfl⟩
        · go_wp2_with fail
          go_roundg (b - (m + 1)).toNat
          case measure => omega
          case rel => exact ⟨m + 1, b, by omega, by omega, by omega, by omega, h5, by rw [show m + 1 - 1 = m from by omega]; omega, rfl, rfl, rfl⟩
      · obtain rfl : a = b := by omega
        go_wp2_with fail
        go_ret
        exact ⟨ret_int (chordsM_eq ⟨h1, by omega, by omega⟩).symm, rfl⟩

set_option maxHeartbeats 400000 in
theorem rchords_any (r : Int) (w : World) (h' : r ≤ 1000000000) :
    Calls Try.prog 39 #[.int .i64 r] w fun e w' => e = .returned (.int .i64 (chordsM r)) ∧ w = w' := by
  by_cases hr : r ≤ 0
  · go_enter Try.func39, Try.ntmps39
    go_wp2
    go_ret
    exact ⟨ret_int (chordsM_neg hr).symm, rfl⟩
  · go_enter Try.func39, Try.ntmps39
    go_wp2_with fail
    go_loopg [3] 10000 (fun g n wr => ∃ a : Int, 1 ≤ a ∧ a + g = 10001 ∧ 10 * ((a - 1) * (a - 1)) < r ∧ n = .int .i64 a ∧ w = wr)
    case atStart => exact ⟨1, by omega, by omega, by omega, rfl, rfl⟩
    case round =>
      obtain ⟨a, h1, h2, h3, rfl, rfl⟩ := hrel
      have m3 : 0 ≤ a * a := Int.mul_nonneg (by omega) (by omega)
      have m4 : a * a ≤ 10001 * 10001 := sq_mono (by omega) (by omega)
      have e1 : 10 * a * a = 10 * (a * a) := Int.mul_assoc _ _ _
      have e2 : a < 1000000000 := by omega
      by_cases hq : 10 * (a * a) < r
      · have h5 : a ≤ 10000 := by
          rcases Int.lt_or_le 10000 a with h | h
          · have := sq_mono (a := 10001) (b := a) (by omega) (by omega); omega
          · exact h
        go_wp2_with fail
        go_roundg (gk - 1)
        case measure => omega
        case rel => exact ⟨a + 1, by omega, by omega, by rw [show a + 1 - 1 = a from by omega]; omega, rfl, rfl⟩
      · go_wp2_with fail
        go_ret
        exact ⟨ret_int (chordsM_eq ⟨h1, by omega, by omega⟩).symm, rfl⟩

end Go.Proofs.Ytjdjcjhdaedakaa
