/-
  Few with too many moves; the number of positions of few moves.
-/
import Derived.Test.YtjdjcjhdaedakaaOpB
namespace Go.Proofs.Ytjdjcjhdaedakaa
open Go.RowKit

set_option maxHeartbeats 1000000 in
theorem few_many (x y z : Int) (A : Option Addr) (n ca : Nat) (most : Int) (w : World) (hm : most < (n : Int)) :
    Calls Try.prog 17 #[.agg #[.int .i64 x, .int .i64 y, .int .i64 z], .slice A n ca, .int .i64 most] w fun e w' => e = .returned (.bool false) ∧ Kp w w' := by
  go_enter Try.func17, Try.ntmps17
  go_wp2_with fail
  go_ret
  exact ⟨rfl, (by repeat (first | exact Kp.refl _ | assumption | (refine Kp.alloc ?_ _) | (refine Kp.drew ?_) | (refine Kp.drewN ?_ _) | (refine Kp.setCell ?_ (by first | omega | (simp only [World.size_alloc]; omega)) _) | (refine Kp.trans ?_ (by assumption))))⟩

theorem arcM_few {x y z k tx ty tz cx cy : Int} (h : pointD x y cx cy ≤ 50000) : (arcM x y z k tx ty tz cx cy).length ≤ 284 := by
  unfold arcM
  simp only [List.length_map, List.length_range]
  have q := quartersM_bd x y k tx ty cx cy
  by_cases hp : pointD x y cx cy ≤ 0
  · rw [chordsM_neg hp]; simp
  · have n2 := (chordsM_is (r := pointD x y cx cy) (by omega)).le (b := 71) (by omega) (by omega)
    have : (chordsM (pointD x y cx cy)).toNat * (quartersM x y k tx ty cx cy).toNat ≤ 71 * 4 := Nat.mul_le_mul (by omega) (by omega)
    omega
theorem run_few : ∀ (l : List Mv) (x y z : Int), fewM x y z l = true → (runM x y z l).1.flatten.length ≤ l.length * 284 := by
  intro l
  induction l with
  | nil => intro x y z _; simp [runM]
  | cons m l ih =>
    intro x y z h
    unfold fewM at h
    unfold runM
    by_cases hv : Mv.valid x y z m = 0
    · rw [if_pos hv] at h ⊢
      by_cases ha : m.arc = true ∧ 50000 < dist x m.cx + dist y m.cy
      · rw [if_pos ha] at h; cases h
      · rw [if_neg ha] at h
        have h2 := ih m.x m.y m.z h
        simp only [List.flatten_cons, List.length_append, List.length_cons]
        have h3 : (stepPs x y z m).length ≤ 284 := by
          unfold stepPs
          by_cases hk : m.arc = true
          · rw [if_pos hk]
            have hk' : m.k = 3 ∨ m.k = 4 := by unfold Mv.arc at hk; simpa using hk
            have p1 := (valid0 (z := z) hk' hv).2.1
            have := radius_point p1
            exact arcM_few (by have : ¬ 50000 < dist x m.cx + dist y m.cy := fun q => ha ⟨hk, q⟩; omega)
          · rw [if_neg hk]; simp
        omega
    · rw [if_neg hv]; simp

end Go.Proofs.Ytjdjcjhdaedakaa
