/-
  Id, Ie, If in one text.
-/
import Derived.Test.YtipefnighcdgnaaGreatDoorIxa
import Derived.Test.YtipefnighcdgnaaGreatDoorLq
namespace Go.Proofs.YtipefnighcdgnaaGreatDoor
open Go.RowKit
set_option linter.unusedVariables false
set_option linter.unusedSimpArgs false
theorem val_one (x : Int) : val [x] = x := by simp [val]
theorem top_pos {v : List Int} {n : Nat} (hV : okL v) (tV : trm v = v) (hl : v.length = n + 1) : 1 ≤ lb v n := by
 have h1 : v[n]? = some v[n] := List.getElem?_eq_getElem (by omega)
 have hg : v.getLast? = some v[n] := by rw [List.getLast?_eq_getElem?, show v.length - 1 = n by omega]; exact h1
 have h2 := last_trm tV hg
 have h3 := lb_ok hV n
 rw [lb_of h1] at h3 ⊢
 omega
theorem div_last {t r s X : Int} (h : t * s + r = s * X) (h0 : 0 ≤ r) (h1 : r < s) : t = X := by
 have e3 : s * (X - t) = r := by
  have : s * (X - t) = s * X - t * s := by grind
  omega
 have d0 : X - t = 0 := by
  generalize X - t = d at *
  rcases Int.lt_trichotomy d 0 with z | z | z
  ·have := Int.mul_le_mul_of_nonneg_left (show d ≤ -1 by omega) (show 0 ≤ s by omega); omega
  ·exact z
  ·have := Int.mul_le_mul_of_nonneg_left (show 1 ≤ d by omega) (show 0 ≤ s by omega); omega
 omega
theorem sg_dec {z : Int} : decide (sg z < 0) = decide (z < 0) := by
 apply decide_eq_decide.2
 unfold sg
 split
 ·simp; omega
 ·split
  ·simp; omega
  ·simp; omega
end Go.Proofs.YtipefnighcdgnaaGreatDoor
namespace Go.Proofs.YtipefnighcdgnaaGreatDoor
open Go.RowKit
set_option linter.unusedVariables false
set_option linter.unusedSimpArgs false
theorem Tot.get {α : Type} {m : Option α} {x : α} (h : Tot m (fun e => e = x)) : m = some x := by
 obtain ⟨e, h1, rfl⟩ := h; exact h1
def Bd (n : Nat) (z : Int) : Prop := (z.natAbs : Int) < pw n
theorem Bd.mono {n m : Nat} {z : Int} (h : Bd n z) (hm : n ≤ m) : Bd m z := Int.lt_of_lt_of_le h (pw_mono hm)
theorem Bd.len {n : Nat} {z : Int} (h : Bd n z) : (ofI z).Limbs.length ≤ n := ofI_len h
theorem Bd.neg {n : Nat} {z : Int} (h : Bd n z) : Bd n (-z) := by unfold Bd at *; rw [Int.natAbs_neg]; exact h
theorem Bd.le {n : Nat} {a b : Int} (h : Bd n b) (hb : a.natAbs ≤ b.natAbs) : Bd n a := by unfold Bd at *; omega
theorem Bd.add {n m : Nat} {a b : Int} (ha : Bd n a) (hb : Bd m b) : Bd (max n m + 1) (a + b) := by
 have h1 : Bd (max n m) a := ha.mono (Nat.le_max_left _ _)
 have h2 : Bd (max n m) b := hb.mono (Nat.le_max_right _ _)
 unfold Bd at *
 rw [pw_succ]
 omega
theorem Bd.mul {n m : Nat} {a b : Int} (ha : Bd n a) (hb : Bd m b) : Bd (n + m) (a * b) := by
 unfold Bd at *
 rw [Int.natAbs_mul, pw_add, Int.natCast_mul]
 have h1 : (a.natAbs : Int) * b.natAbs ≤ pw n * b.natAbs := Int.mul_le_mul_of_nonneg_right (Int.le_of_lt ha) (by omega)
 have h2 : pw n * (b.natAbs : Int) < pw n * pw m := Int.mul_lt_mul_of_pos_left hb (pw_pos n)
 omega
theorem Bd.i64 {z : Int} (h : -9223372036854775808 ≤ z) (h2 : z ≤ 9223372036854775807) : Bd 3 z := by unfold Bd; simp only [pw]; omega
theorem Bd.ediv {n : Nat} {a b : Int} (ha : Bd n a) (hb : 0 < b) : Bd n (a / b) := by
 refine ha.le ?_
 rcases Int.le_total 0 a with h | h
 ·have h1 := Int.ediv_nonneg h (Int.le_of_lt hb)
  have h2 := Int.ediv_le_self b h
  omega
 ·have h1 : a ≤ a / b := by
   rw [Int.le_ediv_iff_mul_le hb]
   have := Int.mul_le_mul_of_nonneg_left (show 1 ≤ b by omega) (show 0 ≤ -a by omega)
   rw [Int.neg_mul, Int.neg_mul] at this
   omega
  have h2 : a / b ≤ 0 := by
   rcases Int.lt_or_le 0 (a / b) with z | z
   ·have := (Int.le_ediv_iff_mul_le (a := 1) (b := a) hb).1 (by omega)
    omega
   ·exact z
  omega
theorem Bd.emod {n : Nat} {a b : Int} (hb : Bd n b) (h : 0 < b) : Bd n (a % b) := by
 have h1 := Int.emod_nonneg a (show b ≠ 0 by omega)
 have h2 := Int.emod_lt_of_pos a h
 exact hb.le (by omega)
theorem Bd.toNat {n : Nat} {a : Nat} (h : Bd n (a : Int)) : (a : Int) < pw n := by unfold Bd at h; omega
theorem ofI_negv (z : Int) : (ofI z).Neg = decide (z < 0) := rfl
theorem dec_beq {p q : Prop} [Decidable p] [Decidable q] : ((decide p == decide q) = true) ↔ (p ↔ q) := by
 by_cases hp : p <;> by_cases hq : q <;> simp [hp, hq]
theorem ofI_congr {a b : Int} (h : a = b) : ofI a = ofI b := by rw [h]
theorem wrap_u64' (n : Int) : IntKind.u64.wrap n = n % 18446744073709551616 := by
 unfold IntKind.wrap; simp [IntKind.signed, IntKind.bits]
theorem abs_u64 {n : Int} (h : -9223372036854775808 ≤ n) (h2 : n ≤ 9223372036854775807) (h3 : n < 0) : IntKind.u64.wrap (0 - (IntKind.u64.wrap n)) = (n.natAbs : Int) := by
 rw [wrap_u64', wrap_u64']; omega
theorem mul_sign {a b : Int} : (if (!(decide (a < 0) == decide (b < 0))) = true then -((a.natAbs : Int) * b.natAbs) else (a.natAbs : Int) * b.natAbs) = a * b := by
 by_cases h1 : a < 0 <;> by_cases h2 : b < 0
 ·rw [decide_eq_true h1, decide_eq_true h2]
  simp only [beq_self_eq_true, Bool.not_true, Bool.false_eq_true, if_false]
  rw [show (a.natAbs : Int) = -a by omega, show (b.natAbs : Int) = -b by omega, Int.neg_mul_neg]
 ·rw [decide_eq_true h1, decide_eq_false h2]
  rw [show (a.natAbs : Int) = -a by omega, show (b.natAbs : Int) = b by omega]
  simp [Int.neg_mul]
 ·rw [decide_eq_false h1, decide_eq_true h2]
  rw [show (a.natAbs : Int) = a by omega, show (b.natAbs : Int) = -b by omega]
  simp [Int.mul_neg]
 ·rw [decide_eq_false h1, decide_eq_false h2]
  simp only [beq_self_eq_true, Bool.not_true, Bool.false_eq_true, if_false]
  rw [show (a.natAbs : Int) = a by omega, show (b.natAbs : Int) = b by omega]
theorem ofI_len0 {z : Int} : (ofI z).Limbs.length = 0 ↔ z = 0 := by rw [List.length_eq_zero_iff]; exact ofI_nil
end Go.Proofs.YtipefnighcdgnaaGreatDoor
namespace Go.Proofs.YtipefnighcdgnaaGreatDoor
open Go.RowKit
set_option linter.unusedVariables false
set_option linter.unusedSimpArgs false
theorem pw_two : ∀ n : Nat, pw n ≤ ((2 ^ (30 * n) : Nat) : Int)
 | 0 => by simp [pw]
 | n + 1 => by
  have h := pw_two n
  have h0 := pw_pos n
  rw [pw_succ, show 30 * (n + 1) = 30 * n + 30 by omega, Nat.pow_add]
  rw [Int.natCast_mul]
  have : (1073741824 : Nat) = 2 ^ 30 := rfl
  rw [← this]
  omega
theorem gcd_step (x y : Nat) : Nat.gcd y (x % y) = Nat.gcd x y := by
 rw [Nat.gcd_comm x y, Nat.gcd_rec y x, Nat.gcd_comm]
theorem gcd_loop (x y : Nat) (hy : y ≤ 9223372036854775807) : loopX (fun (v2 : Int × Int) =>
      if (decide (v2.2 > 0)) = true then
        guardO (!(v2.2 == 0)) (
        some (.go (v2.2, Int.tmod v2.1 v2.2)))
      else
        some (.ret v2.1)) fuel ((x : Int), (y : Int)) = some ((Nat.gcd x y : Nat) : Int) := by
  apply Tot.get
  refine Tot.loop (fun m v => ∃ a : Nat, v = ((a : Int), (m : Int)) ∧ Nat.gcd a m = Nat.gcd x y) _ y (fuel_gt hy) ⟨x, rfl, rfl⟩ (fun m v hv => ?_)
  obtain ⟨a, rfl, h⟩ := hv
  dsimp only
  cases m with
  | zero => exact TotX.ite (fun q => absurd q (by simp)) (fun _ => .ret (by rw [← h, Nat.gcd_zero_right]))
  | succ m =>
    refine TotX.ite (fun _ => TotX.guard (by simp; omega) (.go ⟨a % (m + 1), Nat.mod_lt _ (by omega), m + 1, ?_, ?_⟩)) (fun q => absurd q (by simp))
    · rw [tmd (by omega)]; rfl
    · rw [gcd_step]; exact h
def eucM (m x y : Nat) : Prop := (y ≤ x ∧ x * y < 2 ^ m) ∨ (1 ≤ m ∧ x * y < 2 ^ (m - 1))
theorem eucM_step {m x y : Nat} (h : eucM m x y) (hy : 0 < y) : ∃ m', m' < m ∧ eucM m' y (x % y) := by
 have key : ∀ k, y ≤ x → x * y < 2 ^ k → ∃ m', m' < k ∧ eucM m' y (x % y) := by
  intro k h1 h2
  have h3 := euclid_half h1 hy
  have h4 : 1 ≤ x * y := Nat.mul_pos (by omega) hy
  have hk : k ≠ 0 := fun z => by subst z; simp at h2; omega
  obtain ⟨j, rfl⟩ := Nat.exists_eq_succ_of_ne_zero hk
  refine ⟨j, by omega, .inl ⟨Nat.le_of_lt (Nat.mod_lt _ hy), ?_⟩⟩
  have : 2 ^ (j.succ) = 2 * 2 ^ j := by rw [Nat.pow_succ]; omega
  omega
 rcases h with ⟨h1, h2⟩ | ⟨h1, h2⟩
 ·exact key m h1 h2
 ·rcases Nat.lt_or_ge x y with q | q
  ·refine ⟨m - 1, by omega, .inl ⟨Nat.le_of_lt (Nat.mod_lt _ hy), ?_⟩⟩
   rw [Nat.mod_eq_of_lt q, Nat.mul_comm]; exact h2
  ·obtain ⟨m', h3, h4⟩ := key (m - 1) q h2
   exact ⟨m', by omega, h4⟩
theorem euc_start {n x y : Nat} (hx : Bd n (x : Int)) (hy : Bd n (y : Int)) : eucM (60 * n + 1) x y := by
 refine .inr ⟨by omega, ?_⟩
 have h1 := pw_two n
 unfold Bd at hx hy
 rw [Int.natAbs_natCast] at hx hy
 rw [show 60 * n + 1 - 1 = 30 * n + 30 * n by omega, Nat.pow_add]
 exact Nat.mul_lt_mul_of_lt_of_lt (by omega) (by omega)
theorem Bd.gcd {n : Nat} {a b : Int} (hb : Bd n b) (h0 : b ≠ 0) : Bd n ((Int.gcd a b : Nat) : Int) := by
 refine hb.le ?_
 have := Nat.gcd_le_right a.natAbs (show 0 < b.natAbs by omega)
 unfold Int.gcd
 rw [Int.natAbs_natCast]; exact this
end Go.Proofs.YtipefnighcdgnaaGreatDoor
