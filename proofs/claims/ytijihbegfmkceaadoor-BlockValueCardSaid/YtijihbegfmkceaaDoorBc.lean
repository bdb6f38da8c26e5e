/-
  Layer 41: numerals and the texts of numbers, in plain words.
-/
import Derived.Test.YtijihbegfmkceaaDoorBa
namespace Go.Proofs.YtijihbegfmkceaaDoor
open Go.RowKit
set_option linter.unusedVariables false
set_option linter.unusedSimpArgs false

def isD (c : UInt8) : Bool := decide (48 ≤ c.toNat) && decide (c.toNat ≤ 57)
def dv (c : UInt8) : Nat := c.toNat - 48
def numA (a : Nat) (l : List UInt8) : Nat := l.foldl (fun a c => 10 * a + dv c) a
def num (l : List UInt8) : Nat := numA 0 l
theorem isD_iff {c : UInt8} : isD c = true ↔ 48 ≤ c.toNat ∧ c.toNat ≤ 57 := by simp [isD]
theorem numA_nil (a : Nat) : numA a [] = a := rfl
theorem numA_cons (a : Nat) (c : UInt8) (l : List UInt8) : numA a (c :: l) = numA (10 * a + dv c) l := by unfold numA; rw [List.foldl_cons]
theorem numA_append (a : Nat) (l m : List UInt8) : numA a (l ++ m) = numA (numA a l) m := by simp [numA, List.foldl_append]
theorem pow10_pos (n : Nat) : 1 ≤ 10 ^ n := Nat.pos_of_ne_zero (by simp)
theorem numA_eq (l : List UInt8) : ∀ a : Nat, numA a l = a * 10 ^ l.length + num l := by
  induction l with
  | nil => intro a; simp [numA, num]
  | cons c l ih =>
    intro a
    show numA (10 * a + dv c) l = a * 10 ^ (l.length + 1) + numA (10 * 0 + dv c) l
    rw [ih (10 * a + dv c), ih (10 * 0 + dv c), Nat.pow_succ, Nat.add_mul, Nat.mul_zero, Nat.zero_add, ← Nat.mul_assoc, Nat.mul_assoc 10 a]
    omega
theorem numA_ge (l : List UInt8) (a : Nat) : a ≤ numA a l := by
  rw [numA_eq]
  have := Nat.le_mul_of_pos_right a (pow10_pos l.length)
  omega
theorem num_snoc (l : List UInt8) (c : UInt8) : num (l ++ [c]) = 10 * num l + dv c := by
  unfold num; rw [numA_append]; rfl
theorem dv_lt {c : UInt8} (h : isD c = true) : dv c < 10 := by
  have := isD_iff.1 h
  unfold dv; omega
theorem num_lt : ∀ (l : List UInt8), l.all isD = true → num l < 10 ^ l.length
  | [], _ => by simp [num, numA]
  | c :: l, h => by
    simp only [List.all_cons, Bool.and_eq_true] at h
    have h1 := num_lt l h.2
    have h2 := dv_lt h.1
    rw [show num (c :: l) = numA (10 * 0 + dv c) l from rfl, numA_eq, List.length_cons, Nat.pow_succ]
    have : (10 * 0 + dv c) * 10 ^ l.length ≤ 9 * 10 ^ l.length := Nat.mul_le_mul_right _ (by omega)
    omega
theorem ofNat_toNat {r : Nat} (h : r < 208) : (UInt8.ofNat (48 + r)).toNat = 48 + r := by
  rw [UInt8.toNat_ofNat']
  omega
theorem dv_of {r : Nat} (h : r < 10) : dv (UInt8.ofNat (48 + r)) = r := by unfold dv; rw [ofNat_toNat (by omega)]; omega
theorem isD_of {r : Nat} (h : r < 10) : isD (UInt8.ofNat (48 + r)) = true := by rw [isD_iff, ofNat_toNat (by omega)]; omega
theorem of_dv {c : UInt8} (h : isD c = true) : UInt8.ofNat (48 + dv c) = c := by
  have := isD_iff.1 h
  apply UInt8.toNat_inj.1
  rw [ofNat_toNat (by unfold dv; omega)]
  unfold dv; omega
theorem dd_small {u : Nat} (h : u < 10) : Lib.decDigits u = [UInt8.ofNat (48 + u)] := by rw [Lib.decDigits, dif_pos h]
theorem dd_big {u : Nat} (h : ¬ u < 10) : Lib.decDigits u = Lib.decDigits (u / 10) ++ [UInt8.ofNat (48 + u % 10)] := by conv => lhs; rw [Lib.decDigits, dif_neg h]
theorem dd_facts : ∀ (n u : Nat), u < n → (Lib.decDigits u).all isD = true ∧ num (Lib.decDigits u) = u ∧ Lib.decDigits u ≠ [] ∧ (u ≠ 0 → (Lib.decDigits u).head? ≠ some 48)
  | 0, u, h => by omega
  | n + 1, u, h => by
    by_cases hs : u < 10
    · rw [dd_small hs]
      refine ⟨by simp only [List.all_cons, List.all_nil, isD_of hs, Bool.and_true], ?_, by simp, fun h0 => ?_⟩
      · show 10 * 0 + dv _ = u
        rw [dv_of hs]; omega
      · simp only [List.head?_cons, ne_eq, Option.some.injEq]
        intro e
        have := congrArg UInt8.toNat e
        rw [ofNat_toNat (by omega)] at this
        have h48 : (48 : UInt8).toNat = 48 := rfl
        omega
    · rw [dd_big hs]
      obtain ⟨h1, h2, h3, h4⟩ := dd_facts n (u / 10) (by omega)
      refine ⟨by simp only [List.all_append, List.all_cons, List.all_nil, h1, isD_of (Nat.mod_lt u (by omega : 0 < 10)), Bool.and_true], ?_, by simp, fun _ => ?_⟩
      · rw [num_snoc, h2, dv_of (Nat.mod_lt _ (by omega))]; omega
      · cases hd : Lib.decDigits (u / 10) with
        | nil => exact absurd hd h3
        | cons c r =>
          have := h4 (by omega)
          rw [hd] at this
          simpa using this
theorem dd_dig (u : Nat) : (Lib.decDigits u).all isD = true := (dd_facts _ u (Nat.lt_succ_self u)).1
theorem dd_num (u : Nat) : num (Lib.decDigits u) = u := (dd_facts _ u (Nat.lt_succ_self u)).2.1
theorem dd_ne (u : Nat) : Lib.decDigits u ≠ [] := (dd_facts _ u (Nat.lt_succ_self u)).2.2.1
theorem dd_head {u : Nat} (h : u ≠ 0) : (Lib.decDigits u).head? ≠ some 48 := (dd_facts _ u (Nat.lt_succ_self u)).2.2.2 h
/-- A numeral without superfluous zeros. -/
def canW (l : List UInt8) : Prop := l.all isD = true ∧ l ≠ [] ∧ (1 < l.length → l.head? ≠ some 48)
theorem dd_can (u : Nat) : canW (Lib.decDigits u) := by
  refine ⟨dd_dig u, dd_ne u, fun h => ?_⟩
  by_cases h0 : u = 0
  · subst h0
    rw [dd_small (by omega)] at h
    simp at h
  · exact dd_head h0
theorem num_pos {l : List UInt8} (h : l.all isD = true) (hne : l ≠ []) (hh : l.head? ≠ some 48) : 10 ^ (l.length - 1) ≤ num l := by
  cases l with
  | nil => exact absurd rfl hne
  | cons c l =>
    simp only [List.all_cons, Bool.and_eq_true] at h
    simp only [List.head?_cons, ne_eq, Option.some.injEq] at hh
    have h1 := isD_iff.1 h.1
    have h2 : c.toNat ≠ 48 := fun e => hh (UInt8.toNat_inj.1 e)
    rw [show num (c :: l) = numA (10 * 0 + dv c) l from rfl, numA_eq, List.length_cons, Nat.add_sub_cancel]
    have : 1 * 10 ^ l.length ≤ (10 * 0 + dv c) * 10 ^ l.length := Nat.mul_le_mul_right _ (by unfold dv; omega)
    omega
theorem dd_uniq : ∀ (n : Nat) (l : List UInt8), l.length = n → canW l → Lib.decDigits (num l) = l
  | 0, l, hl, h => absurd (List.eq_nil_of_length_eq_zero hl) h.2.1
  | n + 1, l, hl, h => by
    obtain ⟨xs, c, rfl⟩ : ∃ xs c, l = xs ++ [c] := ⟨l.dropLast, l.getLast h.2.1, (List.dropLast_concat_getLast h.2.1).symm⟩
    obtain ⟨h1, h2, h3⟩ := h
    simp only [List.all_append, Bool.and_eq_true, List.all_cons, List.all_nil, Bool.and_true] at h1
    have hd := dv_lt h1.2
    rw [num_snoc]
    cases xs with
    | nil =>
      simp only [List.nil_append]
      rw [show num [] = 0 from rfl, dd_small (by omega), Nat.mul_zero, Nat.zero_add, of_dv h1.2]
    | cons a r =>
      have hh : (a :: r).head? ≠ some 48 := by
        have := h3 (by simp)
        simpa using this
      have hp := num_pos h1.1 (by simp) hh
      have hp1 : 1 ≤ num (a :: r) := Nat.le_trans (Nat.pos_of_ne_zero (by simp)) hp
      rw [dd_big (by omega), show (10 * num (a :: r) + dv c) / 10 = num (a :: r) by omega, show (10 * num (a :: r) + dv c) % 10 = dv c by omega, of_dv h1.2, dd_uniq n (a :: r) (by simpa using hl) ⟨h1.1, by simp, fun _ => hh⟩]

/-- Three digits without the zeros at their end. -/
def fr3 (a b c : UInt8) : List UInt8 := if c = 48 then (if b = 48 then (if a = 48 then [] else [a]) else [a, b]) else [a, b, c]
theorem trim3 (a b c : UInt8) : Lib.trimRightB [a, b, c] 48 = fr3 a b c := by
  unfold Lib.trimRightB fr3
  by_cases hc : c = 48
  · by_cases hb : b = 48
    · by_cases ha : a = 48
      · simp [hc, hb, ha]
      · simp [hc, hb, ha]
    · simp [hc, hb]
  · simp [hc]
def d3 (r : Nat) : UInt8 × UInt8 × UInt8 := (UInt8.ofNat (48 + r / 100), UInt8.ofNat (48 + r / 10 % 10), UInt8.ofNat (48 + r % 10))
theorem dd_1000 {r : Nat} (h : r < 1000) : (Lib.decDigits (1000 + r)).drop 1 = [(d3 r).1, (d3 r).2.1, (d3 r).2.2] := by
  rw [dd_big (by omega), dd_big (by omega), dd_big (by omega), dd_small (by omega)]
  simp only [List.append_assoc, List.cons_append, List.nil_append, List.drop_succ_cons, List.drop_zero, d3]
  rw [show (1000 + r) / 10 / 10 % 10 = r / 100 by omega, show (1000 + r) / 10 % 10 = r / 10 % 10 by omega, show (1000 + r) % 10 = r % 10 by omega]
def frac (r : Nat) : List UInt8 := fr3 (d3 r).1 (d3 r).2.1 (d3 r).2.2
/-- The text of a number. -/
def txtU (u : Nat) : List UInt8 := Lib.decDigits (u / 1000) ++ (if u % 1000 = 0 then [] else 46 :: frac (u % 1000))
def txtV (n : Int) : List UInt8 := (if n < 0 then [45] else []) ++ txtU n.natAbs
end Go.Proofs.YtijihbegfmkceaaDoor
