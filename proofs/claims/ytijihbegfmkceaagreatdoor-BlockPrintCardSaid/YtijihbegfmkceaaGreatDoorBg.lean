/-
  Layer 41: the reference's Value, both parsers and the text of a block.
-/
import Derived.Test.YtijihbegfmkceaaGreatDoorBc
namespace Go.Proofs.YtijihbegfmkceaaGreatDoor
open Go.RowKit
set_option linter.unusedVariables false
set_option linter.unusedSimpArgs false

abbrev V5 := Int × Int × Int × Bool × Bool
def vF (i206 : Nat) (c208 : UInt8) (v207 : V5) : Option (Ex (Ex (Int × Int) V5) V5) :=
        bindX (if (((i206 : Int) == 0) && ((c208.toNat : Int) == 45)) = true then
              some (.go (v207.1, v207.2.1, v207.2.2.1, true, v207.2.2.2.2))
            else
              if (((c208.toNat : Int) == 46) && ((decide (v207.2.2.1 < 0)) && (decide ((i206 : Int) > 0)))) = true then
                some (.go (v207.1, v207.2.1, 0, v207.2.2.2.1, v207.2.2.2.2))
              else
                if ((decide ((c208.toNat : Int) ≥ 48)) && ((decide ((c208.toNat : Int) ≤ 57)) && (decide (v207.2.2.1 < 0)))) = true then
                  if (decide ((IntKind.u64.wrap ((IntKind.u64.wrap (10 * v207.1)) + (IntKind.u64.wrap (IntKind.u8.wrap ((c208.toNat : Int) - 48))))) > 1000000000000)) = true then
                    some (.go (1000000000000, v207.2.1, v207.2.2.1, v207.2.2.2.1, true))
                  else
                    some (.go (IntKind.u64.wrap ((IntKind.u64.wrap (10 * v207.1)) + (IntKind.u64.wrap (IntKind.u8.wrap ((c208.toNat : Int) - 48)))), v207.2.1, v207.2.2.1, v207.2.2.2.1, v207.2.2.2.2))
                else
                  if ((decide ((c208.toNat : Int) ≥ 48)) && ((decide ((c208.toNat : Int) ≤ 57)) && (decide (v207.2.2.1 < 3)))) = true then
                    some (.go (v207.1, IntKind.u64.wrap ((IntKind.u64.wrap (10 * v207.2.1)) + (IntKind.u64.wrap (IntKind.u8.wrap ((c208.toNat : Int) - 48)))), IntKind.i64.wrap (v207.2.2.1 + 1), v207.2.2.2.1, v207.2.2.2.2))
                  else
                    some (.ret (.ret (.ret (0, 2))))) fun (v209 : Int × Int × Int × Bool × Bool) =>
        some (.go (v209.1, v209.2.1, v209.2.2.1, v209.2.2.2.1, v209.2.2.2.2))
def vD (v207 : V5) : Option (Ex (Int × Int) V5) := some (.go (v207.1, v207.2.1, v207.2.2.1, v207.2.2.2.1, v207.2.2.2.2))
theorem rx_go {α ε ν : Type} {f : Nat → α → ν → Option (Ex ε ν)} {d : ν → Option ε} {x : α} {l : List α} {i : Nat} {v v' : ν} (h : f i x v = some (.go v')) : rangeX f d (x :: l) i v = rangeX f d l (i + 1) v' := by
  conv => lhs; unfold rangeX
  rw [h]
theorem rx_ret {α ε ν : Type} {f : Nat → α → ν → Option (Ex ε ν)} {d : ν → Option ε} {x : α} {l : List α} {i : Nat} {v : ν} {e : ε} (h : f i x v = some (.ret e)) : rangeX f d (x :: l) i v = some e := by
  conv => lhs; unfold rangeX
  rw [h]
theorem tw_mem {p : UInt8 → Bool} : ∀ (l : List UInt8), (l.takeWhile p).all p = true
  | [] => rfl
  | c :: l => by
    rw [List.takeWhile_cons]
    cases h : p c with
    | true => rw [if_pos rfl, List.all_cons, h, tw_mem l]; rfl
    | false => rfl
theorem wrap_u8 (n : Int) : IntKind.u8.wrap n = n % 256 := by simp [IntKind.wrap, IntKind.bits, IntKind.signed]
theorem notD {c : UInt8} (h : isD c = false) : (decide ((c.toNat : Int) ≥ 48) && decide ((c.toNat : Int) ≤ 57)) = false := by
  rw [← h]
  unfold isD
  congr 1 <;> (rw [Bool.eq_iff_iff]; simp only [decide_eq_true_eq]; omega)
theorem c46 (c : UInt8) : ((c.toNat : Int) == 46) = (c == 46) := by
  rw [Bool.eq_iff_iff]
  simp only [beq_iff_eq]
  constructor
  · intro h; exact UInt8.toNat_inj.1 (by have : (46 : UInt8).toNat = 46 := rfl; omega)
  · intro h; subst h; rfl
theorem c45 (c : UInt8) : ((c.toNat : Int) == 45) = (c == 45) := by
  rw [Bool.eq_iff_iff]
  simp only [beq_iff_eq]
  constructor
  · intro h; exact UInt8.toNat_inj.1 (by have : (45 : UInt8).toNat = 45 := rfl; omega)
  · intro h; subst h; rfl
/-- The digits ahead of the point, not beyond the greatest. -/
def capS (v : Nat × Bool) (c : UInt8) : Nat × Bool := if 10 * v.1 + dv c > 1000000000000 then (1000000000000, true) else (10 * v.1 + dv c, v.2)
theorem vF_dig (i : Nat) (c : UInt8) (a : Nat) (b : Int) (neg g : Bool) (hc : isD c = true) (ha : a ≤ 1000000000000) : vF i c ((a : Int), b, -1, neg, g) = some (.go (((capS (a, g) c).1 : Int), b, -1, neg, (capS (a, g) c).2)) := by
  have h := isD_iff.1 hc
  obtain ⟨n1, n2⟩ := dig_ne hc
  unfold vF
  rw [c45, c46, show (c == 45) = false by simpa using n2, show (c == 46) = false by simpa using n1]
  simp only [Bool.and_false, Bool.false_eq_true, if_false, Bool.false_and]
  rw [decide_eq_true (show (c.toNat : Int) ≥ 48 by omega), decide_eq_true (show (c.toNat : Int) ≤ 57 by omega), decide_eq_true (show (-1 : Int) < 0 by omega)]
  simp only [Bool.and_self, if_true]
  have hw : IntKind.u64.wrap ((IntKind.u64.wrap (10 * (a : Int))) + (IntKind.u64.wrap (IntKind.u8.wrap ((c.toNat : Int) - 48)))) = ((10 * a + dv c : Nat) : Int) := by
    rw [wrap_u64, wrap_u64, wrap_u64, wrap_u8]
    unfold dv
    omega
  rw [hw]
  unfold capS
  simp only
  by_cases hb : 10 * a + dv c > 1000000000000
  · rw [decide_eq_true (show ((10 * a + dv c : Nat) : Int) > 1000000000000 by omega), if_pos rfl, if_pos hb]; rfl
  · rw [decide_eq_false (show ¬ ((10 * a + dv c : Nat) : Int) > 1000000000000 by omega), if_neg (by simp), if_neg hb]; rfl
theorem cap_le (v : Nat × Bool) (c : UInt8) : (capS v c).1 ≤ 1000000000000 := by
  unfold capS; split <;> simp; omega
theorem vF_digs : ∀ (w r : List UInt8) (i a : Nat) (neg g : Bool), w.all isD = true → a ≤ 1000000000000 → rangeX vF vD (w ++ r) i ((a : Int), 0, -1, neg, g) = rangeX vF vD r (i + w.length) (((w.foldl capS (a, g)).1 : Int), 0, -1, neg, (w.foldl capS (a, g)).2)
  | [], r, i, a, neg, g, _, _ => rfl
  | c :: w, r, i, a, neg, g, h, ha => by
    simp only [List.all_cons, Bool.and_eq_true] at h
    have ih := vF_digs w r (i + 1) (capS (a, g) c).1 neg (capS (a, g) c).2 h.2 (cap_le _ _)
    rw [List.cons_append, rx_go (vF_dig i c a 0 neg g h.1 ha), ih, List.foldl_cons, List.length_cons, show i + 1 + w.length = i + (w.length + 1) by omega]
theorem cap_max : ∀ (w : List UInt8) (g : Bool), w.foldl capS (1000000000000, true) = (1000000000000, true)
  | [], _ => rfl
  | c :: w, g => by
    rw [List.foldl_cons]
    have : capS (1000000000000, true) c = (1000000000000, true) := by unfold capS; rw [if_pos (by simp only; omega)]
    rw [this, cap_max w g]
theorem cap_num : ∀ (w : List UInt8) (a : Nat), a ≤ 1000000000000 → w.foldl capS (a, false) = if numA a w ≤ 1000000000000 then (numA a w, false) else (1000000000000, true)
  | [], a, h => by rw [numA_nil, if_pos h]; rfl
  | c :: w, a, h => by
    rw [List.foldl_cons, numA_cons]
    have hge := numA_ge w (10 * a + dv c)
    by_cases hb : 10 * a + dv c > 1000000000000
    · rw [show capS (a, false) c = (1000000000000, true) from if_pos hb, cap_max w false, if_neg (by omega)]
    · rw [show capS (a, false) c = (10 * a + dv c, false) from if_neg hb]
      exact cap_num w _ (by omega)
theorem vF_part (i : Nat) (c : UInt8) (A : Int) (b k : Nat) (neg g : Bool) (hc : isD c = true) (hb : b ≤ 1000000) (hk : k < 3) : vF i c (A, (b : Int), (k : Int), neg, g) = some (.go (A, ((10 * b + dv c : Nat) : Int), ((k + 1 : Nat) : Int), neg, g)) := by
  have h := isD_iff.1 hc
  obtain ⟨n1, n2⟩ := dig_ne hc
  unfold vF
  rw [c45, c46, show (c == 45) = false by simpa using n2, show (c == 46) = false by simpa using n1]
  simp only [Bool.and_false, Bool.false_eq_true, if_false, Bool.false_and]
  rw [decide_eq_true (show (c.toNat : Int) ≥ 48 by omega), decide_eq_true (show (c.toNat : Int) ≤ 57 by omega), decide_eq_false (show ¬ (k : Int) < 0 by omega), decide_eq_true (show (k : Int) < 3 by omega)]
  simp only [Bool.and_self, Bool.and_false, Bool.false_eq_true, if_false, if_true]
  have hw : IntKind.u64.wrap ((IntKind.u64.wrap (10 * (b : Int))) + (IntKind.u64.wrap (IntKind.u8.wrap ((c.toNat : Int) - 48)))) = ((10 * b + dv c : Nat) : Int) := by
    rw [wrap_u64, wrap_u64, wrap_u64, wrap_u8]
    unfold dv
    omega
  rw [hw, wrap_i64 (by omega) (by omega)]
  rfl
theorem vF_err (i : Nat) (c : UInt8) (v : V5) (h1 : ¬ (i = 0 ∧ c = 45)) (h2 : ¬ (c = 46 ∧ v.2.2.1 < 0 ∧ 0 < i)) (h3 : isD c = false ∨ 3 ≤ v.2.2.1) : vF i c v = some (.ret (.ret (0, 2))) := by
  unfold vF
  rw [c45, c46]
  have e1 : (((i : Int) == 0) && (c == 45)) = false := by
    by_cases q : i = 0
    · by_cases q2 : c = 45
      · exact absurd ⟨q, q2⟩ h1
      · simp [q2]
    · have : ((i : Int) == 0) = false := by simp; omega
      rw [this]; rfl
  have e2 : ((c == 46) && (decide (v.2.2.1 < 0) && decide ((i : Int) > 0))) = false := by
    by_cases q : c = 46
    · by_cases q2 : v.2.2.1 < 0
      · have : ¬ 0 < i := fun q3 => h2 ⟨q, q2, q3⟩
        have : decide ((i : Int) > 0) = false := decide_eq_false (by omega)
        rw [this]; simp
      · simp [q2]
    · simp [q]
  rw [e1, e2]
  simp only [Bool.false_eq_true, if_false]
  rcases h3 with h3 | h3
  · have := notD h3
    rw [← Bool.and_assoc, ← Bool.and_assoc, this]
    rfl
  · rw [decide_eq_false (show ¬ v.2.2.1 < 0 by omega), decide_eq_false (show ¬ v.2.2.1 < 3 by omega)]
    simp only [Bool.and_false, Bool.false_eq_true, if_false]
    rfl
theorem vF_parts : ∀ (p : List UInt8) (i : Nat) (A : Int) (b k : Nat) (neg g : Bool), 0 < i → k ≤ 3 → b < 10 ^ k → rangeX vF vD p i (A, (b : Int), (k : Int), neg, g) = if p.all isD = true ∧ k + p.length ≤ 3 then some (.go (A, (numA b p : Int), ((k + p.length : Nat) : Int), neg, g)) else some (.ret (0, 2))
  | [], i, A, b, k, neg, g, _, hk, _ => by
    rw [if_pos ⟨rfl, by simpa using hk⟩]; rfl
  | c :: p, i, A, b, k, neg, g, hi, hk, hb => by
    have hb3 : b ≤ 1000000 := by
      have : 10 ^ k ≤ 10 ^ 3 := Nat.pow_le_pow_right (by omega) hk
      omega
    by_cases hgo : isD c = true ∧ k < 3
    · rw [rx_go (vF_part i c A b k neg g hgo.1 hb3 hgo.2)]
      have hd := dv_lt hgo.1
      rw [vF_parts p (i + 1) A (10 * b + dv c) (k + 1) neg g (by omega) (by omega) (by rw [Nat.pow_succ]; omega), numA_cons]
      by_cases hq : p.all isD = true ∧ k + 1 + p.length ≤ 3
      · rw [if_pos hq, if_pos ⟨by simp [hgo.1, hq.1], by simp; omega⟩, List.length_cons, show k + 1 + p.length = k + (p.length + 1) by omega]
      · rw [if_neg hq, if_neg]
        rintro ⟨q1, q2⟩
        simp only [List.all_cons, Bool.and_eq_true, List.length_cons] at q1 q2
        exact hq ⟨q1.2, by omega⟩
    · rw [rx_ret (vF_err i c _ (by omega) (by simp only; omega) (by
        simp only
        cases hc : isD c with
        | false => exact .inl rfl
        | true => right; have : ¬ k < 3 := fun q => hgo ⟨hc, q⟩; omega)), if_neg]
      rintro ⟨q1, q2⟩
      simp only [List.all_cons, Bool.and_eq_true, List.length_cons] at q1 q2
      exact hgo ⟨q1.1, by omega⟩
/-- The loop over a text of a number. -/
def vRun (neg : Bool) (w p : List UInt8) (pt : Bool) : Ex (Int × Int) V5 :=
  .go (((w.foldl capS (0, false)).1 : Int), (num p : Int), (if pt = true then (p.length : Int) else -1), neg, (w.foldl capS (0, false)).2)
theorem dw_cases (l : List UInt8) : ∃ w r, l = w ++ r ∧ w.all isD = true ∧ (r = [] ∨ ∃ c q, r = c :: q ∧ isD c = false) := by
  refine ⟨l.takeWhile isD, l.dropWhile isD, List.takeWhile_append_dropWhile.symm, ?_, ?_⟩
  · exact tw_mem l
  · have := List.head?_dropWhile_not isD l
    cases hd : l.dropWhile isD with
    | nil => exact .inl rfl
    | cons c q => rw [hd] at this; exact .inr ⟨c, q, rfl, by simpa using this⟩
theorem vRun_eq (s : List UInt8) : ∃ neg body w p pt, strip s = (neg, body) ∧ cutV body = (w, p, pt) ∧ ((badV neg body w p pt = true ∧ rangeX vF vD s 0 (0, 0, -1, false, false) = some (.ret (0, 2))) ∨ (rangeX vF vD s 0 (0, 0, -1, false, false) = some (vRun neg w p pt) ∧ w.all isD = true ∧ (pt = true → p.all isD = true ∧ p.length ≤ 3) ∧ (pt = false → p = []) ∧ body = w ++ (if pt = true then 46 :: p else []) ∧ s = (if neg = true then [45] else []) ++ body)) := by
  have hs := strip_inv s
  obtain ⟨⟨neg, body⟩, hst⟩ : ∃ st, strip s = st := ⟨_, rfl⟩
  obtain ⟨⟨w, p, pt⟩, hcv⟩ : ∃ cv, cutV body = cv := ⟨_, rfl⟩
  refine ⟨neg, body, w, p, pt, hst, hcv, ?_⟩
  rw [hst] at hs
  simp only at hs
  have hb := cutV_inv body
  rw [hcv] at hb
  simp only at hb
  -- the sign
  have h0 : rangeX vF vD s 0 (0, 0, -1, false, false) = rangeX vF vD body (if neg = true then 1 else 0) (((0 : Nat) : Int), 0, -1, neg, false) := by
    rw [hs]
    cases neg with
    | false => rfl
    | true => rfl
  have hnd : neg = false → body.head? ≠ some 45 := by
    intro q e
    subst q
    cases s with
    | nil => cases hst; cases e
    | cons c r =>
      rw [strip_cons] at hst
      by_cases hc : c = 45
      · rw [if_pos hc] at hst; cases hst
      · rw [if_neg hc] at hst
        injection hst with _ hst
        subst hst
        exact hc (by simpa using e)
  obtain ⟨W, R, hWR, hW, hR⟩ := dw_cases body
  have hrun : ∀ i, rangeX vF vD body i (((0 : Nat) : Int), 0, -1, neg, false) = rangeX vF vD R (i + W.length) (((W.foldl capS (0, false)).1 : Int), 0, -1, neg, (W.foldl capS (0, false)).2) := fun i => by
    rw [hWR]; exact vF_digs W R i 0 neg false hW (by omega)
  rw [h0, hrun]
  rcases hR with rfl | ⟨c, q, rfl, hc⟩
  · right
    rw [List.append_nil] at hWR
    have h1 : cutV body = (W, [], false) := by
      have := cutV_of W [] false hW (fun _ => rfl)
      rw [if_neg (by simp), List.append_nil] at this
      rw [hWR]; exact this
    rw [hcv] at h1
    injection h1 with h1 h2
    injection h2 with h2 h3
    subst h1; subst h2; subst h3
    exact ⟨rfl, hW, (fun q => by cases q), (fun _ => rfl), hb.1, hs⟩
  · by_cases h46 : c = 46
    · subst h46
      have h1 : cutV body = (W, q, true) := by
        have := cutV_of W q true hW (fun q => by cases q)
        rw [if_pos rfl] at this
        rw [hWR]; exact this
      rw [hcv] at h1
      injection h1 with h1 h2
      injection h2 with h2 h3
      subst h1; subst h2; subst h3
      by_cases hpos : 0 < (if neg = true then 1 else 0) + w.length
      · have hdot : rangeX vF vD (46 :: p) ((if neg = true then 1 else 0) + w.length) (((w.foldl capS (0, false)).1 : Int), 0, -1, neg, (w.foldl capS (0, false)).2) = rangeX vF vD p ((if neg = true then 1 else 0) + w.length + 1) (((w.foldl capS (0, false)).1 : Int), ((0 : Nat) : Int), ((0 : Nat) : Int), neg, (w.foldl capS (0, false)).2) := by
          refine rx_go ?_
          unfold vF
          have e1 : ((((((if neg = true then 1 else 0) + w.length : Nat) : Int) == 0)) && (((46 : UInt8).toNat : Int) == 45)) = false := by
            rw [show ((((46 : UInt8).toNat : Int)) == 45) = false from rfl, Bool.and_false]
          have e2 : ((((46 : UInt8).toNat : Int) == 46) && ((decide ((-1 : Int) < 0)) && (decide ((((if neg = true then 1 else 0) + w.length : Nat) : Int) > 0)))) = true := by
            rw [show ((((46 : UInt8).toNat : Int)) == 46) = true from rfl, decide_eq_true (show (((if neg = true then 1 else 0) + w.length : Nat) : Int) > 0 by omega)]
            rfl
          rw [e1, if_neg (by simp), e2, if_pos rfl]
          rfl
        rw [hdot, vF_parts p _ _ 0 0 neg _ (by omega) (by omega) (by simp)]
        by_cases hq : p.all isD = true ∧ 0 + p.length ≤ 3
        · right
          rw [if_pos hq]
          refine ⟨?_, hW, fun _ => ⟨hq.1, by omega⟩, (fun q => by cases q), hb.1, hs⟩
          unfold vRun
          rw [if_pos rfl, Nat.zero_add]; rfl
        · left
          rw [if_neg hq]
          refine ⟨?_, rfl⟩
          unfold badV badP digB
          by_cases q1 : p.all isD = true
          · have : decide (3 < p.length) = true := decide_eq_true (Nat.lt_of_not_le fun q => hq ⟨q1, by omega⟩)
            rw [this]; simp
          · have : p.all isD = false := by simpa using q1
            rw [this]; simp
      · left
        have hneg : neg = false := by cases neg with | false => rfl | true => exact absurd (by rw [if_pos rfl]; omega) hpos
        subst hneg
        have hw0 : w = [] := List.eq_nil_of_length_eq_zero (by rw [if_neg (by simp)] at hpos; omega)
        subst hw0
        exact ⟨rfl, rx_ret (vF_err _ 46 _ (by rintro ⟨_, e⟩; cases e) (by rintro ⟨_, _, e⟩; exact absurd e (by simp)) (.inl rfl))⟩
    · left
      refine ⟨?_, ?_⟩
      · unfold badV
        have htw : w = (W ++ c :: q).takeWhile (· != 46) := by
          have := congrArg Prod.fst hcv
          rw [hWR] at this
          exact this.symm
        have hcw : c ∈ w := by
          rw [htw, List.takeWhile_append_of_pos (by
            intro a ha
            have := List.all_eq_true.1 hW a ha
            simpa using (dig_ne this).1)]
          rw [List.takeWhile_cons, if_pos (by simpa using h46)]
          simp
        have : digB w = false := by
          unfold digB
          have : w.all isD = false := by
            cases hh : w.all isD with
            | false => rfl
            | true => have := List.all_eq_true.1 hh c hcw; rw [hc] at this; cases this
          rw [this]; rfl
        rw [this]; rfl
      · refine rx_ret (vF_err _ c _ (by
          rintro ⟨e1, e2⟩
          have hneg : neg = false := by cases neg with | false => rfl | true => rw [if_pos rfl] at e1; omega
          have hw0 : W = [] := List.eq_nil_of_length_eq_zero (by omega)
          subst hw0
          apply hnd hneg
          rw [hWR, e2]; rfl) (fun e => h46 e.1) (.inl hc))

def cF (i139 : Nat) (c141 : UInt8) (v140 : Int) : Option (Ex Int Int) :=
        bindO (if ((c141.toNat : Int) == 46) = true then
              some (i139 : Int)
            else
              some v140) fun (v142 : Int) =>
        some (.go v142)
def cD (v140 : Int) : Option Int := some v140
theorem cF_digs : ∀ (w r : List UInt8) (i : Nat) (v : Int), w.all isD = true → rangeX cF cD (w ++ r) i v = rangeX cF cD r (i + w.length) v
  | [], _, _, _, _ => rfl
  | c :: w, r, i, v, h => by
    simp only [List.all_cons, Bool.and_eq_true] at h
    have hc : cF i c v = some (.go v) := by
      unfold cF
      rw [c46, show (c == 46) = false by simpa using (dig_ne h.1).1]; rfl
    rw [List.cons_append, rx_go hc, cF_digs w r (i + 1) v h.2, List.length_cons, show i + 1 + w.length = i + (w.length + 1) by omega]
theorem point_eq (w p : List UInt8) (pt : Bool) (v : Int) (hw : w.all isD = true) (hp : pt = true → p.all isD = true) : rangeX cF cD (w ++ (if pt = true then 46 :: p else [])) 0 v = some (if pt = true then (w.length : Int) else v) := by
  rw [cF_digs w _ 0 v hw, Nat.zero_add]
  cases pt with
  | false => rfl
  | true =>
    have h1 := cF_digs p [] (w.length + 1) (w.length : Int) (hp rfl)
    rw [List.append_nil] at h1
    have h2 : cF w.length 46 v = some (.go (w.length : Int)) := rfl
    rw [if_pos rfl, if_pos rfl, rx_go h2, h1]
    rfl
/-- The rest of the test, behind the sign. -/
def canB (body : List UInt8) : Option Bool :=
  bindO (guardO (okIdx body) (rangeX cF cD body 0 (body.length : Int))) fun (v124 : Int) =>
  bindO (if (v124 == 0) = true then
        some true
      else
        if (decide (v124 > 1)) = true then
          bindO (gt body 0) fun (c143 : UInt8) =>
          some ((c143.toNat : Int) == 48)
        else
          some false) fun (v144 : Bool) =>
  if v144 = true then
    some false
  else
    bindO (if (v124 == (body.length : Int)) = true then
          some true
        else
          if (decide (v124 < (IntKind.i64.wrap ((body.length : Int) - 1)))) = true then
            bindO (gt body (IntKind.i64.wrap ((body.length : Int) - 1))) fun (c145 : UInt8) =>
            some ((c145.toNat : Int) != 48)
          else
            some false) fun (v146 : Bool) =>
    some v146
def badB (w p : List UInt8) (pt : Bool) : Bool := !digB w || ((decide (1 < w.length) && w.head? == some 48) || (pt && (!digB p || p.getLast? == some 48)))
theorem canB_eq (w p : List UInt8) (pt : Bool) (hw : w.all isD = true) (hp : pt = true → p.all isD = true) (hl : (w ++ (if pt = true then 46 :: p else [])).length ≤ 1000000) : canB (w ++ (if pt = true then 46 :: p else [])) = some (!badB w p pt) := by
  obtain ⟨body, hb⟩ : ∃ body, body = w ++ (if pt = true then 46 :: p else []) := ⟨_, rfl⟩
  unfold canB
  rw [okIdx_of (by omega), guardO_t, point_eq w p pt _ hw hp, ← hb, bindO_s]
  rw [← hb] at hl
  have hv : (if pt = true then (w.length : Int) else (body.length : Int)) = (w.length : Int) := by
    cases pt with
    | true => rfl
    | false => rw [hb]; simp
  rw [hv]
  unfold badB
  cases w with
  | nil => rfl
  | cons c r =>
    have hd : digB (c :: r) = true := digB_of hw (by simp)
    rw [hd, show ((((c :: r).length : Nat) : Int) == 0) = false by simp; omega, if_neg (by simp)]
    have hg : gt body 0 = some c := by rw [hb]; rfl
    have e1 : decide (((c :: r).length : Int) > 1) = decide (1 < (c :: r).length) := by
      rw [Bool.eq_iff_iff]; simp only [decide_eq_true_eq]; omega
    rw [hg, e1, bindO_s, c48, show ((c :: r).head? == some 48) = (c == 48) from rfl]
    have hrest : (if ((((c :: r).length : Nat) : Int) == (body.length : Int)) = true then
          some true
        else
          if (decide ((((c :: r).length : Nat) : Int) < (IntKind.i64.wrap ((body.length : Int) - 1)))) = true then
            bindO (gt body (IntKind.i64.wrap ((body.length : Int) - 1))) fun (c145 : UInt8) =>
            some ((c145.toNat : Int) != 48)
          else
            some false) = some (!(pt && (!digB p || p.getLast? == some 48))) := by
      cases pt with
      | false =>
        rw [if_neg (by simp), List.append_nil] at hb
        rw [hb]
        simp
      | true =>
        rw [if_pos rfl] at hb
        have hlen : body.length = (c :: r).length + (p.length + 1) := by rw [hb]; simp; omega
        rw [show ((((c :: r).length : Nat) : Int) == (body.length : Int)) = false by rw [hlen]; simp; omega, if_neg (by simp)]
        cases hpn : p with
        | nil =>
          rw [hpn] at hlen
          rw [wrap_i64 (by omega) (by omega), decide_eq_false (by simp only [List.length_nil] at hlen; omega)]
          rfl
        | cons a q =>
          have hpne : p ≠ [] := by rw [hpn]; simp
          have hbne : body ≠ [] := by rw [hb]; simp
          obtain ⟨x, h1, h2⟩ := last_gt body hbne hl
          have hlast : body.getLast? = p.getLast? := by
            rw [hb, List.getLast?_append, List.getLast?_cons, hpn]
            simp [List.getLast?_cons]
          rw [hlast, hpn] at h2
          have hpos : 0 < p.length := List.length_pos_iff.2 hpne
          have hdp : digB (a :: q) = true := by rw [← hpn]; exact digB_of (hp rfl) hpne
          rw [decide_eq_true (show (((c :: r).length : Nat) : Int) < IntKind.i64.wrap ((body.length : Int) - 1) by rw [wrap_i64 (by omega) (by omega)]; omega), if_pos rfl, h1, bindO_s, hdp, h2]
          have : ((x.toNat : Int) != 48) = !(x == 48) := by
            show (!((x.toNat : Int) == 48)) = _
            rw [c48]
          rw [this]
          rfl
    rw [hrest]
    cases decide (1 < (c :: r).length) <;> cases (c == 48) <;> cases (pt && (!digB p || p.getLast? == some 48)) <;> rfl
theorem canon_eq (neg : Bool) (w p : List UInt8) (pt : Bool) (hw : w.all isD = true) (hp : pt = true → p.all isD = true ∧ p.length ≤ 3) (hp0 : pt = false → p = []) (hl : (w ++ (if pt = true then 46 :: p else [])).length ≤ 100000) :
    r41_canonical ((if neg = true then [45] else []) ++ (w ++ (if pt = true then 46 :: p else []))) = some (!badV neg (w ++ (if pt = true then 46 :: p else [])) w p pt) := by
  have hB := canB_eq w p pt hw (fun q => (hp q).1) (by omega)
  have hbad : badV neg (w ++ (if pt = true then 46 :: p else [])) w p pt = (badB w p pt || (neg && (w ++ (if pt = true then 46 :: p else [])) == [48])) := by
    unfold badV badB badP
    have h3 : (pt && (!digB p || (decide (3 < p.length) || p.getLast? == some 48))) = (pt && (!digB p || p.getLast? == some 48)) := by
      cases pt with
      | false => rfl
      | true => rw [decide_eq_false (show ¬ 3 < p.length by have := (hp rfl).2; omega), Bool.false_or]
    rw [h3]
    cases digB w <;> cases (decide (1 < w.length) && w.head? == some 48) <;> cases (pt && (!digB p || p.getLast? == some 48)) <;> rfl
  have hhead : (w ++ (if pt = true then 46 :: p else [])).head? ≠ some 45 := by
    cases w with
    | nil => cases pt <;> simp
    | cons c r =>
      simp only [List.all_cons, Bool.and_eq_true] at hw
      simp only [List.cons_append, List.head?_cons, ne_eq, Option.some.injEq]
      exact (dig_ne hw.1).2
  generalize w ++ (if pt = true then 46 :: p else []) = body at *
  rw [hbad]
  have hsame : ∀ l : List UInt8, (bindO (guardO (okIdx l) (
      rangeX (fun (i139 : Nat) (c141 : UInt8) (v140 : Int) =>
        bindO (if ((c141.toNat : Int) == 46) = true then
              some (i139 : Int)
            else
              some v140) fun (v142 : Int) =>
        some (.go v142)) (fun (v140 : Int) => some v140) l 0 (l.length : Int))) fun (v124 : Int) =>
  bindO (if (v124 == 0) = true then
        some true
      else
        if (decide (v124 > 1)) = true then
          bindO (gt l 0) fun (c143 : UInt8) =>
          some ((c143.toNat : Int) == 48)
        else
          some false) fun (v144 : Bool) =>
  if v144 = true then
    some false
  else
    bindO (if (v124 == (l.length : Int)) = true then
          some true
        else
          if (decide (v124 < (IntKind.i64.wrap ((l.length : Int) - 1)))) = true then
            bindO (gt l (IntKind.i64.wrap ((l.length : Int) - 1))) fun (c145 : UInt8) =>
            some ((c145.toNat : Int) != 48)
          else
            some false) fun (v146 : Bool) =>
    some v146) = canB l := fun l => rfl
  unfold r41_canonical
  simp only [hsame]
  cases neg with
  | true =>
    have h1 : decide (((([45] : List UInt8) ++ body).length : Int) > 0) = true := decide_eq_true (by simp)
    rw [if_pos rfl, h1, if_pos rfl, show gt (([45] : List UInt8) ++ body) 0 = some 45 from rfl, bindO_s, bindO_s]
    rw [show (((45 : UInt8).toNat : Int) == 45) = true from rfl, if_pos rfl]
    have h2 : ((([45] : List UInt8) ++ body) == [45, 48]) = (body == [48]) := rfl
    rw [h2, Bool.true_and]
    cases (body == [48]) with
    | true => rw [Bool.or_true]; rfl
    | false =>
      have h3 : cutF (([45] : List UInt8) ++ body) 1 = some body := by unfold cutF; rw [if_neg (by simp; omega)]; rfl
      rw [if_neg (by simp), h3, bindO_s, bindX_g, hB, Bool.or_false]
  | false =>
    rw [show ((if false = true then ([45] : List UInt8) else []) ++ body) = body from rfl, Bool.false_and, Bool.or_false]
    have h1 : (if (decide ((body.length : Int) > 0)) = true then
        bindO (gt body 0) fun (c101 : UInt8) =>
        some ((c101.toNat : Int) == 45)
      else
        some false) = some false := by
      cases body with
      | nil => rfl
      | cons c r =>
        rw [decide_eq_true (show ((c :: r).length : Int) > 0 by simp), if_pos rfl, show gt (c :: r) 0 = some c from rfl, bindO_s, c45]
        have : (c == 45) = false := by
          simp only [List.head?_cons, ne_eq, Option.some.injEq] at hhead
          simpa using hhead
        rw [this]
    rw [h1, bindO_s, if_neg (by simp), bindX_g, hB]
theorem places_eq (b k : Nat) (pt : Bool) (hb : b < 1000) (hk : pt = true → 1 ≤ k ∧ k ≤ 3) : loopX (fun (v223 : Int × Int) =>
          if ((decide (v223.2 ≥ 0)) && (decide (v223.2 < 3))) = true then
            some (.go (IntKind.u64.wrap (10 * v223.1), IntKind.i64.wrap (v223.2 + 1)))
          else
            some (.ret v223.1)) fuel ((b : Int), (if pt = true then (k : Int) else -1)) = some (((if pt = true then b * 10 ^ (3 - k) else b : Nat)) : Int) := by
  cases pt with
  | false =>
    have key : Tot (loopX (fun (v223 : Int × Int) =>
          if ((decide (v223.2 ≥ 0)) && (decide (v223.2 < 3))) = true then
            some (.go (IntKind.u64.wrap (10 * v223.1), IntKind.i64.wrap (v223.2 + 1)))
          else
            some (.ret v223.1)) fuel ((b : Int), -1)) (fun o => o = (b : Int)) := by
      refine Tot.loop (fun m v => v = ((b : Int), -1)) _ 0 (fuel_gt (by omega)) rfl (fun m v hr => ?_)
      subst hr
      exact .ret rfl
    obtain ⟨o, ho, rfl⟩ := key
    exact ho
  | true =>
    obtain ⟨k1, k3⟩ := hk rfl
    rw [if_pos rfl, if_pos rfl]
    have key : Tot (loopX (fun (v223 : Int × Int) =>
          if ((decide (v223.2 ≥ 0)) && (decide (v223.2 < 3))) = true then
            some (.go (IntKind.u64.wrap (10 * v223.1), IntKind.i64.wrap (v223.2 + 1)))
          else
            some (.ret v223.1)) fuel ((b : Int), (k : Int))) (fun o => o = ((b * 10 ^ (3 - k) : Nat) : Int)) := by
      refine Tot.loop (fun m v => ∃ j : Nat, v = (((b * 10 ^ j : Nat) : Int), ((k + j : Nat) : Int)) ∧ k + j ≤ 3 ∧ m = 3 - k - j) _ (3 - k) (fuel_gt (by omega)) ⟨0, by simp, by omega, by omega⟩ (fun m v hr => ?_)
      obtain ⟨j, rfl, hj, hm⟩ := hr
      have hpow : b * 10 ^ j ≤ 1000 * 100 := by
        have : 10 ^ j ≤ 10 ^ 2 := Nat.pow_le_pow_right (by omega) (by omega)
        exact Nat.mul_le_mul (by omega) this
      refine TotX.ite (fun h => .go ⟨3 - k - (j + 1), ?_, j + 1, ?_, ?_, rfl⟩) (fun h => .ret ?_)
      · simp only [Bool.and_eq_true, decide_eq_true_eq] at h; omega
      · simp only [Bool.and_eq_true, decide_eq_true_eq] at h
        rw [wrap_u64, wrap_i64 (by omega) (by omega), Nat.pow_succ, ← Nat.mul_assoc]
        congr 1 <;> omega
      · simp only [Bool.and_eq_true, decide_eq_true_eq] at h; omega
      · simp only [Bool.and_eq_false_iff, decide_eq_false_iff_not] at h
        have : j = 3 - k := by omega
        rw [this]
    obtain ⟨o, ho, rfl⟩ := key
    exact ho
theorem num_zer (k : Nat) : num (zer k) = 0 := by
  induction k with
  | zero => rfl
  | succ k ih =>
    have : zer (k + 1) = zer k ++ [48] := by
      unfold zer
      rw [List.replicate_succ']
    rw [this, num_snoc, ih]; rfl
theorem r41_Value_eq (s : List UInt8) (hs : s.length ≤ 100000) : r41_Value s = some (valV s) := by
  obtain ⟨neg, body, w, p, pt, h1, h2, h3⟩ := vRun_eq s
  have hv : valV s = if badV neg body w p pt = true then (0, 2) else valN neg w p := by
    unfold valV; rw [h1]; simp only; rw [h2]
  have hun : r41_Value s = bindX (guardO (okIdx s) (rangeX vF vD s 0 (0, 0, -1, false, false))) fun (v155 : Int × Int × Int × Bool × Bool) =>
  bindO (r41_canonical s) fun (y210 : Bool) =>
  if (!y210) = true then
    some (0, 2)
  else
    bindO (loopX (fun (v223 : Int × Int) =>
          if ((decide (v223.2 ≥ 0)) && (decide (v223.2 < 3))) = true then
            some (.go (IntKind.u64.wrap (10 * v223.1), IntKind.i64.wrap (v223.2 + 1)))
          else
            some (.ret v223.1)) fuel (v155.2.1, v155.2.2.1)) fun (v217 : Int) =>
    if (v155.2.2.2.2 || (decide ((IntKind.u64.wrap ((IntKind.u64.wrap (1000 * v155.1)) + v217)) > 1000000000000))) = true then
      some (0, 11)
    else
      if v155.2.2.2.1 = true then
        some (IntKind.i64.wrap (0 - (IntKind.i64.wrap (IntKind.u64.wrap ((IntKind.u64.wrap (1000 * v155.1)) + v217)))), 0)
      else
        some (IntKind.i64.wrap (IntKind.u64.wrap ((IntKind.u64.wrap (1000 * v155.1)) + v217)), 0) := rfl
  rw [hun, okIdx_of (by omega), guardO_t, hv]
  rcases h3 with ⟨h3, h4⟩ | ⟨h3, hw, hp, hp0, hb, hsb⟩
  · rw [h3, h4, if_pos rfl]; rfl
  · rw [h3]
    unfold vRun
    rw [bindX_g]
    have hbl : body.length ≤ s.length := by rw [hsb]; simp
    have hcan := canon_eq neg w p pt hw hp hp0 (by rw [← hb]; omega)
    rw [← hb, ← hsb] at hcan
    rw [hcan, bindO_s]
    cases hbad : badV neg body w p pt with
    | true => rfl
    | false =>
      simp only [Bool.not_false, Bool.not_true, Bool.false_eq_true, if_false]
      obtain ⟨hcw, hpp, hnz⟩ := good_parts hbad
      have hnp : num p < 1000 ∧ (pt = true → 1 ≤ p.length ∧ p.length ≤ 3) := by
        cases pt with
        | false => rw [hp0 rfl]; exact ⟨by decide, fun q => by cases q⟩
        | true =>
          obtain ⟨a1, a2, a3, _⟩ := hpp rfl
          have := num_lt p a1
          have h5 : (10 : Nat) ^ p.length ≤ 10 ^ 3 := Nat.pow_le_pow_right (by omega) a3
          exact ⟨by omega, fun _ => ⟨List.length_pos_iff.2 a2, a3⟩⟩
      rw [places_eq (num p) p.length pt hnp.1 hnp.2, bindO_s]
      have hT : (if pt = true then num p * 10 ^ (3 - p.length) else num p) = num (p ++ zer (3 - p.length)) := by
        rw [num_app, num_zer]
        have hzl : (zer (3 - p.length)).length = 3 - p.length := by simp [zer]
        rw [hzl]
        cases pt with
        | true => simp
        | false => rw [hp0 rfl]; rfl
      have hpl : p.length ≤ 3 := by
        cases pt with
        | true => exact (hnp.2 rfl).2
        | false => rw [hp0 rfl]; simp
      have hTl : num (p ++ zer (3 - p.length)) < 1000 := by
        have h5 := num_lt (p ++ zer (3 - p.length)) (by
          rw [List.all_append, zer_dig]
          cases pt with
          | true => rw [(hp rfl).1]; rfl
          | false => rw [hp0 rfl]; rfl)
        have h6 : (p ++ zer (3 - p.length)).length = 3 := by simp [zer]; omega
        rw [h6] at h5
        exact h5
      have hN : num (w ++ p ++ zer (3 - p.length)) = 1000 * num w + num (p ++ zer (3 - p.length)) := by
        rw [List.append_assoc, num_app]
        have h6 : (p ++ zer (3 - p.length)).length = 3 := by simp [zer]; omega
        rw [h6]
        omega
      rw [hT]
      unfold valN
      rw [hN]
      have hcap := cap_num w 0 (by omega)
      have hnum0 : numA 0 w = num w := rfl
      rw [hnum0] at hcap
      generalize num (p ++ zer (3 - p.length)) = T at *
      by_cases hbig : num w ≤ 1000000000000
      · rw [if_pos hbig] at hcap
        rw [hcap]
        simp only [Bool.false_or]
        have hwv : IntKind.u64.wrap (IntKind.u64.wrap (1000 * (num w : Int)) + (T : Int)) = ((1000 * num w + T : Nat) : Int) := by
          rw [wrap_u64, wrap_u64]; omega
        rw [hwv]
        by_cases h10 : w.length > 10
        · rw [if_pos h10]
          have hge := num_pos hw hcw.2.1 (hcw.2.2 (by omega))
          have h5 : (10 : Nat) ^ 10 ≤ 10 ^ (w.length - 1) := Nat.pow_le_pow_right (by omega) (by omega)
          rw [decide_eq_true (show ((1000 * num w + T : Nat) : Int) > 1000000000000 by omega), if_pos rfl]
        · rw [if_neg h10]
          by_cases hM : 1000 * num w + T > 1000000000000
          · rw [decide_eq_true (show ((1000 * num w + T : Nat) : Int) > 1000000000000 by omega), if_pos rfl, if_pos hM]
          · rw [decide_eq_false (show ¬ ((1000 * num w + T : Nat) : Int) > 1000000000000 by omega), if_neg (by simp), if_neg hM]
            have hwi : IntKind.i64.wrap ((1000 * num w + T : Nat) : Int) = ((1000 * num w + T : Nat) : Int) := wrap_i64 (by omega) (by omega)
            rw [hwi]
            cases neg with
            | true => rw [if_pos rfl, if_pos rfl, wrap_i64 (by omega) (by omega), Int.zero_sub]
            | false => rfl
      · rw [if_neg hbig] at hcap
        rw [hcap]
        have h10 : w.length > 10 ∨ w.length ≤ 10 := by omega
        simp only [Bool.true_or, if_true]
        rcases h10 with h10 | h10
        · rw [if_pos h10]
        · rw [if_neg (by omega), if_pos (by omega)]

def prn (c : UInt8) : Bool := decide ((c.toNat : Int) ≥ 32) && (decide ((c.toNat : Int) ≤ 126) && (((c.toNat : Int) != 40) && ((c.toNat : Int) != 41)))
def nch (c : UInt8) : Bool := isD c || (c == 45 || c == 46)
abbrev PR := ApiBlock × Int × Int
def badR (a : Nat) (e : Int) : PR := (ApiBlock.mk false [] [], (a : Int), e)
/-- A comment, behind its '('. -/
def prC (sk : Bool) (ws : List ApiWord) (a : Nat) (r : List UInt8) : PR :=
  if (r.takeWhile prn).length > 100 then badR a 3
  else if r.takeWhile prn = [] ∨ (r.dropWhile prn).head? ≠ some 41 then badR (a + 1 + (r.takeWhile prn).length) 2
  else if (r.dropWhile prn).drop 1 ≠ [] then badR (a + 1 + (r.takeWhile prn).length + 1) 2
  else (ApiBlock.mk sk ws (r.takeWhile prn), 0, 0)
def wordV (c : UInt8) (t : List UInt8) : ApiWord := ApiWord.mk (c.toNat : Int) (valV t).1
/-- What follows a word. -/
def prN (sk : Bool) (a : Nat) (ws : List ApiWord) (K : Nat → List UInt8 → PR) : List UInt8 → PR
  | [] => (ApiBlock.mk sk ws [], 0, 0)
  | d :: q => if d ≠ 32 then badR a 2 else K (a + 1) q
theorem prN_eq (sk : Bool) (a : Nat) (ws : List ApiWord) (K : Nat → List UInt8 → PR) (q : List UInt8) : prN sk a ws K (32 :: q) = K (a + 1) q := rfl
theorem prN_ne (sk : Bool) (a : Nat) (ws : List ApiWord) (K : Nat → List UInt8 → PR) {d : UInt8} (q : List UInt8) (h : d ≠ 32) : prN sk a ws K (d :: q) = badR a 2 := if_pos h
def prW (sk : Bool) : Nat → Bool → Nat → List ApiWord → List UInt8 → PR
  | 0, _, a, _, _ => badR a 2
  | _ + 1, sp, a, ws, [] => if sp = true then badR a 2 else (ApiBlock.mk sk ws [], 0, 0)
  | n + 1, _, a, ws, c :: r =>
    if c = 40 then prC sk ws a r
    else if c.toNat < 65 ∨ c.toNat > 90 then badR a 2
    else if ws.length = 16 then badR a 3
    else if (valV (r.takeWhile nch)).2 ≠ 0 then badR a (valV (r.takeWhile nch)).2
    else prN sk (a + 1 + (r.takeWhile nch).length) (ws ++ [wordV c (r.takeWhile nch)]) (fun b q => prW sk n true b (ws ++ [wordV c (r.takeWhile nch)]) q) (r.dropWhile nch)
def prsV (s : List UInt8) : PR := if s.head? = some 47 then prW true (s.length + 1) false 1 [] (s.drop 1) else prW false (s.length + 1) false 0 [] s

theorem scan {s : List UInt8} {p : UInt8 → Bool} {f : Int → Option (Ex Int Int)} (hs : s.length ≤ 1000000) (h1 : ∀ (i : Nat) c, s[i]? = some c → f (i : Int) = if p c = true then some (.go ((i + 1 : Nat) : Int)) else some (.ret (i : Int))) (h2 : f (s.length : Int) = some (.ret (s.length : Int))) (a : Nat) (ha : a ≤ s.length) :
    loopX f fuel (a : Int) = some ((a + ((s.drop a).takeWhile p).length : Nat) : Int) := by
  have key : Tot (loopX f fuel (a : Int)) (fun o => o = ((a + ((s.drop a).takeWhile p).length : Nat) : Int)) := by
    refine Tot.loop (fun m v => ∃ i : Nat, v = (i : Int) ∧ i ≤ s.length ∧ m = s.length - i ∧ i + ((s.drop i).takeWhile p).length = a + ((s.drop a).takeWhile p).length) _ (s.length - a) (fuel_gt (by omega)) ⟨a, rfl, ha, rfl, rfl⟩ (fun m v hr => ?_)
    obtain ⟨i, rfl, hi, hm, ht⟩ := hr
    rcases Nat.eq_or_lt_of_le hi with e | q
    · subst e
      rw [h2]
      refine .ret ?_
      rw [← ht]; simp
    · have hx := List.getElem?_eq_getElem q
      rw [h1 i _ hx]
      rw [List.drop_eq_getElem_cons q, List.takeWhile_cons] at ht
      cases hp : p s[i] with
      | true =>
        rw [hp, if_pos rfl, List.length_cons] at ht
        rw [if_pos rfl]
        exact .go ⟨s.length - (i + 1), by omega, i + 1, rfl, by omega, rfl, by omega⟩
      | false =>
        rw [hp, if_neg (by simp), List.length_nil] at ht
        rw [if_neg (by simp)]
        refine .ret ?_
        rw [← ht]; rfl
  obtain ⟨o, ho, rfl⟩ := key
  exact ho
theorem len_eq_last {s : List UInt8} {i : Nat} {c : UInt8} (h : s[i]? = some c) : ((i : Int) == (s.length : Int)) = false := by
  have := getElem_lt h
  simp; omega
theorem cut_mid {s r t : List UInt8} {a : Nat} {p : UInt8 → Bool} (hd : s.drop a = r) (ht : r.takeWhile p = t) (ha : a ≤ s.length) (hs : s.length ≤ 1000000) : cutL s (a : Int) ((a + t.length : Nat) : Int) = some t := by
  have hl := (tw_len p r).1
  have hrl : r.length = s.length - a := by rw [← hd]; simp
  rw [ht] at hl
  unfold cutL
  rw [if_neg (by omega)]
  congr 1
  rw [Int.toNat_natCast, Int.toNat_natCast, hd, ← ht]
  have := List.takeWhile_append_dropWhile (p := p) (l := r)
  conv => lhs; arg 2; rw [← this]
  rw [List.take_left' (by omega)]
theorem drop_tw {s r : List UInt8} {a : Nat} {p : UInt8 → Bool} (hd : s.drop a = r) : s.drop (a + (r.takeWhile p).length) = r.dropWhile p := by
  rw [← List.drop_drop, hd]
  have := List.takeWhile_append_dropWhile (p := p) (l := r)
  conv => lhs; arg 2; rw [← this]
  rw [List.drop_left' rfl]
theorem dw_at {s r : List UInt8} {a : Nat} {p : UInt8 → Bool} (hd : s.drop a = r) : s[a + (r.takeWhile p).length]? = (r.dropWhile p).head? := by
  have := drop_tw (p := p) hd
  rw [← this, List.head?_drop]
theorem number_eq (c : UInt8) : r41_number (c.toNat : Int) = some (nch c) := by
  unfold r41_number nch
  rw [c45, c46]
  have h : isD c = (decide ((c.toNat : Int) ≥ 48) && decide ((c.toNat : Int) ≤ 57)) := by
    unfold isD
    congr 1 <;> (rw [Bool.eq_iff_iff]; simp only [decide_eq_true_eq]; omega)
  rw [h]
  cases decide ((c.toNat : Int) ≥ 48) <;> simp
theorem c40 (c : UInt8) : ((c.toNat : Int) == 40) = decide (c = 40) := by
  rw [Bool.eq_iff_iff]
  simp only [beq_iff_eq, decide_eq_true_eq]
  constructor
  · intro h; exact UInt8.toNat_inj.1 (by have : (40 : UInt8).toNat = 40 := rfl; omega)
  · intro h; subst h; rfl
theorem c41 (c : UInt8) : ((c.toNat : Int) != 41) = decide (c ≠ 41) := by
  rw [Bool.eq_iff_iff]
  simp only [bne_iff_ne, ne_eq, decide_eq_true_eq]
  constructor
  · intro h e; subst e; exact h rfl
  · intro h e; exact h (UInt8.toNat_inj.1 (by have : (41 : UInt8).toNat = 41 := rfl; omega))
theorem c32 (c : UInt8) : ((c.toNat : Int) != 32) = decide (c ≠ 32) := by
  rw [Bool.eq_iff_iff]
  simp only [bne_iff_ne, ne_eq, decide_eq_true_eq]
  constructor
  · intro h e; subst e; exact h rfl
  · intro h e; exact h (UInt8.toNat_inj.1 (by have : (32 : UInt8).toNat = 32 := rfl; omega))
theorem c47 (c : UInt8) : ((c.toNat : Int) != 47) = decide (c ≠ 47) := by
  rw [Bool.eq_iff_iff]
  simp only [bne_iff_ne, ne_eq, decide_eq_true_eq]
  constructor
  · intro h e; subst e; exact h rfl
  · intro h e; exact h (UInt8.toNat_inj.1 (by have : (47 : UInt8).toNat = 47 := rfl; omega))
theorem valV_err (s : List UInt8) : (valV s).2 = 0 ∨ (valV s).2 = 2 ∨ (valV s).2 = 11 := by
  unfold valV valN
  split
  · exact .inr (.inl rfl)
  · split
    · exact .inr (.inr rfl)
    · split
      · exact .inr (.inr rfl)
      · exact .inl rfl

/-- What the block's parser ends with. -/
def bkOut (r : Int × BlockParser) : PR := if (r.1 != 0) = true then (ApiBlock.mk false [] [], r.2.at_, r.1) else (r.2.b, 0, 0)
set_option maxHeartbeats 4000000 in
theorem bk_Parse_tot (s : List UInt8) (hs : s.length ≤ 65536) : Tot (bk_Parse s) (fun r => r = prsV s) := by
  unfold bk_Parse
  refine Tot.ite (fun h => absurd (of_decide_eq_true h) (by omega)) (fun _ => ?_)
  refine Tot.bind (E := fun r => bkOut r = prsV s) ?_ (fun r hr => ?_)
  · refine Tot.bind (E := fun x : Bool × Int => x = if s.head? = some 47 then (true, 1) else (false, 0)) ?_ (fun x hx => ?_)
    · cases s with
      | nil => exact .ok rfl
      | cons c q =>
        have h0 : ((0 : Int) == (((c :: q).length : Nat) : Int)) = false := by simp; omega
        rw [bindO_s, h0, if_neg (by simp), show gt (c :: q) 0 = some c from rfl, bindO_s, bindO_s, c47]
        by_cases hc : c = 47
        · subst hc; exact .ok rfl
        · rw [decide_eq_true hc, if_pos rfl]
          refine .ok ?_
          rw [if_neg (by simpa using hc)]
    · obtain ⟨sk, a0, hx2, ha0, hT⟩ : ∃ (sk : Bool) (a0 : Nat), x = (sk, (a0 : Int)) ∧ a0 ≤ s.length ∧ prsV s = prW sk (s.length + 1) false a0 [] (s.drop a0) := by
        unfold prsV
        by_cases hc : s.head? = some 47
        · rw [if_pos hc] at hx ⊢
          refine ⟨true, 1, hx, ?_, rfl⟩
          cases s with
          | nil => cases hc
          | cons c q => simp
        · rw [if_neg hc] at hx ⊢
          exact ⟨false, 0, hx, by omega, rfl⟩
      subst hx2
      rw [hT]
      generalize hTT : prW sk (s.length + 1) false a0 [] (s.drop a0) = T
      refine Tot.loop (fun m v => ∃ (sp : Bool) (a : Nat) (ws : List ApiWord), v = (sp, BlockParser.mk s (a : Int) (ApiBlock.mk sk ws [])) ∧ a ≤ s.length ∧ ws.length ≤ 16 ∧ s.length - a < m ∧ prW sk m sp a ws (s.drop a) = T) _ (s.length + 1) (fuel_gt (by omega)) ⟨false, a0, [], rfl, ha0, by simp, by omega, hTT⟩ (fun m v hr => ?_)
      obtain ⟨sp, a, ws, rfl, ha, hws, hm, ht⟩ := hr
      obtain ⟨n, rfl⟩ : ∃ n, m = n + 1 := ⟨m - 1, by omega⟩
      simp only [bindO_s]
      rcases Nat.eq_or_lt_of_le ha with e | hlt
      · have hnil : s.drop a = [] := by rw [e]; simp
        rw [hnil] at ht
        rw [show ((a : Int) == (s.length : Int)) = true by simp; omega, if_pos rfl]
        cases sp with
        | true => rw [if_pos rfl]; exact .ret (by rw [← ht]; rfl)
        | false => rw [if_neg (by simp)]; exact .ret (by rw [← ht]; rfl)
      · obtain ⟨c, hc⟩ : ∃ c, s[a]? = some c := ⟨_, List.getElem?_eq_getElem hlt⟩
        have hdr : s.drop a = c :: s.drop (a + 1) := by
          rw [List.drop_eq_getElem_cons hlt]
          rw [List.getElem?_eq_getElem hlt] at hc; injection hc with hc; rw [hc]
        obtain ⟨r, hr⟩ : ∃ r, s.drop (a + 1) = r := ⟨_, rfl⟩
        rw [hdr, hr] at ht
        have hw1 : IntKind.i64.wrap ((a : Int) + 1) = ((a + 1 : Nat) : Int) := by rw [wrap_i64 (by omega) (by omega)]; omega
        have hrl : r.length = s.length - (a + 1) := by rw [← hr]; simp
        rw [len_eq_last hc, if_neg (by simp), gt_k hc, bindO_s, c40, hw1]
        unfold prW at ht
        by_cases h40 : c = 40
        · -- a comment
          rw [if_pos h40] at ht
          rw [decide_eq_true h40, if_pos rfl]
          rw [scan (s := s) (p := prn) (by omega) (fun i x hx => by
            rw [len_eq_last hx, if_neg (by simp), gt_k hx, bindO_s]
            unfold bk_printable
            rw [bindO_s, bindO_s, wrap_i64 (by omega) (by have := getElem_lt hx; omega)]
            rfl) (by rw [beq_self_eq_true, if_pos rfl]; rfl) (a + 1) (by omega), bindO_s, hr]
          have htl := (tw_len prn r).1
          rw [cut_mid (p := prn) hr rfl (by omega) (by omega), bindO_s]
          unfold prC at ht
          by_cases h100 : (r.takeWhile prn).length > 100
          · rw [if_pos h100] at ht
            rw [decide_eq_true (show (((r.takeWhile prn).length : Nat) : Int) > 100 by omega), if_pos rfl, bindO_s]
            exact .ret (by rw [← ht]; rfl)
          · rw [if_neg h100] at ht
            rw [decide_eq_false (show ¬ (((r.takeWhile prn).length : Nat) : Int) > 100 by omega), if_neg (by simp)]
            by_cases hnil : r.takeWhile prn = []
            · rw [if_pos (.inl hnil)] at ht
              rw [hnil] at ht ⊢
              exact .ret (by rw [← ht]; rfl)
            · have hbe : (r.takeWhile prn == []) = false := by simpa using hnil
              rw [hbe, if_neg (by simp)]
              have hat := dw_at (p := prn) hr
              rcases Nat.eq_or_lt_of_le (show a + 1 + (r.takeWhile prn).length ≤ s.length by omega) with e | hlt2
              · have hh : (r.dropWhile prn).head? = none := by rw [← hat, e]; simp
                rw [if_pos (.inr (by rw [hh]; simp))] at ht
                rw [show (((a + 1 + (r.takeWhile prn).length : Nat) : Int) == (s.length : Int)) = true by simp; omega, if_pos rfl]
                exact .ret (by rw [← ht]; rfl)
              · obtain ⟨d, hd⟩ : ∃ d, s[a + 1 + (r.takeWhile prn).length]? = some d := ⟨_, List.getElem?_eq_getElem hlt2⟩
                rw [hd] at hat
                rw [len_eq_last hd, if_neg (by simp), gt_k hd, bindO_s, bindO_s, c41]
                have hw2 : IntKind.i64.wrap (((a + 1 + (r.takeWhile prn).length : Nat) : Int) + 1) = ((a + 1 + (r.takeWhile prn).length + 1 : Nat) : Int) := by rw [wrap_i64 (by omega) (by omega)]; omega
                by_cases h41 : d = 41
                · rw [decide_eq_false (by simpa using h41), if_neg (by simp), hw2, bindO_s, bindO_s, if_neg (by simp)]
                  dsimp only
                  rw [if_neg (by rw [← hat, h41]; simpa using hnil)] at ht
                  have hq : (r.dropWhile prn).drop 1 = s.drop (a + 1 + (r.takeWhile prn).length + 1) := by
                    rw [← drop_tw (p := prn) hr, List.drop_drop]
                  rw [hq] at ht
                  by_cases hend : a + 1 + (r.takeWhile prn).length + 1 = s.length
                  · rw [if_neg (by rw [hend]; simp)] at ht
                    rw [show (((a + 1 + (r.takeWhile prn).length + 1 : Nat) : Int) == (s.length : Int)) = true by simp; omega]
                    exact .ret (by rw [← ht]; rfl)
                  · rw [if_pos (by
                      intro e2
                      have := congrArg List.length e2
                      simp at this; omega)] at ht
                    rw [show (((a + 1 + (r.takeWhile prn).length + 1 : Nat) : Int) == (s.length : Int)) = false by simp; omega]
                    exact .ret (by rw [← ht]; rfl)
                · rw [decide_eq_true h41, if_pos rfl, bindO_s, bindO_s]
                  rw [if_pos (.inr (by rw [← hat]; simpa using h41))] at ht
                  exact .ret (by rw [← ht]; rfl)
        · -- a word
          rw [if_neg h40] at ht
          rw [decide_eq_false h40, if_neg (by simp), bindO_s]
          have hlet : (decide ((c.toNat : Int) < 65) || decide ((c.toNat : Int) > 90)) = decide (c.toNat < 65 ∨ c.toNat > 90) := by
            rw [Bool.eq_iff_iff]; simp only [Bool.or_eq_true, decide_eq_true_eq]; omega
          rw [hlet]
          by_cases hl : c.toNat < 65 ∨ c.toNat > 90
          · rw [if_pos hl] at ht
            rw [decide_eq_true hl, if_pos rfl]
            exact .ret (by rw [← ht]; rfl)
          · rw [if_neg hl] at ht
            rw [decide_eq_false hl, if_neg (by simp)]
            by_cases h16 : ws.length = 16
            · rw [if_pos h16] at ht
              rw [show ((ws.length : Int) == 16) = true by simp; omega, if_pos rfl]
              exact .ret (by rw [← ht]; rfl)
            · rw [if_neg h16] at ht
              rw [show ((ws.length : Int) == 16) = false by simp; omega, if_neg (by simp)]
              rw [scan (s := s) (p := nch) (by omega) (fun i x hx => by
                have hlx := getElem_lt hx
                rw [decide_eq_true (show (i : Int) < (s.length : Int) by omega), if_pos rfl, gt_k hx, bindO_s]
                have := number_eq x
                unfold r41_number at this
                injection this with this
                rw [← this, wrap_i64 (by omega) (by omega)]
                cases decide ((x.toNat : Int) ≥ 48) <;> cases decide ((x.toNat : Int) ≤ 57) <;> cases ((x.toNat : Int) == 45) <;> rfl) (by rw [decide_eq_false (by omega)]; rfl) (a + 1) (by omega), bindO_s, hr]
              have htl := (tw_len nch r).1
              rw [cut_mid (p := nch) hr rfl (by omega) (by omega), bindO_s, bk_Value_eq _ (by omega), bindO_s]
              have hat := dw_at (p := nch) hr
              have hdw := drop_tw (p := nch) hr
              by_cases hv : (valV (r.takeWhile nch)).2 = 0
              · rw [if_neg (by simpa using hv)] at ht
                rw [hv]
                simp only [bne_self_eq_false, Bool.false_eq_true, if_false]
                rw [okLen_of (by omega), guardO_t, bindO_s]
                simp only [bne_self_eq_false, Bool.false_eq_true, if_false]
                rcases Nat.eq_or_lt_of_le (show a + 1 + (r.takeWhile nch).length ≤ s.length by omega) with e | hlt2
                · have hnil : r.dropWhile nch = [] := by rw [← hdw, e]; simp
                  rw [hnil] at ht
                  rw [show (((a + 1 + (r.takeWhile nch).length : Nat) : Int) == (s.length : Int)) = true by simp; omega, if_pos rfl]
                  exact .ret (by rw [← ht]; rfl)
                · obtain ⟨d, hd⟩ : ∃ d, s[a + 1 + (r.takeWhile nch).length]? = some d := ⟨_, List.getElem?_eq_getElem hlt2⟩
                  have hcons : r.dropWhile nch = d :: s.drop (a + 1 + (r.takeWhile nch).length + 1) := by
                    rw [← hdw, List.drop_eq_getElem_cons hlt2]
                    rw [List.getElem?_eq_getElem hlt2] at hd; injection hd with hd; rw [hd]
                  rw [hcons] at ht
                  rw [len_eq_last hd, if_neg (by simp), if_neg (by simp), gt_k hd, bindO_s, bindO_s, c32]
                  have hw2 : IntKind.i64.wrap (((a + 1 + (r.takeWhile nch).length : Nat) : Int) + 1) = ((a + 1 + (r.takeWhile nch).length + 1 : Nat) : Int) := by rw [wrap_i64 (by omega) (by omega)]; omega
                  by_cases h32 : d = 32
                  · subst h32
                    rw [prN_eq] at ht
                    rw [decide_eq_false (by simp), if_neg (by simp), hw2, bindO_s, if_neg (by simp)]
                    exact .go ⟨n, by omega, true, _, _, rfl, by omega, by simp; omega, by omega, ht⟩
                  · rw [prN_ne _ _ _ _ _ h32] at ht
                    rw [decide_eq_true h32, if_pos rfl, bindO_s]
                    exact .ret (by rw [← ht]; rfl)
              · rw [if_pos hv] at ht
                rw [show ((valV (r.takeWhile nch)).2 != 0) = true by simpa using hv, if_pos rfl, bindO_s]
                simp only [show ((valV (r.takeWhile nch)).2 != 0) = true by simpa using hv, if_true]
                refine .ret ?_
                rw [← ht]
                unfold bkOut
                rw [show ((valV (r.takeWhile nch)).2 != 0) = true by simpa using hv]
                rfl
  · rw [← hr]
    unfold bkOut
    cases (r.1 != 0) with
    | true => exact .ok rfl
    | false => exact .ok rfl

def cmOut (sk : Bool) (ws : List ApiWord) (y : List UInt8 × Int × Int) : PR := if (y.2.2 != 0) = true then (ApiBlock.mk false [] [], y.2.1, y.2.2) else (ApiBlock.mk sk ws y.1, 0, 0)
theorem r41_comment_tot (s r : List UInt8) (a : Nat) (sk : Bool) (ws : List ApiWord) (hs : s.length ≤ 65536) (ha : a < s.length) (hr : s.drop (a + 1) = r) : Tot (r41_comment s (a : Int)) (fun y => cmOut sk ws y = prC sk ws a r) := by
  unfold r41_comment
  have hw1 : IntKind.i64.wrap ((a : Int) + 1) = ((a + 1 : Nat) : Int) := by rw [wrap_i64 (by omega) (by omega)]; omega
  have hrl : r.length = s.length - (a + 1) := by rw [← hr]; simp
  have htl := (tw_len prn r).1
  rw [hw1, scan (s := s) (p := prn) (by omega) (fun i x hx => by
    have hlx := getElem_lt hx
    rw [decide_eq_true (show (i : Int) < (s.length : Int) by omega), if_pos rfl, gt_k hx, bindO_s]
    unfold r41_printable
    rw [bindO_s, bindO_s, wrap_i64 (by omega) (by omega)]
    rfl) (by rw [decide_eq_false (by omega)]; rfl) (a + 1) (by omega), bindO_s, hr]
  obtain ⟨t, ht⟩ : ∃ t, r.takeWhile prn = t := ⟨_, rfl⟩
  have hcut := cut_mid (p := prn) hr ht (by omega) (by omega)
  have hat := dw_at (p := prn) hr
  have hdw := drop_tw (p := prn) hr
  unfold prC
  rw [ht] at htl hat hdw ⊢
  have hw3 : IntKind.i64.wrap (IntKind.i64.wrap (((a + 1 + t.length : Nat) : Int) - (a : Int)) - 1) = (t.length : Int) := by
    rw [wrap_i64 (n := ((a + 1 + t.length : Nat) : Int) - (a : Int)) (by omega) (by omega), wrap_i64 (by omega) (by omega)]; omega
  have hw2 : IntKind.i64.wrap (((a + 1 + t.length : Nat) : Int) + 1) = ((a + 1 + t.length + 1 : Nat) : Int) := by rw [wrap_i64 (by omega) (by omega)]; omega
  rw [hw3, hw2, hcut]
  by_cases h100 : t.length > 100
  · rw [decide_eq_true (show ((t.length : Nat) : Int) > 100 by omega), if_pos rfl, if_pos h100]
    exact .ok rfl
  · rw [decide_eq_false (show ¬ ((t.length : Nat) : Int) > 100 by omega), if_neg (by simp), if_neg h100]
    rcases Nat.eq_or_lt_of_le (show a + 1 + t.length ≤ s.length by omega) with e | hlt2
    · have hh : (r.dropWhile prn).head? = none := by rw [← hat, e]; simp
      rw [show (((a + 1 + t.length : Nat) : Int) == (s.length : Int)) = true by simp; omega, if_pos rfl, if_pos (Or.inr (by rw [hh]; simp)), bindO_s, if_pos rfl]
      exact .ok rfl
    · obtain ⟨d, hd⟩ : ∃ d, s[a + 1 + t.length]? = some d := ⟨_, List.getElem?_eq_getElem hlt2⟩
      rw [hd] at hat
      rw [len_eq_last hd, if_neg (by simp), gt_k hd, bindO_s, c41]
      by_cases h41 : d = 41
      · rw [decide_eq_false (by simpa using h41), if_neg (by simp), bindO_s]
        by_cases hnil : t = []
        · subst hnil
          rw [show ((((a + 1 + ([] : List UInt8).length : Nat) : Int)) == ((a + 1 : Nat) : Int)) = true by simp, if_pos rfl, if_pos (Or.inl rfl)]
          exact .ok rfl
        · have hpos := List.length_pos_iff.2 hnil
          rw [show ((((a + 1 + t.length : Nat) : Int)) == ((a + 1 : Nat) : Int)) = false by simp; omega, if_neg (by simp), if_neg (show ¬ (t = [] ∨ (r.dropWhile prn).head? ≠ some 41) by rw [← hat, h41]; simpa using hnil)]
          have hq : (r.dropWhile prn).drop 1 = s.drop (a + 1 + t.length + 1) := by
            rw [← hdw, List.drop_drop]
          rw [hq]
          by_cases hend : a + 1 + t.length + 1 = s.length
          · rw [decide_eq_false (by omega), if_neg (by simp), bindO_s, if_neg (by rw [hend]; simp)]
            exact .ok rfl
          · rw [decide_eq_true (by omega), if_pos rfl, if_pos (by
              intro e2
              have := congrArg List.length e2
              simp at this; omega)]
            exact .ok rfl
      · rw [decide_eq_true h41, if_pos rfl, bindO_s, if_pos rfl, if_pos (Or.inr (by rw [← hat]; simpa using h41))]
        exact .ok rfl
theorem valV_num (s : List UInt8) : ((valV s).2 != 0) = decide ((valV s).2 ≠ 0) := by
  rw [Bool.eq_iff_iff]; simp
set_option maxHeartbeats 4000000 in
theorem r41_Parse_tot (s : List UInt8) (hs : s.length ≤ 65536) : Tot (r41_Parse s) (fun r => r = prsV s) := by
  unfold r41_Parse
  refine Tot.ite (fun h => absurd (of_decide_eq_true h) (by omega)) (fun _ => ?_)
  refine Tot.bind (E := fun x : Bool => x = decide (s.head? = some 47)) ?_ (fun x hx => ?_)
  · cases s with
    | nil => exact .ok rfl
    | cons c q =>
      rw [show ((c :: q) == ([] : List UInt8)) = false from rfl, if_neg (by simp), show gt (c :: q) 0 = some c from rfl, bindO_s]
      refine .ok ?_
      have h := c47 c
      have h2 : ((c.toNat : Int) == 47) = !((c.toNat : Int) != 47) := by cases hh : ((c.toNat : Int) == 47) <;> simp [bne, hh]
      rw [h2, h]
      by_cases hc : c = 47 <;> simp [hc]
  · refine Tot.bind (E := fun v : Int × Bool => v = if s.head? = some 47 then (1, true) else (0, false)) ?_ (fun v hv => ?_)
    · subst hx
      by_cases hc : s.head? = some 47
      · rw [decide_eq_true hc, if_pos rfl, if_pos hc]; exact .ok rfl
      · rw [decide_eq_false hc, if_neg (by simp), if_neg hc]; exact .ok rfl
    · obtain ⟨sk, a0, hx2, ha0, hT⟩ : ∃ (sk : Bool) (a0 : Nat), v = ((a0 : Int), sk) ∧ a0 ≤ s.length ∧ prsV s = prW sk (s.length + 1) false a0 [] (s.drop a0) := by
        unfold prsV
        by_cases hc : s.head? = some 47
        · rw [if_pos hc] at hv ⊢
          refine ⟨true, 1, hv, ?_, rfl⟩
          cases s with
          | nil => cases hc
          | cons c q => simp
        · rw [if_neg hc] at hv ⊢
          exact ⟨false, 0, hv, by omega, rfl⟩
      subst hx2
      rw [hT]
      generalize hTT : prW sk (s.length + 1) false a0 [] (s.drop a0) = T
      refine Tot.bindX (E := fun ws : List ApiWord => ((ApiBlock.mk sk ws [], 0, 0) : PR) = T) (TotX.of (Tot.mono (E := fun x => match x with | .ret e => e = T | .go ws => ((ApiBlock.mk sk ws [], 0, 0) : PR) = T) ?_ (fun x h => by cases x <;> exact h))) (fun ws hws => .ok hws)
      refine Tot.loop (fun m v => ∃ (sp : Bool) (a : Nat) (ws : List ApiWord), v = ((a : Int), !sp, ws) ∧ a ≤ s.length ∧ ws.length ≤ 16 ∧ s.length - a < m ∧ prW sk m sp a ws (s.drop a) = T) _ (s.length + 1) (fuel_gt (by omega)) ⟨false, a0, [], rfl, ha0, by simp, by omega, hTT⟩ (fun m v hr => ?_)
      obtain ⟨sp, a, ws, rfl, ha, hws, hm, ht⟩ := hr
      obtain ⟨n, rfl⟩ : ∃ n, m = n + 1 := ⟨m - 1, by omega⟩
      dsimp only
      rcases Nat.eq_or_lt_of_le ha with e | hlt
      · have hnil : s.drop a = [] := by rw [e]; simp
        rw [hnil] at ht
        rw [decide_eq_false (show ¬ (a : Int) < (s.length : Int) by omega), show ((a : Int) == (s.length : Int)) = true by simp; omega]
        cases sp with
        | true => exact .ret (by rw [← ht]; rfl)
        | false => exact .ret (by rw [← ht]; rfl)
      · obtain ⟨c, hc⟩ : ∃ c, s[a]? = some c := ⟨_, List.getElem?_eq_getElem hlt⟩
        have hdr : s.drop a = c :: s.drop (a + 1) := by
          rw [List.drop_eq_getElem_cons hlt]
          rw [List.getElem?_eq_getElem hlt] at hc; injection hc with hc; rw [hc]
        obtain ⟨r, hr⟩ : ∃ r, s.drop (a + 1) = r := ⟨_, rfl⟩
        rw [hdr, hr] at ht
        have hw1 : IntKind.i64.wrap ((a : Int) + 1) = ((a + 1 : Nat) : Int) := by rw [wrap_i64 (by omega) (by omega)]; omega
        have hrl : r.length = s.length - (a + 1) := by rw [← hr]; simp
        rw [decide_eq_true (show (a : Int) < (s.length : Int) by omega), Bool.true_or, if_pos rfl, len_eq_last hc, if_neg (by simp), gt_k hc, bindO_s, c40]
        unfold prW at ht
        by_cases h40 : c = 40
        · rw [if_pos h40] at ht
          rw [decide_eq_true h40, if_pos rfl]
          obtain ⟨y, hy, hy2⟩ := r41_comment_tot s r a sk ws hs hlt hr
          rw [hy, bindO_s]
          rw [ht] at hy2
          unfold cmOut at hy2
          cases he : (y.2.2 != 0) with
          | true => rw [he, if_pos rfl] at hy2; rw [if_pos rfl]; exact .ret hy2
          | false => rw [he, if_neg (by simp)] at hy2; rw [if_neg (by simp)]; exact .ret hy2
        · rw [if_neg h40] at ht
          rw [decide_eq_false h40, if_neg (by simp)]
          have hlet : (decide ((c.toNat : Int) < 65) || decide ((c.toNat : Int) > 90)) = decide (c.toNat < 65 ∨ c.toNat > 90) := by
            rw [Bool.eq_iff_iff]; simp only [Bool.or_eq_true, decide_eq_true_eq]; omega
          rw [hlet]
          by_cases hl : c.toNat < 65 ∨ c.toNat > 90
          · rw [if_pos hl] at ht
            rw [decide_eq_true hl, if_pos rfl]
            exact .ret (by rw [← ht]; rfl)
          · rw [if_neg hl] at ht
            rw [decide_eq_false hl, if_neg (by simp)]
            by_cases h16 : ws.length = 16
            · rw [if_pos h16] at ht
              rw [show ((ws.length : Int) == 16) = true by simp; omega, if_pos rfl]
              exact .ret (by rw [← ht]; rfl)
            · rw [if_neg h16] at ht
              rw [show ((ws.length : Int) == 16) = false by simp; omega, if_neg (by simp), hw1]
              rw [scan (s := s) (p := nch) (by omega) (fun i x hx => by
                have hlx := getElem_lt hx
                rw [decide_eq_true (show (i : Int) < (s.length : Int) by omega), if_pos rfl, gt_k hx, bindO_s, number_eq, bindO_s, bindO_s, wrap_i64 (by omega) (by omega)]
                rfl) (by rw [decide_eq_false (by omega)]; rfl) (a + 1) (by omega), bindO_s, hr]
              have htl := (tw_len nch r).1
              rw [cut_mid (p := nch) hr rfl (by omega) (by omega), bindO_s, r41_Value_eq _ (by omega), bindO_s]
              have hdw := drop_tw (p := nch) hr
              by_cases hv : (valV (r.takeWhile nch)).2 = 0
              · rw [if_neg (by simpa using hv)] at ht
                rw [show ((valV (r.takeWhile nch)).2 != 0) = false by simpa using hv, if_neg (by simp), okLen_of (by omega), guardO_t]
                rcases Nat.eq_or_lt_of_le (show a + 1 + (r.takeWhile nch).length ≤ s.length by omega) with e | hlt2
                · have hnil : r.dropWhile nch = [] := by rw [← hdw, e]; simp
                  rw [hnil] at ht
                  rw [show (((a + 1 + (r.takeWhile nch).length : Nat) : Int) == (s.length : Int)) = true by simp; omega, if_pos rfl]
                  exact .ret (by rw [← ht]; rfl)
                · obtain ⟨d, hd⟩ : ∃ d, s[a + 1 + (r.takeWhile nch).length]? = some d := ⟨_, List.getElem?_eq_getElem hlt2⟩
                  have hcons : r.dropWhile nch = d :: s.drop (a + 1 + (r.takeWhile nch).length + 1) := by
                    rw [← hdw, List.drop_eq_getElem_cons hlt2]
                    rw [List.getElem?_eq_getElem hlt2] at hd; injection hd with hd; rw [hd]
                  rw [hcons] at ht
                  have hw2 : IntKind.i64.wrap (((a + 1 + (r.takeWhile nch).length : Nat) : Int) + 1) = ((a + 1 + (r.takeWhile nch).length + 1 : Nat) : Int) := by rw [wrap_i64 (by omega) (by omega)]; omega
                  rw [len_eq_last hd, if_neg (by simp), gt_k hd, bindO_s, c32, hw2]
                  by_cases h32 : d = 32
                  · subst h32
                    rw [prN_eq] at ht
                    rw [decide_eq_false (by simp), if_neg (by simp)]
                    exact .go ⟨n, by omega, true, _, _, rfl, by omega, by simp; omega, by omega, ht⟩
                  · rw [prN_ne _ _ _ _ _ h32] at ht
                    rw [decide_eq_true h32, if_pos rfl]
                    exact .ret (by rw [← ht]; rfl)
              · rw [if_pos hv] at ht
                rw [show ((valV (r.takeWhile nch)).2 != 0) = true by simpa using hv, if_pos rfl]
                exact .ret (by rw [← ht]; rfl)

/-- Texts with spaces between them. -/
def jn : List (List UInt8) → List UInt8
  | [] => []
  | x :: l => x ++ (l.map (32 :: ·)).flatten
theorem jn_cons (x y : List UInt8) (l : List (List UInt8)) : jn (x :: y :: l) = x ++ 32 :: jn (y :: l) := by simp [jn]
theorem jn_snoc (x z : List UInt8) (l : List (List UInt8)) : jn ((x :: l) ++ [z]) = jn (x :: l) ++ 32 :: z := by simp [jn]
theorem join_jn : ∀ l : List (List UInt8), Lib.join l [32] = jn l
  | [] => rfl
  | [x] => by simp [Lib.join, jn, List.intercalate]
  | x :: y :: l => by
    have ih := join_jn (y :: l)
    rw [jn_cons, ← ih]
    simp [Lib.join, List.intercalate]
theorem jn_len (M : Nat) : ∀ l : List (List UInt8), (∀ x ∈ l, x.length ≤ M) → (jn l).length ≤ l.length * (M + 1)
  | [], _ => by simp [jn]
  | [x], h => by
    have := h x (by simp)
    simp [jn]; omega
  | x :: y :: l, h => by
    have ih := jn_len M (y :: l) (fun z hz => h z (by simp [hz]))
    have := h x (by simp)
    rw [jn_cons, List.length_append, List.length_cons, List.length_cons (a := x), Nat.add_mul]
    omega
def jnG (v x : List UInt8) : List UInt8 := if v = [] then x else v ++ 32 :: x
theorem jn_fold : ∀ (l : List (List UInt8)) (v : List UInt8), v ≠ [] → l.foldl jnG v = v ++ (l.map (32 :: ·)).flatten
  | [], v, _ => by simp
  | x :: l, v, h => by
    rw [List.foldl_cons, show jnG v x = v ++ 32 :: x from if_neg h, jn_fold l _ (by simp)]
    simp
theorem jn_fold0 (l : List (List UInt8)) (h : ∀ x ∈ l, x ≠ []) : l.foldl jnG [] = jn l := by
  cases l with
  | nil => rfl
  | cons x l =>
    rw [List.foldl_cons, show jnG [] x = x from if_pos rfl, jn_fold l x (h x (by simp))]
    rfl

def okW (w : ApiWord) : Prop := 65 ≤ w.Letter ∧ w.Letter ≤ 90 ∧ -1000000000000 ≤ w.Value ∧ w.Value ≤ 1000000000000
def validP (b : ApiBlock) : Prop := b.Words.length ≤ 16 ∧ b.Comment.length ≤ 100 ∧ (∀ w ∈ b.Words, okW w) ∧ ∀ c ∈ b.Comment, prn c = true
def wt (w : ApiWord) : List UInt8 := UInt8.ofNat w.Letter.toNat :: txtV w.Value
def cmT (c : List UInt8) : List (List UInt8) := if c = [] then [] else [40 :: (c ++ [41])]
def fmtV (b : ApiBlock) : List UInt8 := (if b.Skip = true then [47] else []) ++ jn (b.Words.map wt ++ cmT b.Comment)

theorem rune_letter (n : Int) (h1 : 65 ≤ n) (h2 : n ≤ 90) : runeS (IntKind.i32.wrap n) = [UInt8.ofNat n.toNat] := by
  have : ∀ k, k < 128 → runeS (IntKind.i32.wrap ((k : Nat) : Int)) = [UInt8.ofNat k] := of_decide_eq_true (by kernel_rfl)
  have h := this n.toNat (by omega)
  rwa [show ((n.toNat : Nat) : Int) = n by omega] at h
theorem word_ok (w : ApiWord) (h : okW w) : r41_Word w = some (wt w) := by
  obtain ⟨h1, h2, h3, h4⟩ := h
  unfold r41_Word
  have hl : (txtV w.Value).length ≤ 100 := by
    unfold txtV txtU
    have hl := dd_len (w.Value.natAbs / 1000) (by omega)
    have hf' : (frac (w.Value.natAbs % 1000)).length ≤ 3 := fr3_len _ _ _
    rw [List.length_append, List.length_append]
    have e1 : (if w.Value < 0 then ([45] : List UInt8) else []).length ≤ 1 := by split <;> simp
    have e2 : (if w.Value.natAbs % 1000 = 0 then [] else 46 :: frac (w.Value.natAbs % 1000)).length ≤ 4 := by split <;> simp; omega
    omega
  rw [r41_Text_eq _ (by omega) (by omega), bindO_s, rune_letter _ h1 h2, okStr_of (by simp; omega), guardO_t]
  rfl
theorem txt_len100 (n : Int) (h1 : -9223372036854775808 ≤ n) (h2 : n ≤ 9223372036854775807) : (txtV n).length ≤ 100 := by
  unfold txtV txtU
  have hl := dd_len (n.natAbs / 1000) (by omega)
  have hf' : (frac (n.natAbs % 1000)).length ≤ 3 := fr3_len _ _ _
  rw [List.length_append, List.length_append]
  have e1 : (if n < 0 then ([45] : List UInt8) else []).length ≤ 1 := by split <;> simp
  have e2 : (if n.natAbs % 1000 = 0 then [] else 46 :: frac (n.natAbs % 1000)).length ≤ 4 := by split <;> simp; omega
  omega
theorem bk_Valid_tot (b : ApiBlock) (h1 : b.Words.length ≤ 1000) (h2 : b.Comment.length ≤ 1000) : Tot (bk_Valid b) (fun e => (e = 0 ∧ validP b) ∨ (e = 1 ∧ ¬ validP b)) := by
  unfold bk_Valid
  have hsz : (decide ((b.Words.length : Int) > 16) || decide ((b.Comment.length : Int) > 100)) = decide (¬ (b.Words.length ≤ 16 ∧ b.Comment.length ≤ 100)) := by
    rw [Bool.eq_iff_iff]; simp only [Bool.or_eq_true, decide_eq_true_eq]; omega
  rw [hsz]
  refine Tot.ite (fun h => .ok (.inr ⟨rfl, fun q => of_decide_eq_true h ⟨q.1, q.2.1⟩⟩)) (fun h => ?_)
  have hle : b.Words.length ≤ 16 ∧ b.Comment.length ≤ 100 := by simpa using h
  refine Tot.bindX (E := fun _ => ∀ w ∈ b.Words, okW w) (TotX.of (Tot.mono (E := fun x => (x = .ret 1 ∧ ¬ validP b) ∨ (x = .go () ∧ ∀ w ∈ b.Words, okW w)) ?_ ?_)) (fun x hx => ?_)
  · refine Tot.guard (okIdx_of (by omega)) (Tot.range (fun i _ => ∀ (k : Nat) w, k < i → b.Words[k]? = some w → okW w) _ (fun k w q => by omega) (fun i x v hx hr => ?_) (fun v hr => .ok (.inr ⟨rfl, fun w hw => ?_⟩)))
    · have hc : (decide (x.Letter < 65) || (decide (x.Letter > 90) || (decide (x.Value > 1000000000000) || decide (x.Value < -1000000000000)))) = decide (¬ (65 ≤ x.Letter ∧ x.Letter ≤ 90 ∧ -1000000000000 ≤ x.Value ∧ x.Value ≤ 1000000000000)) := by
        rw [Bool.eq_iff_iff]; simp only [Bool.or_eq_true, decide_eq_true_eq]; omega
      rw [hc]
      refine TotX.ite (fun h2 => .ret (.inl ⟨rfl, fun q => of_decide_eq_true h2 (q.2.2.1 x (List.mem_of_getElem? hx))⟩)) (fun h2 => .go (fun k w hk hw => ?_))
      rcases Nat.lt_or_ge k i with q | q
      · exact hr k w q hw
      · obtain rfl : k = i := by omega
        rw [hx] at hw; injection hw with hw; subst hw
        have h3 : 65 ≤ x.Letter ∧ x.Letter ≤ 90 ∧ -1000000000000 ≤ x.Value ∧ x.Value ≤ 1000000000000 := Decidable.not_not.1 (of_decide_eq_false h2)
        exact h3
    · obtain ⟨k, hk⟩ := List.mem_iff_getElem?.1 hw
      exact hr k w (getElem_lt hk) hk
  · rintro x (⟨rfl, h3⟩ | ⟨rfl, h3⟩)
    · exact .inr ⟨rfl, h3⟩
    · exact h3
  · refine Tot.bindX (E := fun _ => validP b) (TotX.of (Tot.mono (E := fun x => (x = .ret 1 ∧ ¬ validP b) ∨ (x = .go () ∧ validP b)) ?_ ?_)) (fun _ hv => .ok (.inl ⟨rfl, hv⟩))
    · refine Tot.guard (okIdx_of (by simp [bytesI]; omega)) (Tot.range (fun i _ => ∀ (k : Nat) c, k < i → b.Comment[k]? = some c → prn c = true) _ (fun k w q => by omega) (fun i y v hy hr => ?_) (fun v hr => .ok (.inr ⟨rfl, hle.1, hle.2, hx, fun c hc => ?_⟩)))
      · unfold bytesI at hy
        rw [List.getElem?_map] at hy
        cases hq : b.Comment[i]? with
        | none => rw [hq] at hy; cases hy
        | some c =>
          rw [hq] at hy; injection hy with hy; subst hy
          have hp : bk_printable (c.toNat : Int) = some (prn c) := rfl
          rw [hp, bindO_s]
          refine TotX.ite (fun h2 => .ret (.inl ⟨rfl, fun q => ?_⟩)) (fun h2 => .go (fun k w hk hw => ?_))
          · have := q.2.2.2 c (List.mem_of_getElem? hq)
            rw [this] at h2; cases h2
          · rcases Nat.lt_or_ge k i with q | q
            · exact hr k w q hw
            · obtain rfl : k = i := by omega
              rw [hq] at hw; injection hw with hw; subst hw
              simpa using h2
      · obtain ⟨k, hk⟩ := List.mem_iff_getElem?.1 hc
        exact hr k c (by have := getElem_lt hk; simpa [bytesI] using this) hk
    · rintro x (⟨rfl, h3⟩ | ⟨rfl, h3⟩)
      · exact .inr ⟨rfl, h3⟩
      · exact h3
theorem r41_Valid_tot (b : ApiBlock) (h1 : b.Words.length ≤ 1000) (h2 : b.Comment.length ≤ 1000) : Tot (r41_Valid b) (fun e => (e = 0 ∧ validP b) ∨ (e = 1 ∧ ¬ validP b)) := by
  unfold r41_Valid
  have hsz : (decide ((b.Words.length : Int) > 16) || decide ((b.Comment.length : Int) > 100)) = decide (¬ (b.Words.length ≤ 16 ∧ b.Comment.length ≤ 100)) := by
    rw [Bool.eq_iff_iff]; simp only [Bool.or_eq_true, decide_eq_true_eq]; omega
  rw [hsz]
  refine Tot.ite (fun h => .ok (.inr ⟨rfl, fun q => of_decide_eq_true h ⟨q.1, q.2.1⟩⟩)) (fun h => ?_)
  have hle : b.Words.length ≤ 16 ∧ b.Comment.length ≤ 100 := by simpa using h
  refine Tot.bindX (E := fun _ => ∀ w ∈ b.Words, okW w) (TotX.of (Tot.mono (E := fun x => (x = .ret 1 ∧ ¬ validP b) ∨ (x = .go () ∧ ∀ w ∈ b.Words, okW w)) ?_ ?_)) (fun x hx => ?_)
  · refine Tot.guard (okIdx_of (by omega)) (Tot.range (fun i _ => ∀ (k : Nat) w, k < i → b.Words[k]? = some w → okW w) _ (fun k w q => by omega) (fun i x v hx hr => ?_) (fun v hr => .ok (.inr ⟨rfl, fun w hw => ?_⟩)))
    · have hc : (decide (x.Letter < 65) || (decide (x.Letter > 90) || (decide (x.Value > 1000000000000) || decide (x.Value < -1000000000000)))) = decide (¬ (65 ≤ x.Letter ∧ x.Letter ≤ 90 ∧ -1000000000000 ≤ x.Value ∧ x.Value ≤ 1000000000000)) := by
        rw [Bool.eq_iff_iff]; simp only [Bool.or_eq_true, decide_eq_true_eq]; omega
      rw [hc]
      refine TotX.ite (fun h2 => .ret (.inl ⟨rfl, fun q => of_decide_eq_true h2 (q.2.2.1 x (List.mem_of_getElem? hx))⟩)) (fun h2 => .go (fun k w hk hw => ?_))
      rcases Nat.lt_or_ge k i with q | q
      · exact hr k w q hw
      · obtain rfl : k = i := by omega
        rw [hx] at hw; injection hw with hw; subst hw
        have h3 : 65 ≤ x.Letter ∧ x.Letter ≤ 90 ∧ -1000000000000 ≤ x.Value ∧ x.Value ≤ 1000000000000 := Decidable.not_not.1 (of_decide_eq_false h2)
        exact h3
    · obtain ⟨k, hk⟩ := List.mem_iff_getElem?.1 hw
      exact hr k w (getElem_lt hk) hk
  · rintro x (⟨rfl, h3⟩ | ⟨rfl, h3⟩)
    · exact .inr ⟨rfl, h3⟩
    · exact h3
  · refine Tot.bindX (E := fun _ => validP b) (TotX.of (Tot.mono (E := fun x => (x = .ret 1 ∧ ¬ validP b) ∨ (x = .go () ∧ validP b)) ?_ ?_)) (fun _ hv => .ok (.inl ⟨rfl, hv⟩))
    · refine Tot.guard (okIdx_of (by omega)) (Tot.range (fun i _ => ∀ (k : Nat) c, k < i → b.Comment[k]? = some c → prn c = true) _ (fun k w q => by omega) (fun i c v hq hr => ?_) (fun v hr => .ok (.inr ⟨rfl, hle.1, hle.2, hx, fun c hc => ?_⟩)))
      · have hp : r41_printable (c.toNat : Int) = some (prn c) := rfl
        rw [hp, bindO_s]
        refine TotX.ite (fun h2 => .ret (.inl ⟨rfl, fun q => ?_⟩)) (fun h2 => .go (fun k w hk hw => ?_))
        · have := q.2.2.2 c (List.mem_of_getElem? hq)
          rw [this] at h2; cases h2
        · rcases Nat.lt_or_ge k i with q | q
          · exact hr k w q hw
          · obtain rfl : k = i := by omega
            rw [hq] at hw; injection hw with hw; subst hw
            simpa using h2
      · obtain ⟨k, hk⟩ := List.mem_iff_getElem?.1 hc
        exact hr k c (getElem_lt hk) hk
    · rintro x (⟨rfl, h3⟩ | ⟨rfl, h3⟩)
      · exact .inr ⟨rfl, h3⟩
      · exact h3
theorem fold_map {α β : Type} (g : α → β) : ∀ (l : List α) (o : List β), l.foldl (fun o x => o ++ [g x]) o = o ++ l.map g
  | [], o => by simp
  | x :: l, o => by rw [List.foldl_cons, fold_map g l]; simp
theorem wt_len (w : ApiWord) (h : okW w) : (wt w).length ≤ 101 := by
  have := txt_len100 w.Value (by have := h.2.2.1; omega) (by have := h.2.2.2; omega)
  unfold wt; simp; omega
theorem parts_len {b : ApiBlock} (h : validP b) : ∀ x ∈ b.Words.map wt ++ cmT b.Comment, x.length ≤ 102 := by
  intro x hx
  rcases List.mem_append.1 hx with hx | hx
  · obtain ⟨w, hw, rfl⟩ := List.mem_map.1 hx
    have := wt_len w (h.2.2.1 w hw); omega
  · unfold cmT at hx
    split at hx
    · cases hx
    · simp at hx
      subst hx
      have := h.2.1
      simp; omega
theorem bk_Format_ok (b : ApiBlock) (h : validP b) : bk_Format b = some (fmtV b, 0) := by
  unfold bk_Format
  obtain ⟨e, he, hv⟩ := bk_Valid_tot b (by have := h.1; omega) (by have := h.2.1; omega)
  have he0 : e = 0 := by rcases hv with hv | hv; exact hv.1; exact absurd h hv.2
  subst he0
  have hwl := h.1
  have hcl := h.2.1
  rw [he, bindO_s, if_neg (by simp), okIdx_of (by omega), guardO_t, range_fold (g := fun (v : List (List UInt8)) w => v ++ [wt w]) (R := fun i v => v.length = i) (L := b.Words) ?_ b.Words 0 [] rfl (by simp), fold_map, bindO_s]
  · have hpl := parts_len h
    have hjl := jn_len 102 _ hpl
    have hpn : (b.Words.map wt ++ cmT b.Comment).length ≤ 17 := by
      unfold cmT; rw [List.length_append, List.length_map]; split <;> simp <;> omega
    have hcm : (if (!(b.Comment == [])) = true then
          guardO (okStr [40] b.Comment) (
          guardO (okStr ([40] ++ b.Comment) [41]) (
          guardO (okLen (([] ++ b.Words.map wt).length + 1)) (
          some (([] ++ b.Words.map wt) ++ [([40] ++ b.Comment) ++ [41]]))))
        else
          some ([] ++ b.Words.map wt)) = some (b.Words.map wt ++ cmT b.Comment) := by
      unfold cmT
      by_cases hc : b.Comment = []
      · rw [hc]; simp
      · rw [if_neg hc, show (b.Comment == []) = false by simpa using hc, Bool.not_false, if_pos rfl, okStr_of (by simp; omega), guardO_t, okStr_of (by simp; omega), guardO_t, okLen_of (by simp; omega), guardO_t]
        simp
    rw [hcm, bindO_s]
    have hj : strings_Join (b.Words.map wt ++ cmT b.Comment) [32] = some (jn (b.Words.map wt ++ cmT b.Comment)) := by
      unfold strings_Join
      rw [join_jn, decide_eq_true (by have := Nat.mul_le_mul_right (102 + 1) hpn; omega), decide_eq_true (by omega)]
      rfl
    rw [hj, bindO_s]
    unfold fmtV
    have hjl2 := Nat.mul_le_mul_right (102 + 1) hpn
    cases b.Skip with
    | true => rw [if_pos rfl, okStr_of (by simp; omega), guardO_t, bindO_s]; rfl
    | false => rw [if_neg (by simp), bindO_s]; rfl
  · intro i x v hx hr
    have hlt := getElem_lt hx
    obtain ⟨h1, h2, h3, h4⟩ := h.2.2.1 x (List.mem_of_getElem? hx)
    have hl := txt_len100 x.Value (by omega) (by omega)
    rw [bk_Text_eq _ (by omega) (by omega), bindO_s, rune_letter _ h1 h2, okStr_of (by simp; omega), guardO_t, okLen_of (by omega), guardO_t]
    exact ⟨rfl, by simp [hr]⟩
theorem fold_wt (l : List ApiWord) (v : List UInt8) : l.foldl (fun v w => jnG v (wt w)) v = (l.map wt).foldl jnG v := by rw [List.foldl_map]
theorem r41_Format_ok (b : ApiBlock) (h : validP b) : r41_Format b = some (fmtV b, 0) := by
  unfold r41_Format
  obtain ⟨e, he, hv⟩ := r41_Valid_tot b (by have := h.1; omega) (by have := h.2.1; omega)
  have he0 : e = 0 := by rcases hv with hv | hv; exact hv.1; exact absurd h hv.2
  subst he0
  have hwl := h.1
  have hcl := h.2.1
  have hpl := parts_len h
  have hjl := jn_len 102 _ hpl
  have hpn : (b.Words.map wt ++ cmT b.Comment).length ≤ 17 := by
    unfold cmT; rw [List.length_append, List.length_map]; split <;> simp <;> omega
  have hjl2 := Nat.mul_le_mul_right (102 + 1) hpn
  have hwne : ∀ x ∈ b.Words.map wt, x ≠ [] := by
    intro x hx
    obtain ⟨w, _, rfl⟩ := List.mem_map.1 hx
    simp [wt]
  have hjw := jn_len 102 (b.Words.map wt) (fun x hx => hpl x (by simp [hx]))
  rw [List.length_map] at hjw
  have hjw2 := Nat.mul_le_mul_right (102 + 1) hwl
  rw [he, bindO_s, if_neg (by simp), okIdx_of (by omega), guardO_t, range_fold (g := fun (v : List UInt8) w => jnG v (wt w)) (R := fun i v => (v = [] ↔ i = 0) ∧ v.length ≤ i * 103) (L := b.Words) ?_ b.Words 0 [] rfl (by simp), fold_wt, jn_fold0 _ hwne, bindO_s]
  · have hcm : (if (!(b.Comment == [])) = true then
          bindO (if (!(jn (b.Words.map wt) == [])) = true then
                guardO (okStr (jn (b.Words.map wt)) [32]) (
                some (jn (b.Words.map wt) ++ [32]))
              else
                some (jn (b.Words.map wt))) fun (v161 : (List UInt8)) =>
          guardO (okStr v161 [40]) (
          guardO (okStr (v161 ++ [40]) b.Comment) (
          guardO (okStr ((v161 ++ [40]) ++ b.Comment) [41]) (
          some (((v161 ++ [40]) ++ b.Comment) ++ [41]))))
        else
          some (jn (b.Words.map wt))) = some (jn (b.Words.map wt ++ cmT b.Comment)) := by
      unfold cmT
      by_cases hc : b.Comment = []
      · rw [hc]; simp
      · rw [if_neg hc, show (b.Comment == []) = false by simpa using hc, Bool.not_false, if_pos rfl]
        cases hw : b.Words.map wt with
        | nil =>
          rw [show (jn [] == []) = true from rfl, if_neg (by simp), bindO_s, okStr_of (by simp [jn]), guardO_t, okStr_of (by simp [jn]; omega), guardO_t, okStr_of (by simp [jn]; omega), guardO_t]
          simp [jn]
        | cons x l =>
          have hx : x ≠ [] := hwne x (by rw [hw]; simp)
          have hne : jn (x :: l) ≠ [] := by
            intro e
            exact hx (List.append_eq_nil_iff.1 e).1
          rw [hw] at hjw
          rw [show (jn (x :: l) == []) = false by simpa using hne, Bool.not_false, if_pos rfl, okStr_of (by simp only [List.length_cons, List.length_nil]; omega), guardO_t, bindO_s, okStr_of (by simp only [List.length_append, List.length_cons, List.length_nil]; omega), guardO_t, okStr_of (by simp only [List.length_append, List.length_cons, List.length_nil]; omega), guardO_t, okStr_of (by simp only [List.length_append, List.length_cons, List.length_nil]; omega), guardO_t, jn_snoc]
          simp
    rw [hcm, bindO_s]
    unfold fmtV
    cases b.Skip with
    | true => rw [if_pos rfl, okStr_of (by simp; omega), guardO_t, bindO_s]; rfl
    | false => rw [if_neg (by simp), bindO_s]; rfl
  · intro i x v hx hr
    have hlt := getElem_lt hx
    have hokx := h.2.2.1 x (List.mem_of_getElem? hx)
    have hl := wt_len x hokx
    have hr2 : v.length ≤ 16 * 103 := Nat.le_trans hr.2 (Nat.mul_le_mul_right _ (by omega))
    have hg : (if (decide ((i : Int) > 0)) = true then
                guardO (okStr v [32]) (
                some (v ++ [32]))
              else
                some v) = some (if i = 0 then v else v ++ [32]) := by
      by_cases hi : i = 0
      · rw [decide_eq_false (by omega), if_neg (by simp), if_pos hi]
      · rw [decide_eq_true (by omega), if_pos rfl, okStr_of (by simp; omega), guardO_t, if_neg hi]
    rw [hg, bindO_s, word_ok x hokx, bindO_s, okStr_of (by have h5 : (if i = 0 then v else v ++ [32]).length ≤ v.length + 1 := (by split <;> simp); omega), guardO_t]
    have hjg : (if i = 0 then v else v ++ [32]) ++ wt x = jnG v (wt x) := by
      unfold jnG
      by_cases hi : i = 0
      · rw [if_pos hi, if_pos (hr.1.2 hi), hr.1.2 hi]; rfl
      · rw [if_neg hi, if_neg (fun q => hi (hr.1.1 q))]; simp
    rw [hjg]
    refine ⟨rfl, ⟨fun q => ?_, fun q => by omega⟩, ?_⟩
    · exfalso
      rw [← hjg] at q
      have := congrArg List.length q
      simp [wt] at this
    · rw [← hjg]
      have hb : (if i = 0 then v else v ++ [32]).length ≤ v.length + 1 := by split <;> simp
      rw [List.length_append, Nat.add_mul]
      omega

theorem tw_gen {p : UInt8 → Bool} : ∀ (w r : List UInt8), w.all p = true → (r = [] ∨ ∃ d q, r = d :: q ∧ p d = false) → (w ++ r).takeWhile p = w ∧ (w ++ r).dropWhile p = r
  | [], r, _, hr => by rcases hr with rfl | ⟨d, q, rfl, hd⟩ <;> simp_all
  | c :: w, r, h, hr => by
    simp only [List.all_cons, Bool.and_eq_true] at h
    obtain ⟨h1, h2⟩ := tw_gen w r h.2 hr
    simp only [List.cons_append, List.takeWhile_cons, List.dropWhile_cons, h.1, if_true, h1, h2, and_self]
theorem nch_dig {l : List UInt8} (h : l.all isD = true) : l.all nch = true := by
  rw [List.all_eq_true] at h ⊢
  intro x hx
  unfold nch
  rw [h x hx]; rfl
theorem nch_txt (n : Int) : (txtV n).all nch = true := by
  unfold txtV txtU
  rw [List.all_append, List.all_append, nch_dig (dd_dig _)]
  have h1 : (if n < 0 then ([45] : List UInt8) else []).all nch = true := by split <;> rfl
  have h2 : (if n.natAbs % 1000 = 0 then [] else 46 :: frac (n.natAbs % 1000)).all nch = true := by
    split
    · rfl
    · obtain ⟨q1, q2, q3⟩ := d3_dig (r := n.natAbs % 1000) (Nat.mod_lt _ (by omega))
      rw [List.all_cons, nch_dig (show (frac (n.natAbs % 1000)).all isD = true from fr3_dig _ _ _ q1 q2 q3)]
      rfl
  rw [h1, h2]; rfl
theorem letter_toNat {n : Int} (h1 : 65 ≤ n) (h2 : n ≤ 90) : (UInt8.ofNat n.toNat).toNat = n.toNat := by
  rw [UInt8.toNat_ofNat']; omega
theorem val_ok {v : Int} (h1 : -1000000000000 ≤ v) (h2 : v ≤ 1000000000000) : valV (txtV v) = (v, 0) := by
  rw [val_txt, if_neg (by omega)]
theorem prC_ok (sk : Bool) (ws : List ApiWord) (a : Nat) (c : List UInt8) (hc : c.all prn = true) (hl : c.length ≤ 100) (hne : c ≠ []) : prC sk ws a (c ++ [41]) = (ApiBlock.mk sk ws c, 0, 0) := by
  obtain ⟨h1, h2⟩ := tw_gen (p := prn) c [41] hc (.inr ⟨41, [], rfl, rfl⟩)
  unfold prC
  rw [h1, h2, if_neg (by omega), if_neg (by simpa using hne), if_neg (by simp)]
theorem prW_cons (sk : Bool) (n : Nat) (sp : Bool) (a : Nat) (ws : List ApiWord) (c : UInt8) (r : List UInt8) : prW sk (n + 1) sp a ws (c :: r) =
    if c = 40 then prC sk ws a r
    else if c.toNat < 65 ∨ c.toNat > 90 then badR a 2
    else if ws.length = 16 then badR a 3
    else if (valV (r.takeWhile nch)).2 ≠ 0 then badR a (valV (r.takeWhile nch)).2
    else prN sk (a + 1 + (r.takeWhile nch).length) (ws ++ [wordV c (r.takeWhile nch)]) (fun b q => prW sk n true b (ws ++ [wordV c (r.takeWhile nch)]) q) (r.dropWhile nch) := rfl
theorem cons_ne {α : Type} {l : List α} (h : l ≠ []) : ∃ x r, l = x :: r := by
  cases l with
  | nil => exact absurd rfl h
  | cons x r => exact ⟨x, r, rfl⟩
theorem jn_ne (x : List UInt8) {l : List (List UInt8)} (h : l ≠ []) : jn (x :: l) = x ++ 32 :: jn l := by
  obtain ⟨y, r, rfl⟩ := cons_ne h
  exact jn_cons x y r
/-- What is written is read again. -/
theorem prW_fmt (sk : Bool) (c : List UInt8) (hc : c.all prn = true) (hcl : c.length ≤ 100) : ∀ (W : List ApiWord) (n : Nat) (sp : Bool) (a : Nat) (ws : List ApiWord), (∀ w ∈ W, okW w) → ws.length + W.length ≤ 16 → W.length < n → (sp = true → W ≠ [] ∨ c ≠ []) → prW sk n sp a ws (jn (W.map wt ++ cmT c)) = (ApiBlock.mk sk (ws ++ W) c, 0, 0)
  | [], n, sp, a, ws, _, _, hn, hsp => by
    obtain ⟨n, rfl⟩ : ∃ q, n = q + 1 := ⟨n - 1, by simp at hn; omega⟩
    by_cases h0 : c = []
    · subst h0
      have : sp = false := by
        cases sp with
        | false => rfl
        | true => rcases hsp rfl with h | h <;> exact absurd rfl h
      subst this
      rw [List.append_nil]; rfl
    · have hj : jn (List.map wt [] ++ cmT c) = 40 :: (c ++ [41]) := by
        unfold cmT
        rw [if_neg h0]
        simp [jn]
      rw [hj, List.append_nil]
      show (if (40 : UInt8) = 40 then prC sk ws a (c ++ [41]) else _) = _
      rw [if_pos rfl, prC_ok sk ws a c hc hcl h0]
  | w :: W, n, sp, a, ws, hW, hlen, hn, hsp => by
    obtain ⟨n, rfl⟩ : ∃ q, n = q + 1 := ⟨n - 1, by simp at hn; omega⟩
    simp only [List.length_cons] at hlen hn
    obtain ⟨o1, o2, o3, o4⟩ := hW w (by simp)
    have hL := letter_toNat o1 o2
    have h40 : ¬ (UInt8.ofNat w.Letter.toNat = 40) := by
      intro e
      rw [e] at hL
      have : (40 : UInt8).toNat = 40 := rfl
      omega
    have hw : wordV (UInt8.ofNat w.Letter.toNat) (txtV w.Value) = w := by
      unfold wordV
      rw [val_ok o3 o4, hL]
      obtain ⟨l, v⟩ := w
      simp only at o1 ⊢
      congr 1
      omega
    have step : ∀ q, (q = [] ∨ ∃ d r, q = d :: r ∧ nch d = false) → prW sk (n + 1) sp a ws (wt w ++ q) = prN sk (a + 1 + (txtV w.Value).length) (ws ++ [w]) (fun b r => prW sk n true b (ws ++ [w]) r) q := by
      intro q hq
      obtain ⟨t1, t2⟩ := tw_gen (p := nch) (txtV w.Value) q (nch_txt _) hq
      rw [show wt w ++ q = UInt8.ofNat w.Letter.toNat :: (txtV w.Value ++ q) from rfl, prW_cons, if_neg h40, if_neg (by omega), if_neg (by omega), t1, t2, val_ok o3 o4, if_neg (by simp), hw]
    have ha : ws ++ w :: W = (ws ++ [w]) ++ W := by simp
    rw [ha, List.map_cons, List.cons_append]
    by_cases hrest : W.map wt ++ cmT c = []
    · have hW0 : W = [] := by
        have := (List.append_eq_nil_iff.1 hrest).1
        simpa using this
      have hc0 : c = [] := by
        have := (List.append_eq_nil_iff.1 hrest).2
        unfold cmT at this
        by_cases q : c = []
        · exact q
        · rw [if_neg q] at this; cases this
      rw [hrest]
      have := step [] (.inl rfl)
      rw [List.append_nil] at this
      rw [show jn [wt w] = wt w by simp [jn], this, hW0, hc0, List.append_nil]
      rfl
    · rw [jn_ne _ hrest, step _ (.inr ⟨32, _, rfl, rfl⟩), prN_eq]
      refine prW_fmt sk c hc hcl W n true _ (ws ++ [w]) (fun x hx => hW x (by simp [hx])) (by simp; omega) (by omega) (fun _ => ?_)
      by_cases q : W = []
      · right
        intro e
        apply hrest
        rw [q, e]; rfl
      · exact .inl q
/-- What is read is what is written. -/
theorem prW_inv (sk : Bool) : ∀ (n : Nat) (sp : Bool) (a : Nat) (ws : List ApiWord) (r : List UInt8), ws.length ≤ 16 → (∃ a' e, e ≠ 0 ∧ prW sk n sp a ws r = badR a' e) ∨ (∃ W c, prW sk n sp a ws r = (ApiBlock.mk sk (ws ++ W) c, 0, 0) ∧ r = jn (W.map wt ++ cmT c) ∧ (∀ w ∈ W, okW w) ∧ (∀ x ∈ c, prn x = true) ∧ c.length ≤ 100 ∧ ws.length + W.length ≤ 16 ∧ (sp = true → W ≠ [] ∨ c ≠ []))
  | 0, sp, a, ws, r, _ => .inl ⟨a, 2, by decide, by cases r <;> rfl⟩
  | n + 1, sp, a, ws, [], hws => by
    cases sp with
    | true => exact .inl ⟨a, 2, by decide, rfl⟩
    | false => exact .inr ⟨[], [], by rw [List.append_nil]; rfl, rfl, by simp, by simp, by simp, by simpa using hws, fun q => by cases q⟩
  | n + 1, sp, a, ws, c :: r, hws => by
    unfold prW
    by_cases h40 : c = 40
    · rw [if_pos h40]
      unfold prC
      obtain ⟨t, ht⟩ : ∃ t, r.takeWhile prn = t := ⟨_, rfl⟩
      have htd := List.takeWhile_append_dropWhile (p := prn) (l := r)
      have htp := tw_mem (p := prn) r
      rw [ht] at htp htd ⊢
      by_cases h100 : t.length > 100
      · rw [if_pos h100]; exact .inl ⟨a, 3, by decide, rfl⟩
      · rw [if_neg h100]
        by_cases hb : t = [] ∨ (r.dropWhile prn).head? ≠ some 41
        · rw [if_pos hb]; exact .inl ⟨_, 2, by decide, rfl⟩
        · rw [if_neg hb]
          by_cases hd : (r.dropWhile prn).drop 1 ≠ []
          · rw [if_pos hd]; exact .inl ⟨_, 2, by decide, rfl⟩
          · rw [if_neg hd]
            have hb1 : t ≠ [] := fun q => hb (.inl q)
            have hb2 : (r.dropWhile prn).head? = some 41 := Decidable.not_not.1 fun q => hb (.inr q)
            have hd1 : (r.dropWhile prn).drop 1 = [] := Decidable.not_not.1 hd
            have hdw : r.dropWhile prn = [41] := by
              cases hq : r.dropWhile prn with
              | nil => rw [hq] at hb2; cases hb2
              | cons x y =>
                rw [hq] at hb2 hd1
                simp at hb2 hd1
                rw [hb2, hd1]
            rw [hdw] at htd
            right
            refine ⟨[], t, by rw [List.append_nil], ?_, by simp, fun x hx => List.all_eq_true.1 htp x hx, by omega, by simpa using hws, fun _ => .inr hb1⟩
            unfold cmT
            rw [if_neg hb1, h40, ← htd]
            simp [jn]
    · rw [if_neg h40]
      by_cases hl : c.toNat < 65 ∨ c.toNat > 90
      · rw [if_pos hl]; exact .inl ⟨a, 2, by decide, rfl⟩
      · rw [if_neg hl]
        by_cases h16 : ws.length = 16
        · rw [if_pos h16]; exact .inl ⟨a, 3, by decide, rfl⟩
        · rw [if_neg h16]
          by_cases hv : (valV (r.takeWhile nch)).2 = 0
          · rw [if_neg (by simpa using hv)]
            have htd := List.takeWhile_append_dropWhile (p := nch) (l := r)
            obtain ⟨t, ht⟩ : ∃ t, r.takeWhile nch = t := ⟨_, rfl⟩
            obtain ⟨q, hq⟩ : ∃ q, r.dropWhile nch = q := ⟨_, rfl⟩
            rw [ht] at hv htd ⊢
            rw [hq] at htd ⊢
            have hvt : valV t = ((valV t).1, 0) := Prod.ext rfl hv
            have htx := txt_val t _ hvt
            have hbd : -1000000000000 ≤ (valV t).1 ∧ (valV t).1 ≤ 1000000000000 := by
              unfold valV valN
              split
              · exact ⟨by decide, by decide⟩
              · split
                · exact ⟨by decide, by decide⟩
                · split
                  · exact ⟨by decide, by decide⟩
                  · simp only
                    split <;> omega
            have hwt : wt (wordV c t) = c :: t := by
              unfold wt wordV
              simp only [Int.toNat_natCast]
              rw [htx, UInt8.ofNat_toNat]
            have hok : okW (wordV c t) := by
              refine ⟨?_, ?_, hbd.1, hbd.2⟩
              · show (65 : Int) ≤ (c.toNat : Int); omega
              · show (c.toNat : Int) ≤ 90; omega
            cases q with
            | nil =>
              right
              refine ⟨[wordV c t], [], rfl, ?_, by simpa using hok, by simp, by simp, by simp; omega, fun _ => .inl (by simp)⟩
              rw [List.append_nil] at htd
              show c :: r = wt (wordV c t) ++ []
              rw [List.append_nil, hwt, htd]
            | cons d q =>
              by_cases h32 : d = 32
              · subst h32
                rw [prN_eq]
                rcases prW_inv sk n true (a + 1 + t.length + 1) (ws ++ [wordV c t]) q (by simp; omega) with ⟨a', e, h1, h2⟩ | ⟨W, cc, h1, h2, h3, h4, h5, h6, h7⟩
                · exact .inl ⟨a', e, h1, h2⟩
                · right
                  refine ⟨wordV c t :: W, cc, by rw [h1]; simp, ?_, fun w hw => ?_, h4, h5, by simp at h6 ⊢; omega, fun _ => .inl (by simp)⟩
                  · rw [List.map_cons, List.cons_append, jn_ne _ (by
                      intro e
                      obtain ⟨e1, e2⟩ := List.append_eq_nil_iff.1 e
                      rcases h7 rfl with h | h
                      · exact h (by simpa using e1)
                      · unfold cmT at e2
                        rw [if_neg h] at e2; cases e2), ← h2, hwt, ← htd]
                    simp
                  · rcases List.mem_cons.1 hw with rfl | hw
                    · exact hok
                    · exact h3 w hw
              · rw [prN_ne _ _ _ _ _ h32]
                exact .inl ⟨_, 2, by decide, rfl⟩
          · rw [if_pos hv]; exact .inl ⟨a, _, hv, rfl⟩
theorem flat_len : ∀ l : List (List UInt8), l.length ≤ ((l.map (32 :: ·)).flatten).length
  | [] => by simp
  | x :: l => by
    have := flat_len l
    simp only [List.map_cons, List.flatten_cons, List.length_append, List.length_cons]
    omega
theorem jn_ge (W : List ApiWord) (l : List (List UInt8)) : W.length ≤ (jn (W.map wt ++ l)).length := by
  cases W with
  | nil => simp
  | cons w W =>
    have := flat_len (W.map wt ++ l)
    rw [List.map_cons, List.cons_append]
    show _ ≤ (wt w ++ ((W.map wt ++ l).map (32 :: ·)).flatten).length
    rw [List.length_append] at this ⊢
    rw [List.length_map] at this
    simp only [List.length_cons, wt]
    omega
theorem jn_head {W : List ApiWord} {c : List UInt8} (hW : ∀ w ∈ W, okW w) : (jn (W.map wt ++ cmT c)).head? ≠ some 47 := by
  cases W with
  | nil =>
    unfold cmT
    split
    · simp [jn]
    · simp [jn]
  | cons w W =>
    obtain ⟨o1, o2, _⟩ := hW w (by simp)
    have hL := letter_toNat o1 o2
    rw [List.map_cons, List.cons_append]
    show (UInt8.ofNat w.Letter.toNat :: (txtV w.Value ++ _)).head? ≠ some 47
    rw [List.head?_cons]
    intro e
    injection e with e
    rw [e] at hL
    have : (47 : UInt8).toNat = 47 := rfl
    omega
theorem parse_fmt (b : ApiBlock) (h : validP b) : prsV (fmtV b) = (b, 0, 0) := by
  obtain ⟨h1, h2, h3, h4⟩ := h
  obtain ⟨sk, W, c⟩ := b
  simp only at h1 h2 h3 h4
  have hc : c.all prn = true := List.all_eq_true.2 h4
  have hge := jn_ge W (cmT c)
  unfold prsV fmtV
  simp only
  cases sk with
  | true =>
    rw [if_pos rfl, show (([47] : List UInt8) ++ jn (W.map wt ++ cmT c)).head? = some 47 from rfl, if_pos rfl, show (([47] : List UInt8) ++ jn (W.map wt ++ cmT c)).drop 1 = jn (W.map wt ++ cmT c) from rfl]
    exact prW_fmt true c hc h2 W _ false 1 [] h3 (by simpa using h1) (by simp; omega) (fun q => by cases q)
  | false =>
    rw [show ((if false = true then ([47] : List UInt8) else []) ++ jn (W.map wt ++ cmT c)) = jn (W.map wt ++ cmT c) from rfl, if_neg (jn_head h3)]
    exact prW_fmt false c hc h2 W _ false 0 [] h3 (by simpa using h1) (by omega) (fun q => by cases q)
theorem prs_inv (s : List UInt8) : (∃ a e, e ≠ 0 ∧ prsV s = badR a e) ∨ (∃ b, prsV s = (b, 0, 0) ∧ validP b ∧ fmtV b = s) := by
  unfold prsV
  by_cases h : s.head? = some 47
  · rw [if_pos h]
    rcases prW_inv true (s.length + 1) false 1 [] (s.drop 1) (by simp) with ⟨a, e, h1, h2⟩ | ⟨W, c, h1, h2, h3, h4, h5, h6, _⟩
    · exact .inl ⟨a, e, h1, h2⟩
    · right
      refine ⟨_, h1, ⟨by simpa using h6, h5, by simpa using h3, h4⟩, ?_⟩
      unfold fmtV
      rw [List.nil_append, if_pos rfl, ← h2]
      cases s with
      | nil => cases h
      | cons x y => simp at h; subst h; rfl
  · rw [if_neg h]
    rcases prW_inv false (s.length + 1) false 0 [] s (by simp) with ⟨a, e, h1, h2⟩ | ⟨W, c, h1, h2, h3, h4, h5, h6, _⟩
    · exact .inl ⟨a, e, h1, h2⟩
    · right
      refine ⟨_, h1, ⟨by simpa using h6, h5, by simpa using h3, h4⟩, ?_⟩
      unfold fmtV
      rw [List.nil_append, if_neg (by simp), ← h2]; rfl
end Go.Proofs.YtijihbegfmkceaaGreatDoor
