/-
  Layer 41: the reference's Value.
-/
import Derived.Test.YtijihbegfmkceaaDoorBf
namespace Go.Proofs.YtijihbegfmkceaaDoor
open Go.RowKit
set_option linter.unusedVariables false
set_option linter.unusedSimpArgs false

abbrev V5 := Int × Int × Int × Bool × Bool
def vF (i206 : Nat) (c208 : UInt8) (v207 : V5) : Option (Ex (Ex (Int × Int) V5) V5) :=
        bindX (if (((i206 : Int) == 0) && ((c208.toNat : Int) == 45)) = true then
              some (.go (v207.1, v207.2.1, v207.2.2.1, true, v207.2.2.2.2))
            else
              if (((c208.toNat : Int) == 46) && ((decide (v207.2.2.1 < 0)) && (decide ((i206 : Int) > 0)))) = true then
                some (.go (v207.1, v207.2.1, 0, v207.2.2.2.1, v207.2.2.2.2))
              else
                if ((decide ((c208.toNat : Int) ≥ 48)) && ((decide ((c208.toNat : Int) ≤ 57)) && (decide (v207.2.2.1 < 0)))) = true then
                  if (decide ((IntKind.u64.wrap ((IntKind.u64.wrap (10 * v207.1)) + (IntKind.u64.wrap (IntKind.u8.wrap ((c208.toNat : Int) - 48))))) > 1000000000000)) = true then
                    some (.go (1000000000000, v207.2.1, v207.2.2.1, v207.2.2.2.1, true))
                  else
                    some (.go (IntKind.u64.wrap ((IntKind.u64.wrap (10 * v207.1)) + (IntKind.u64.wrap (IntKind.u8.wrap ((c208.toNat : Int) - 48)))), v207.2.1, v207.2.2.1, v207.2.2.2.1, v207.2.2.2.2))
                else
                  if ((decide ((c208.toNat : Int) ≥ 48)) && ((decide ((c208.toNat : Int) ≤ 57)) && (decide (v207.2.2.1 < 3)))) = true then
                    some (.go (v207.1, IntKind.u64.wrap ((IntKind.u64.wrap (10 * v207.2.1)) + (IntKind.u64.wrap (IntKind.u8.wrap ((c208.toNat : Int) - 48)))), IntKind.i64.wrap (v207.2.2.1 + 1), v207.2.2.2.1, v207.2.2.2.2))
                  else
                    some (.ret (.ret (.ret (0, 2))))) fun (v209 : Int × Int × Int × Bool × Bool) =>
        some (.go (v209.1, v209.2.1, v209.2.2.1, v209.2.2.2.1, v209.2.2.2.2))
def vD (v207 : V5) : Option (Ex (Int × Int) V5) := some (.go (v207.1, v207.2.1, v207.2.2.1, v207.2.2.2.1, v207.2.2.2.2))
theorem rx_go {α ε ν : Type} {f : Nat → α → ν → Option (Ex ε ν)} {d : ν → Option ε} {x : α} {l : List α} {i : Nat} {v v' : ν} (h : f i x v = some (.go v')) : rangeX f d (x :: l) i v = rangeX f d l (i + 1) v' := by
  conv => lhs; unfold rangeX
  rw [h]
theorem rx_ret {α ε ν : Type} {f : Nat → α → ν → Option (Ex ε ν)} {d : ν → Option ε} {x : α} {l : List α} {i : Nat} {v : ν} {e : ε} (h : f i x v = some (.ret e)) : rangeX f d (x :: l) i v = some e := by
  conv => lhs; unfold rangeX
  rw [h]
theorem tw_mem {p : UInt8 → Bool} : ∀ (l : List UInt8), (l.takeWhile p).all p = true
  | [] => rfl
  | c :: l => by
    rw [List.takeWhile_cons]
    cases h : p c with
    | true => rw [if_pos rfl, List.all_cons, h, tw_mem l]; rfl
    | false => rfl
theorem wrap_u8 (n : Int) : IntKind.u8.wrap n = n % 256 := by simp [IntKind.wrap, IntKind.bits, IntKind.signed]
theorem notD {c : UInt8} (h : isD c = false) : (decide ((c.toNat : Int) ≥ 48) && decide ((c.toNat : Int) ≤ 57)) = false := by
  rw [← h]
  unfold isD
  congr 1 <;> (rw [Bool.eq_iff_iff]; simp only [decide_eq_true_eq]; omega)
theorem c46 (c : UInt8) : ((c.toNat : Int) == 46) = (c == 46) := by
  rw [Bool.eq_iff_iff]
  simp only [beq_iff_eq]
  constructor
  · intro h; exact UInt8.toNat_inj.1 (by have : (46 : UInt8).toNat = 46 := rfl; omega)
  · intro h; subst h; rfl
theorem c45 (c : UInt8) : ((c.toNat : Int) == 45) = (c == 45) := by
  rw [Bool.eq_iff_iff]
  simp only [beq_iff_eq]
  constructor
  · intro h; exact UInt8.toNat_inj.1 (by have : (45 : UInt8).toNat = 45 := rfl; omega)
  · intro h; subst h; rfl
/-- The digits ahead of the point, not beyond the greatest. -/
def capS (v : Nat × Bool) (c : UInt8) : Nat × Bool := if 10 * v.1 + dv c > 1000000000000 then (1000000000000, true) else (10 * v.1 + dv c, v.2)
theorem vF_dig (i : Nat) (c : UInt8) (a : Nat) (b : Int) (neg g : Bool) (hc : isD c = true) (ha : a ≤ 1000000000000) : vF i c ((a : Int), b, -1, neg, g) = some (.go (((capS (a, g) c).1 : Int), b, -1, neg, (capS (a, g) c).2)) := by
  have h := isD_iff.1 hc
  obtain ⟨n1, n2⟩ := dig_ne hc
  unfold vF
  rw [c45, c46, show (c == 45) = false by simpa using n2, show (c == 46) = false by simpa using n1]
  simp only [Bool.and_false, Bool.false_eq_true, if_false, Bool.false_and]
  rw [decide_eq_true (show (c.toNat : Int) ≥ 48 by omega), decide_eq_true (show (c.toNat : Int) ≤ 57 by omega), decide_eq_true (show (-1 : Int) < 0 by omega)]
  simp only [Bool.and_self, if_true]
  have hw : IntKind.u64.wrap ((IntKind.u64.wrap (10 * (a : Int))) + (IntKind.u64.wrap (IntKind.u8.wrap ((c.toNat : Int) - 48)))) = ((10 * a + dv c : Nat) : Int) := by
    rw [wrap_u64, wrap_u64, wrap_u64, wrap_u8]
    unfold dv
    omega
  rw [hw]
  unfold capS
  simp only
  by_cases hb : 10 * a + dv c > 1000000000000
  · rw [decide_eq_true (show ((10 * a + dv c : Nat) : Int) > 1000000000000 by omega), if_pos rfl, if_pos hb]; rfl
  · rw [decide_eq_false (show ¬ ((10 * a + dv c : Nat) : Int) > 1000000000000 by omega), if_neg (by simp), if_neg hb]; rfl
theorem cap_le (v : Nat × Bool) (c : UInt8) : (capS v c).1 ≤ 1000000000000 := by
  unfold capS; split <;> simp; omega
theorem vF_digs : ∀ (w r : List UInt8) (i a : Nat) (neg g : Bool), w.all isD = true → a ≤ 1000000000000 → rangeX vF vD (w ++ r) i ((a : Int), 0, -1, neg, g) = rangeX vF vD r (i + w.length) (((w.foldl capS (a, g)).1 : Int), 0, -1, neg, (w.foldl capS (a, g)).2)
  | [], r, i, a, neg, g, _, _ => rfl
  | c :: w, r, i, a, neg, g, h, ha => by
    simp only [List.all_cons, Bool.and_eq_true] at h
    have ih := vF_digs w r (i + 1) (capS (a, g) c).1 neg (capS (a, g) c).2 h.2 (cap_le _ _)
    rw [List.cons_append, rx_go (vF_dig i c a 0 neg g h.1 ha), ih, List.foldl_cons, List.length_cons, show i + 1 + w.length = i + (w.length + 1) by omega]
theorem cap_max : ∀ (w : List UInt8) (g : Bool), w.foldl capS (1000000000000, true) = (1000000000000, true)
  | [], _ => rfl
  | c :: w, g => by
    rw [List.foldl_cons]
    have : capS (1000000000000, true) c = (1000000000000, true) := by unfold capS; rw [if_pos (by simp only; omega)]
    rw [this, cap_max w g]
theorem cap_num : ∀ (w : List UInt8) (a : Nat), a ≤ 1000000000000 → w.foldl capS (a, false) = if numA a w ≤ 1000000000000 then (numA a w, false) else (1000000000000, true)
  | [], a, h => by rw [numA_nil, if_pos h]; rfl
  | c :: w, a, h => by
    rw [List.foldl_cons, numA_cons]
    have hge := numA_ge w (10 * a + dv c)
    by_cases hb : 10 * a + dv c > 1000000000000
    · rw [show capS (a, false) c = (1000000000000, true) from if_pos hb, cap_max w false, if_neg (by omega)]
    · rw [show capS (a, false) c = (10 * a + dv c, false) from if_neg hb]
      exact cap_num w _ (by omega)
theorem vF_part (i : Nat) (c : UInt8) (A : Int) (b k : Nat) (neg g : Bool) (hc : isD c = true) (hb : b ≤ 1000000) (hk : k < 3) : vF i c (A, (b : Int), (k : Int), neg, g) = some (.go (A, ((10 * b + dv c : Nat) : Int), ((k + 1 : Nat) : Int), neg, g)) := by
  have h := isD_iff.1 hc
  obtain ⟨n1, n2⟩ := dig_ne hc
  unfold vF
  rw [c45, c46, show (c == 45) = false by simpa using n2, show (c == 46) = false by simpa using n1]
  simp only [Bool.and_false, Bool.false_eq_true, if_false, Bool.false_and]
  rw [decide_eq_true (show (c.toNat : Int) ≥ 48 by omega), decide_eq_true (show (c.toNat : Int) ≤ 57 by omega), decide_eq_false (show ¬ (k : Int) < 0 by omega), decide_eq_true (show (k : Int) < 3 by omega)]
  simp only [Bool.and_self, Bool.and_false, Bool.false_eq_true, if_false, if_true]
  have hw : IntKind.u64.wrap ((IntKind.u64.wrap (10 * (b : Int))) + (IntKind.u64.wrap (IntKind.u8.wrap ((c.toNat : Int) - 48)))) = ((10 * b + dv c : Nat) : Int) := by
    rw [wrap_u64, wrap_u64, wrap_u64, wrap_u8]
    unfold dv
    omega
  rw [hw, wrap_i64 (by omega) (by omega)]
  rfl
theorem vF_err (i : Nat) (c : UInt8) (v : V5) (h1 : ¬ (i = 0 ∧ c = 45)) (h2 : ¬ (c = 46 ∧ v.2.2.1 < 0 ∧ 0 < i)) (h3 : isD c = false ∨ 3 ≤ v.2.2.1) : vF i c v = some (.ret (.ret (0, 2))) := by
  unfold vF
  rw [c45, c46]
  have e1 : (((i : Int) == 0) && (c == 45)) = false := by
    by_cases q : i = 0
    · by_cases q2 : c = 45
      · exact absurd ⟨q, q2⟩ h1
      · simp [q2]
    · have : ((i : Int) == 0) = false := by simp; omega
      rw [this]; rfl
  have e2 : ((c == 46) && (decide (v.2.2.1 < 0) && decide ((i : Int) > 0))) = false := by
    by_cases q : c = 46
    · by_cases q2 : v.2.2.1 < 0
      · have : ¬ 0 < i := fun q3 => h2 ⟨q, q2, q3⟩
        have : decide ((i : Int) > 0) = false := decide_eq_false (by omega)
        rw [this]; simp
      · simp [q2]
    · simp [q]
  rw [e1, e2]
  simp only [Bool.false_eq_true, if_false]
  rcases h3 with h3 | h3
  · have := notD h3
    rw [← Bool.and_assoc, ← Bool.and_assoc, this]
    rfl
  · rw [decide_eq_false (show ¬ v.2.2.1 < 0 by omega), decide_eq_false (show ¬ v.2.2.1 < 3 by omega)]
    simp only [Bool.and_false, Bool.false_eq_true, if_false]
    rfl
theorem vF_parts : ∀ (p : List UInt8) (i : Nat) (A : Int) (b k : Nat) (neg g : Bool), 0 < i → k ≤ 3 → b < 10 ^ k → rangeX vF vD p i (A, (b : Int), (k : Int), neg, g) = if p.all isD = true ∧ k + p.length ≤ 3 then some (.go (A, (numA b p : Int), ((k + p.length : Nat) : Int), neg, g)) else some (.ret (0, 2))
  | [], i, A, b, k, neg, g, _, hk, _ => by
    rw [if_pos ⟨rfl, by simpa using hk⟩]; rfl
  | c :: p, i, A, b, k, neg, g, hi, hk, hb => by
    have hb3 : b ≤ 1000000 := by
      have : 10 ^ k ≤ 10 ^ 3 := Nat.pow_le_pow_right (by omega) hk
      omega
    by_cases hgo : isD c = true ∧ k < 3
    · rw [rx_go (vF_part i c A b k neg g hgo.1 hb3 hgo.2)]
      have hd := dv_lt hgo.1
      rw [vF_parts p (i + 1) A (10 * b + dv c) (k + 1) neg g (by omega) (by omega) (by rw [Nat.pow_succ]; omega), numA_cons]
      by_cases hq : p.all isD = true ∧ k + 1 + p.length ≤ 3
      · rw [if_pos hq, if_pos ⟨by simp [hgo.1, hq.1], by simp; omega⟩, List.length_cons, show k + 1 + p.length = k + (p.length + 1) by omega]
      · rw [if_neg hq, if_neg]
        rintro ⟨q1, q2⟩
        simp only [List.all_cons, Bool.and_eq_true, List.length_cons] at q1 q2
        exact hq ⟨q1.2, by omega⟩
    · rw [rx_ret (vF_err i c _ (by omega) (by simp only; omega) (by
        simp only
        cases hc : isD c with
        | false => exact .inl rfl
        | true => right; have : ¬ k < 3 := fun q => hgo ⟨hc, q⟩; omega)), if_neg]
      rintro ⟨q1, q2⟩
      simp only [List.all_cons, Bool.and_eq_true, List.length_cons] at q1 q2
      exact hgo ⟨q1.1, by omega⟩
/-- The loop over a text of a number. -/
def vRun (neg : Bool) (w p : List UInt8) (pt : Bool) : Ex (Int × Int) V5 :=
  .go (((w.foldl capS (0, false)).1 : Int), (num p : Int), (if pt = true then (p.length : Int) else -1), neg, (w.foldl capS (0, false)).2)
theorem dw_cases (l : List UInt8) : ∃ w r, l = w ++ r ∧ w.all isD = true ∧ (r = [] ∨ ∃ c q, r = c :: q ∧ isD c = false) := by
  refine ⟨l.takeWhile isD, l.dropWhile isD, List.takeWhile_append_dropWhile.symm, ?_, ?_⟩
  · exact tw_mem l
  · have := List.head?_dropWhile_not isD l
    cases hd : l.dropWhile isD with
    | nil => exact .inl rfl
    | cons c q => rw [hd] at this; exact .inr ⟨c, q, rfl, by simpa using this⟩
theorem vRun_eq (s : List UInt8) : ∃ neg body w p pt, strip s = (neg, body) ∧ cutV body = (w, p, pt) ∧ ((badV neg body w p pt = true ∧ rangeX vF vD s 0 (0, 0, -1, false, false) = some (.ret (0, 2))) ∨ (rangeX vF vD s 0 (0, 0, -1, false, false) = some (vRun neg w p pt) ∧ w.all isD = true ∧ (pt = true → p.all isD = true ∧ p.length ≤ 3) ∧ (pt = false → p = []) ∧ body = w ++ (if pt = true then 46 :: p else []) ∧ s = (if neg = true then [45] else []) ++ body)) := by
  have hs := strip_inv s
  obtain ⟨⟨neg, body⟩, hst⟩ : ∃ st, strip s = st := ⟨_, rfl⟩
  obtain ⟨⟨w, p, pt⟩, hcv⟩ : ∃ cv, cutV body = cv := ⟨_, rfl⟩
  refine ⟨neg, body, w, p, pt, hst, hcv, ?_⟩
  rw [hst] at hs
  simp only at hs
  have hb := cutV_inv body
  rw [hcv] at hb
  simp only at hb
  -- the sign
  have h0 : rangeX vF vD s 0 (0, 0, -1, false, false) = rangeX vF vD body (if neg = true then 1 else 0) (((0 : Nat) : Int), 0, -1, neg, false) := by
    rw [hs]
    cases neg with
    | false => rfl
    | true => rfl
  have hnd : neg = false → body.head? ≠ some 45 := by
    intro q e
    subst q
    cases s with
    | nil => cases hst; cases e
    | cons c r =>
      rw [strip_cons] at hst
      by_cases hc : c = 45
      · rw [if_pos hc] at hst; cases hst
      · rw [if_neg hc] at hst
        injection hst with _ hst
        subst hst
        exact hc (by simpa using e)
  obtain ⟨W, R, hWR, hW, hR⟩ := dw_cases body
  have hrun : ∀ i, rangeX vF vD body i (((0 : Nat) : Int), 0, -1, neg, false) = rangeX vF vD R (i + W.length) (((W.foldl capS (0, false)).1 : Int), 0, -1, neg, (W.foldl capS (0, false)).2) := fun i => by
    rw [hWR]; exact vF_digs W R i 0 neg false hW (by omega)
  rw [h0, hrun]
  rcases hR with rfl | ⟨c, q, rfl, hc⟩
  · right
    rw [List.append_nil] at hWR
    have h1 : cutV body = (W, [], false) := by
      have := cutV_of W [] false hW (fun _ => rfl)
      rw [if_neg (by simp), List.append_nil] at this
      rw [hWR]; exact this
    rw [hcv] at h1
    injection h1 with h1 h2
    injection h2 with h2 h3
    subst h1; subst h2; subst h3
    exact ⟨rfl, hW, (fun q => by cases q), (fun _ => rfl), hb.1, hs⟩
  · by_cases h46 : c = 46
    · subst h46
      have h1 : cutV body = (W, q, true) := by
        have := cutV_of W q true hW (fun q => by cases q)
        rw [if_pos rfl] at this
        rw [hWR]; exact this
      rw [hcv] at h1
      injection h1 with h1 h2
      injection h2 with h2 h3
      subst h1; subst h2; subst h3
      by_cases hpos : 0 < (if neg = true then 1 else 0) + w.length
      · have hdot : rangeX vF vD (46 :: p) ((if neg = true then 1 else 0) + w.length) (((w.foldl capS (0, false)).1 : Int), 0, -1, neg, (w.foldl capS (0, false)).2) = rangeX vF vD p ((if neg = true then 1 else 0) + w.length + 1) (((w.foldl capS (0, false)).1 : Int), ((0 : Nat) : Int), ((0 : Nat) : Int), neg, (w.foldl capS (0, false)).2) := by
          refine rx_go ?_
          unfold vF
          have e1 : ((((((if neg = true then 1 else 0) + w.length : Nat) : Int) == 0)) && (((46 : UInt8).toNat : Int) == 45)) = false := by
            rw [show ((((46 : UInt8).toNat : Int)) == 45) = false from rfl, Bool.and_false]
          have e2 : ((((46 : UInt8).toNat : Int) == 46) && ((decide ((-1 : Int) < 0)) && (decide ((((if neg = true then 1 else 0) + w.length : Nat) : Int) > 0)))) = true := by
            rw [show ((((46 : UInt8).toNat : Int)) == 46) = true from rfl, decide_eq_true (show (((if neg = true then 1 else 0) + w.length : Nat) : Int) > 0 by omega)]
            rfl
          rw [e1, if_neg (by simp), e2, if_pos rfl]
          rfl
        rw [hdot, vF_parts p _ _ 0 0 neg _ (by omega) (by omega) (by simp)]
        by_cases hq : p.all isD = true ∧ 0 + p.length ≤ 3
        · right
          rw [if_pos hq]
          refine ⟨?_, hW, fun _ => ⟨hq.1, by omega⟩, (fun q => by cases q), hb.1, hs⟩
          unfold vRun
          rw [if_pos rfl, Nat.zero_add]; rfl
        · left
          rw [if_neg hq]
          refine ⟨?_, rfl⟩
          unfold badV badP digB
          by_cases q1 : p.all isD = true
          · have : decide (3 < p.length) = true := decide_eq_true (Nat.lt_of_not_le fun q => hq ⟨q1, by omega⟩)
            rw [this]; simp
          · have : p.all isD = false := by simpa using q1
            rw [this]; simp
      · left
        have hneg : neg = false := by cases neg with | false => rfl | true => exact absurd (by rw [if_pos rfl]; omega) hpos
        subst hneg
        have hw0 : w = [] := List.eq_nil_of_length_eq_zero (by rw [if_neg (by simp)] at hpos; omega)
        subst hw0
        exact ⟨rfl, rx_ret (vF_err _ 46 _ (by rintro ⟨_, e⟩; cases e) (by rintro ⟨_, _, e⟩; exact absurd e (by simp)) (.inl rfl))⟩
    · left
      refine ⟨?_, ?_⟩
      · unfold badV
        have htw : w = (W ++ c :: q).takeWhile (· != 46) := by
          have := congrArg Prod.fst hcv
          rw [hWR] at this
          exact this.symm
        have hcw : c ∈ w := by
          rw [htw, List.takeWhile_append_of_pos (by
            intro a ha
            have := List.all_eq_true.1 hW a ha
            simpa using (dig_ne this).1)]
          rw [List.takeWhile_cons, if_pos (by simpa using h46)]
          simp
        have : digB w = false := by
          unfold digB
          have : w.all isD = false := by
            cases hh : w.all isD with
            | false => rfl
            | true => have := List.all_eq_true.1 hh c hcw; rw [hc] at this; cases this
          rw [this]; rfl
        rw [this]; rfl
      · refine rx_ret (vF_err _ c _ (by
          rintro ⟨e1, e2⟩
          have hneg : neg = false := by cases neg with | false => rfl | true => rw [if_pos rfl] at e1; omega
          have hw0 : W = [] := List.eq_nil_of_length_eq_zero (by omega)
          subst hw0
          apply hnd hneg
          rw [hWR, e2]; rfl) (fun e => h46 e.1) (.inl hc))
end Go.Proofs.YtijihbegfmkceaaDoor
