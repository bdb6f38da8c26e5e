/-
  Layer 41: the reference's texts of numbers; a text read again.
-/
import Derived.Test.YtijihbegfmkceaaDoorBd
namespace Go.Proofs.YtijihbegfmkceaaDoor
open Go.RowKit
set_option linter.unusedVariables false
set_option linter.unusedSimpArgs false

theorem rune_digit (r : Nat) (h : r < 10) : runeS (IntKind.i32.wrap (IntKind.u64.wrap (48 + (r : Int)))) = [UInt8.ofNat (48 + r)] := by
  have : ∀ r, r < 10 → runeS (IntKind.i32.wrap (IntKind.u64.wrap (48 + ((r : Nat) : Int)))) = [UInt8.ofNat (48 + r)] := of_decide_eq_true (by kernel_rfl)
  exact this r h
/-- What is still to be written before the digits that are there. -/
def ddRest (n : Nat) (o : List UInt8) : List UInt8 := if n = 0 ∧ o ≠ [] then [] else Lib.decDigits n
theorem r41_digits_eq (k : Nat) (hk : k ≤ 9223372036854775806) : r41_digits (k : Int) = some (Lib.decDigits k) := by
  unfold r41_digits
  have hlk := dd_len k (by omega)
  have key : Tot (loopX (fun (v113 : Int × (List UInt8)) =>
        if ((decide (v113.1 > 0)) || (v113.2 == [])) = true then
          guardO (okStr (runeS (IntKind.i32.wrap (IntKind.u64.wrap (48 + (Int.tmod v113.1 10))))) v113.2) (
          some (.go (IntKind.u64.wrap (Int.tdiv v113.1 10), (runeS (IntKind.i32.wrap (IntKind.u64.wrap (48 + (Int.tmod v113.1 10))))) ++ v113.2)))
        else
          some (.ret v113.2)) fuel ((k : Int), [])) (fun o => o = Lib.decDigits k) := by
    refine Tot.loop (fun m v => ∃ n : Nat, v.1 = (n : Int) ∧ n ≤ k ∧ ddRest n v.2 ++ v.2 = Lib.decDigits k ∧ m = n + (if v.2 = [] then 1 else 0)) _ (k + 1) (fuel_gt (by omega)) ⟨k, rfl, by omega, by simp [ddRest], by simp⟩ (fun m v hr => ?_)
    obtain ⟨n, hn, hnk, hd, hm⟩ := hr
    obtain ⟨v1, o⟩ := v
    simp only at hn hd hm ⊢
    subst hn
    refine TotX.ite (fun h => ?_) (fun h => .ret ?_)
    · have ht : Int.tmod (n : Int) 10 = ((n % 10 : Nat) : Int) := by rw [Int.tmod_eq_emod_of_nonneg (by omega)]; omega
      have hq : IntKind.u64.wrap (Int.tdiv (n : Int) 10) = ((n / 10 : Nat) : Int) := by rw [wrap_u64, Int.tdiv_eq_ediv_of_nonneg (by omega)]; omega
      have hol : o.length ≤ 20 := by
        have := congrArg List.length hd
        rw [List.length_append] at this; omega
      rw [ht, hq, rune_digit (n % 10) (Nat.mod_lt _ (by omega))]
      refine TotX.guard (okStr_of (by simp; omega)) (.go ?_)
      have hcond : n = 0 → o = [] := by
        intro e; subst e
        simpa using h
      have hrest : ddRest n o = Lib.decDigits n := by
        unfold ddRest
        rw [if_neg]
        rintro ⟨e1, e2⟩
        exact e2 (hcond e1)
      rw [hrest] at hd
      refine ⟨n / 10 + 0, ?_, n / 10, rfl, by omega, ?_, by simp⟩
      · by_cases e : n = 0
        · rw [hm, hcond e, e]; simp
        · rw [hm]; omega
      · rw [← hd]
        unfold ddRest
        by_cases hs : n < 10
        · rw [if_pos ⟨by omega, by simp⟩, dd_small hs, show n % 10 = n by omega]; rfl
        · rw [if_neg (by omega), dd_big hs]
          simp
    · simp only [Bool.or_eq_false_iff, decide_eq_false_iff_not] at h
      have h0 : n = 0 := by omega
      have ho : o ≠ [] := by intro e; subst e; exact absurd h.2 (by simp)
      rw [← hd]
      unfold ddRest
      rw [if_pos ⟨h0, ho⟩]; rfl
  obtain ⟨o, ho, rfl⟩ := key
  rw [ho]; rfl
theorem trimLoop (a b c : UInt8) (h : ¬ (a = 48 ∧ b = 48 ∧ c = 48)) : loopX (fun (v163 : (List UInt8)) =>
              bindO (gt v163 (IntKind.i64.wrap ((v163.length : Int) - 1))) fun (c164 : UInt8) =>
              if ((c164.toNat : Int) == 48) = true then
                bindO (cutT v163 (IntKind.i64.wrap ((v163.length : Int) - 1))) fun (s165 : (List UInt8)) =>
                some (.go s165)
              else
                some (.ret v163)) fuel [a, b, c] = some (fr3 a b c) := by
  have key : Tot (loopX (fun (v163 : (List UInt8)) =>
              bindO (gt v163 (IntKind.i64.wrap ((v163.length : Int) - 1))) fun (c164 : UInt8) =>
              if ((c164.toNat : Int) == 48) = true then
                bindO (cutT v163 (IntKind.i64.wrap ((v163.length : Int) - 1))) fun (s165 : (List UInt8)) =>
                some (.go s165)
              else
                some (.ret v163)) fuel [a, b, c]) (fun o => o = fr3 a b c) := by
    refine Tot.loop (fun m v => (m = 3 ∧ v = [a, b, c]) ∨ (m = 2 ∧ v = [a, b] ∧ c = 48) ∨ (m = 1 ∧ v = [a] ∧ b = 48 ∧ c = 48)) _ 3 (fuel_gt (by omega)) (.inl ⟨rfl, rfl⟩) (fun m v hr => ?_)
    rcases hr with ⟨rfl, rfl⟩ | ⟨rfl, rfl, hc⟩ | ⟨rfl, rfl, hb, hc⟩
    · rw [show gt [a, b, c] (IntKind.i64.wrap ((([a, b, c] : List UInt8).length : Int) - 1)) = some c from rfl, bindO_s, c48, show cutT [a, b, c] (IntKind.i64.wrap ((([a, b, c] : List UInt8).length : Int) - 1)) = some [a, b] from rfl, bindO_s]
      refine TotX.ite (fun q => .go ⟨2, by omega, .inr (.inl ⟨rfl, rfl, by simpa using q⟩)⟩) (fun q => .ret ?_)
      unfold fr3; rw [if_neg (by simpa using q)]
    · rw [show gt [a, b] (IntKind.i64.wrap ((([a, b] : List UInt8).length : Int) - 1)) = some b from rfl, bindO_s, c48, show cutT [a, b] (IntKind.i64.wrap ((([a, b] : List UInt8).length : Int) - 1)) = some [a] from rfl, bindO_s]
      refine TotX.ite (fun q => .go ⟨1, by omega, .inr (.inr ⟨rfl, rfl, by simpa using q, hc⟩)⟩) (fun q => .ret ?_)
      unfold fr3; rw [if_pos hc, if_neg (by simpa using q)]
    · have ha : ¬ a = 48 := fun e => h ⟨e, hb, hc⟩
      rw [show gt [a] (IntKind.i64.wrap ((([a] : List UInt8).length : Int) - 1)) = some a from rfl, bindO_s, c48]
      refine TotX.ite (fun q => absurd (by simpa using q) ha) (fun q => .ret ?_)
      unfold fr3; rw [if_pos hc, if_pos hb, if_neg ha]
  obtain ⟨o, ho, rfl⟩ := key
  exact ho
theorem d3_num {r : Nat} (h : r < 1000) (l : List UInt8) : num (l ++ [(d3 r).1, (d3 r).2.1, (d3 r).2.2]) = 1000 * num l + r := by
  unfold d3
  rw [show l ++ [UInt8.ofNat (48 + r / 100), UInt8.ofNat (48 + r / 10 % 10), UInt8.ofNat (48 + r % 10)] = ((l ++ [UInt8.ofNat (48 + r / 100)]) ++ [UInt8.ofNat (48 + r / 10 % 10)]) ++ [UInt8.ofNat (48 + r % 10)] by simp]
  rw [num_snoc, num_snoc, num_snoc, dv_of (by omega), dv_of (by omega), dv_of (by omega)]
  omega
theorem d3_zero {r : Nat} (h : r < 1000) (h0 : r ≠ 0) : ¬ ((d3 r).1 = 48 ∧ (d3 r).2.1 = 48 ∧ (d3 r).2.2 = 48) := by
  rintro ⟨e1, e2, e3⟩
  have := d3_num h []
  rw [e1, e2, e3] at this
  simp [num, numA, dv] at this
  omega
theorem abs_wrap2 (n : Int) (h1 : -9223372036854775808 ≤ n) (h2 : n ≤ 9223372036854775807) : (if (decide (n < 0)) = true then
        some (([45] : List UInt8), IntKind.u64.wrap (0 - (IntKind.u64.wrap n)))
      else
        some ([], IntKind.u64.wrap n)) = some (if n < 0 then [45] else [], (n.natAbs : Int)) := by
  by_cases hn : n < 0
  · rw [decide_eq_true hn, if_pos rfl, if_pos hn, wrap_u64, wrap_u64]
    congr 2
    omega
  · rw [decide_eq_false hn, if_neg (by simp), if_neg hn, wrap_u64]
    congr 2
    omega
theorem r41_Text_eq (n : Int) (h1 : -9223372036854775808 ≤ n) (h2 : n ≤ 9223372036854775807) : r41_Text n = some (txtV n) := by
  unfold r41_Text
  rw [abs_wrap2 n h1 h2, bindO_s]
  obtain ⟨u, hu⟩ : ∃ u, u = n.natAbs := ⟨_, rfl⟩
  obtain ⟨sg, hsg⟩ : ∃ sg : List UInt8, sg = if n < 0 then [45] else [] := ⟨_, rfl⟩
  have hu2 : u ≤ 9223372036854775808 := by omega
  have hsl : sg.length ≤ 1 := by rw [hsg]; split <;> simp
  unfold txtV txtU
  rw [← hu, ← hsg]
  simp only
  have e1 : IntKind.u64.wrap (Int.tdiv (u : Int) 1000) = ((u / 1000 : Nat) : Int) := by
    rw [wrap_u64, Int.tdiv_eq_ediv_of_nonneg (by omega)]; omega
  have e2 : Int.tmod (u : Int) 1000 = ((u % 1000 : Nat) : Int) := by
    rw [Int.tmod_eq_emod_of_nonneg (by omega)]; omega
  have hl := dd_len (u / 1000) (by omega)
  rw [e1, r41_digits_eq (u / 1000) (by omega), bindO_s, okStr_of (by omega), guardO_t, e2]
  by_cases hr : u % 1000 = 0
  · rw [hr]; simp
  · rw [decide_eq_true (show ((u % 1000 : Nat) : Int) > 0 by omega), if_pos rfl, if_neg hr]
    have e3 : IntKind.u64.wrap (1000 + ((u % 1000 : Nat) : Int)) = ((1000 + u % 1000 : Nat) : Int) := by rw [wrap_u64]; omega
    have hr2 : u % 1000 < 1000 := Nat.mod_lt _ (by omega)
    have hd := dd_1000 hr2
    have hl2 := dd_len (1000 + u % 1000) (by omega)
    rw [e3, r41_digits_eq _ (by omega), bindO_s]
    have hc : cutF (Lib.decDigits (1000 + u % 1000)) 1 = some ((Lib.decDigits (1000 + u % 1000)).drop 1) := by
      unfold cutF
      rw [if_neg]
      · rfl
      · have := List.length_pos_iff.2 (dd_ne (1000 + u % 1000))
        omega
    have hf := fr3_len (d3 (u % 1000)).1 (d3 (u % 1000)).2.1 (d3 (u % 1000)).2.2
    rw [hc, bindO_s, hd, trimLoop _ _ _ (d3_zero hr2 hr), bindO_s, okStr_of (by simp; omega), guardO_t, okStr_of (by simp; omega), guardO_t]
    simp [frac]

/-- The digits behind the point. -/
theorem fr3_pad (a b c : UInt8) : fr3 a b c ++ zer (3 - (fr3 a b c).length) = [a, b, c] := by
  unfold fr3
  by_cases hc : c = 48
  · by_cases hb : b = 48
    · by_cases ha : a = 48
      · simp [hc, hb, ha, zer, List.replicate]
      · simp [hc, hb, ha, zer, List.replicate]
    · simp [hc, hb, zer, List.replicate]
  · simp [hc, zer, List.replicate]
theorem fr3_last (a b c : UInt8) : (fr3 a b c).getLast? ≠ some 48 := by
  unfold fr3
  by_cases hc : c = 48
  · by_cases hb : b = 48
    · by_cases ha : a = 48
      · simp [hc, hb, ha]
      · simp [hc, hb, ha]
    · simp [hc, hb]
  · simp [hc]
theorem fr3_ne (a b c : UInt8) (h : ¬ (a = 48 ∧ b = 48 ∧ c = 48)) : fr3 a b c ≠ [] := by
  unfold fr3
  by_cases hc : c = 48
  · by_cases hb : b = 48
    · by_cases ha : a = 48
      · exact absurd ⟨ha, hb, hc⟩ h
      · simp [hc, hb, ha]
    · simp [hc, hb]
  · simp [hc]
theorem fr3_dig (a b c : UInt8) (ha : isD a = true) (hb : isD b = true) (hc : isD c = true) : (fr3 a b c).all isD = true := by
  unfold fr3
  split
  · split
    · split <;> simp [ha]
    · simp [ha, hb]
  · simp [ha, hb, hc]
theorem fr3_self (p : List UInt8) (h1 : p ≠ []) (h3 : p.length ≤ 3) (hl : p.getLast? ≠ some 48) : ∃ a b c, p ++ zer (3 - p.length) = [a, b, c] ∧ fr3 a b c = p := by
  match p, h1, h3, hl with
  | [a], _, _, hl => exact ⟨a, 48, 48, rfl, by simp at hl; simp [fr3, hl]⟩
  | [a, b], _, _, hl => exact ⟨a, b, 48, rfl, by simp at hl; simp [fr3, hl]⟩
  | [a, b, c], _, _, hl => exact ⟨a, b, c, rfl, by simp at hl; simp [fr3, hl]⟩
theorem d3_dig {r : Nat} (h : r < 1000) : isD (d3 r).1 = true ∧ isD (d3 r).2.1 = true ∧ isD (d3 r).2.2 = true := ⟨isD_of (by omega), isD_of (by omega), isD_of (by omega)⟩
theorem d3_of {a b c : UInt8} (ha : isD a = true) (hb : isD b = true) (hc : isD c = true) : num [a, b, c] < 1000 ∧ d3 (num [a, b, c]) = (a, b, c) := by
  have h1 := dv_lt ha; have h2 := dv_lt hb; have h3 := dv_lt hc
  have hn : num [a, b, c] = 100 * dv a + 10 * dv b + dv c := by simp [num, numA]; omega
  refine ⟨by omega, ?_⟩
  unfold d3
  rw [hn, show (100 * dv a + 10 * dv b + dv c) / 100 = dv a by omega, show (100 * dv a + 10 * dv b + dv c) / 10 % 10 = dv b by omega, show (100 * dv a + 10 * dv b + dv c) % 10 = dv c by omega, of_dv ha, of_dv hb, of_dv hc]

theorem dig_ne {c : UInt8} (h : isD c = true) : c ≠ 46 ∧ c ≠ 45 := by
  have := isD_iff.1 h
  refine ⟨fun e => ?_, fun e => ?_⟩
  · subst e; have : (46 : UInt8).toNat = 46 := rfl; omega
  · subst e; have : (45 : UInt8).toNat = 45 := rfl; omega
theorem tw_all : ∀ (w r : List UInt8), w.all isD = true → (r = [] ∨ ∃ q, r = 46 :: q) → (w ++ r).takeWhile (· != 46) = w ∧ (w ++ r).dropWhile (· != 46) = r
  | [], r, _, hr => by rcases hr with rfl | ⟨q, rfl⟩ <;> simp
  | c :: w, r, h, hr => by
    simp only [List.all_cons, Bool.and_eq_true] at h
    have hc : (c != 46) = true := by simpa using (dig_ne h.1).1
    obtain ⟨h1, h2⟩ := tw_all w r h.2 hr
    simp only [List.cons_append, List.takeWhile_cons, List.dropWhile_cons, hc, if_true, h1, h2, and_self]
theorem cont_dig : ∀ (w : List UInt8), w.all isD = true → w.contains 46 = false
  | [], _ => rfl
  | c :: w, h => by
    simp only [List.all_cons, Bool.and_eq_true] at h
    rw [List.contains_cons, cont_dig w h.2, show ((46 : UInt8) == c) = false by simpa using fun e => (dig_ne h.1).1 e.symm]; rfl
theorem cutV_of (w p : List UInt8) (pt : Bool) (hw : w.all isD = true) (hp : pt = false → p = []) : cutV (w ++ (if pt = true then 46 :: p else [])) = (w, p, pt) := by
  unfold cutV
  cases pt with
  | true =>
    obtain ⟨h1, h2⟩ := tw_all w (46 :: p) hw (.inr ⟨p, rfl⟩)
    rw [if_pos rfl, h1, h2]
    simp
  | false =>
    obtain ⟨h1, h2⟩ := tw_all w [] hw (.inl rfl)
    rw [if_neg (by simp), h1, h2, hp rfl, List.append_nil, cont_dig w hw]; rfl
theorem strip_of (neg : Bool) (b : List UInt8) (h : b.head? ≠ some 45) : strip ((if neg = true then [45] else []) ++ b) = (neg, b) := by
  cases neg with
  | true => rfl
  | false =>
    cases b with
    | nil => rfl
    | cons c r =>
      show strip (c :: r) = _
      rw [strip_cons, if_neg]
      intro e; subst e; exact h rfl
theorem digB_of {l : List UInt8} (h : l.all isD = true) (hne : l ≠ []) : digB l = true := by
  unfold digB
  rw [h]
  cases l with
  | nil => exact absurd rfl hne
  | cons c r => rfl
theorem txtU_form (u : Nat) : txtU u = Lib.decDigits (u / 1000) ++ (if (decide (u % 1000 ≠ 0)) = true then 46 :: (if u % 1000 = 0 then [] else frac (u % 1000)) else []) := by
  unfold txtU
  by_cases h : u % 1000 = 0
  · rw [if_pos h, if_neg (by simp [h])]
  · rw [if_neg h, if_pos (by simpa using h), if_neg h]
/-- A text of a number is read as this number. -/
theorem val_txt (n : Int) : valV (txtV n) = if n.natAbs > 1000000000000 then (0, 11) else (n, 0) := by
  obtain ⟨u, hu⟩ : ∃ u, u = n.natAbs := ⟨_, rfl⟩
  have hw := dd_can (u / 1000)
  obtain ⟨f, hf⟩ : ∃ f, f = if u % 1000 = 0 then [] else frac (u % 1000) := ⟨_, rfl⟩
  have hr2 : u % 1000 < 1000 := Nat.mod_lt _ (by omega)
  have hform := txtU_form u
  rw [← hf] at hform
  have hhead : (txtU u).head? ≠ some 45 := by
    rw [hform]
    cases hd : Lib.decDigits (u / 1000) with
    | nil => exact absurd hd hw.2.1
    | cons c r =>
      have hc : isD c = true := by
        have := hw.1
        rw [hd] at this
        simp only [List.all_cons, Bool.and_eq_true] at this
        exact this.1
      simp only [List.cons_append, List.head?_cons, ne_eq, Option.some.injEq]
      exact (dig_ne hc).2
  have hst : strip (txtV n) = (decide (n < 0), txtU u) := by
    unfold txtV
    rw [← hu]
    have := strip_of (decide (n < 0)) (txtU u) hhead
    simpa using this
  have hcut : cutV (txtU u) = (Lib.decDigits (u / 1000), f, decide (u % 1000 ≠ 0)) := by
    rw [hform]
    exact cutV_of _ _ _ hw.1 (fun h => by rw [hf, if_pos (by simpa using h)])
  have hfr : u % 1000 ≠ 0 → f.all isD = true ∧ f ≠ [] ∧ f.length ≤ 3 ∧ f.getLast? ≠ some 48 := by
    intro h
    rw [hf, if_neg h]
    obtain ⟨q1, q2, q3⟩ := d3_dig hr2
    exact ⟨fr3_dig _ _ _ q1 q2 q3, fr3_ne _ _ _ (d3_zero hr2 h), fr3_len _ _ _, fr3_last _ _ _⟩
  have hbad : badV (decide (n < 0)) (txtU u) (Lib.decDigits (u / 1000)) f (decide (u % 1000 ≠ 0)) = false := by
    unfold badV badP
    rw [digB_of hw.1 hw.2.1]
    have h1 : (decide (1 < (Lib.decDigits (u / 1000)).length) && (Lib.decDigits (u / 1000)).head? == some 48) = false := by
      by_cases q : 1 < (Lib.decDigits (u / 1000)).length
      · have := hw.2.2 q
        simp [this]
      · simp [q]
    have h2 : (decide (u % 1000 ≠ 0) && (!digB f || (decide (3 < f.length) || f.getLast? == some 48))) = false := by
      by_cases q : u % 1000 = 0
      · simp [q]
      · obtain ⟨a1, a2, a3, a4⟩ := hfr q
        rw [digB_of a1 a2]
        have a3' : decide (3 < f.length) = false := decide_eq_false (by omega)
        rw [a3']
        simp [a4]
    have h3 : (decide (n < 0) && txtU u == [48]) = false := by
      by_cases q : n < 0
      · have hu0 : u ≠ 0 := by omega
        rw [decide_eq_true q, Bool.true_and]
        refine beq_eq_false_iff_ne.2 fun e => ?_
        rw [hform] at e
        by_cases q2 : u % 1000 = 0
        · rw [if_neg (by simp [q2]), List.append_nil] at e
          have := dd_head (u := u / 1000) (by omega)
          rw [e] at this
          exact this rfl
        · rw [if_pos (by simpa using q2)] at e
          have h5 := congrArg List.length e
          have h6 := List.length_pos_iff.2 hw.2.1
          simp at h5
          omega
      · simp [q]
    rw [h1, h2, h3]; rfl
  unfold valV
  rw [hst]
  simp only
  rw [hcut]
  simp only
  rw [hbad, if_neg (by simp), ← hu]
  unfold valN
  have hnum : num (Lib.decDigits (u / 1000) ++ f ++ zer (3 - f.length)) = u := by
    by_cases q : u % 1000 = 0
    · rw [hf, if_pos q]
      show num (Lib.decDigits (u / 1000) ++ [] ++ zer 3) = u
      have hz : (0 : Nat) < 1000 := by omega
      have := d3_num hz (Lib.decDigits (u / 1000))
      rw [dd_num] at this
      rw [List.append_nil, show zer 3 = [(d3 0).1, (d3 0).2.1, (d3 0).2.2] from rfl, this]
      omega
    · rw [hf, if_neg q, List.append_assoc]
      unfold frac
      rw [fr3_pad, d3_num hr2, dd_num]
      omega
  rw [hnum]
  by_cases h10 : (Lib.decDigits (u / 1000)).length > 10
  · rw [if_pos h10, if_pos]
    have h0 : u / 1000 ≠ 0 := by
      intro e
      rw [e, dd_small (by omega)] at h10
      simp at h10
    have h1 := num_pos hw.1 hw.2.1 (dd_head h0)
    rw [dd_num] at h1
    have h2 : (10 : Nat) ^ 10 ≤ 10 ^ ((Lib.decDigits (u / 1000)).length - 1) := Nat.pow_le_pow_right (by omega) (by omega)
    omega
  · rw [if_neg h10]
    by_cases hb : u > 1000000000000
    · rw [if_pos hb, if_pos hb]
    · rw [if_neg hb, if_neg hb]
      by_cases hn : n < 0
      · rw [decide_eq_true hn, if_pos rfl]
        congr 1; omega
      · rw [decide_eq_false hn, if_neg (by simp)]
        congr 1; omega
end Go.Proofs.YtijihbegfmkceaaDoor
