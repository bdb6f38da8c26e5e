/-
  Layer 41: a text that is read is the text of its number.
-/
import Derived.Test.YtijihbegfmkceaaDoorBe
namespace Go.Proofs.YtijihbegfmkceaaDoor
open Go.RowKit
set_option linter.unusedVariables false
set_option linter.unusedSimpArgs false

theorem strip_inv (s : List UInt8) : s = (if (strip s).1 = true then [45] else []) ++ (strip s).2 := by
  cases s with
  | nil => rfl
  | cons c r =>
    rw [strip_cons]
    by_cases h : c = 45
    · rw [if_pos h, h]; rfl
    · rw [if_neg h]; rfl
theorem cutV_inv (l : List UInt8) : l = (cutV l).1 ++ (if (cutV l).2.2 = true then 46 :: (cutV l).2.1 else []) ∧ ((cutV l).2.2 = false → (cutV l).2.1 = []) := by
  have h := List.takeWhile_append_dropWhile (p := (· != 46)) (l := l)
  unfold cutV
  simp only
  rcases idx_facts l with ⟨_, h2, h3, h4⟩ | ⟨o, _, h2, h3, h4, h5⟩
  · rw [h4, h2, h3]
    simp
  · rw [h5]
    refine ⟨?_, fun q => by cases q⟩
    rw [if_pos rfl]
    cases hd : l.dropWhile (· != 46) with
    | nil =>
      rw [hd] at h4
      have := congrArg List.length h4
      simp at this; omega
    | cons c r =>
      have hc := List.head?_dropWhile_not (· != 46) l
      rw [hd] at hc
      simp at hc
      rw [hd, hc] at h
      simpa using h.symm
/-- What a text of a number that is not bad is like. -/
theorem good_parts {neg : Bool} {body w p : List UInt8} {pt : Bool} (h : badV neg body w p pt = false) : canW w ∧ (pt = true → p.all isD = true ∧ p ≠ [] ∧ p.length ≤ 3 ∧ p.getLast? ≠ some 48) ∧ ¬ (neg = true ∧ body = [48]) := by
  unfold badV badP at h
  simp only [Bool.or_eq_false_iff, Bool.not_eq_false'] at h
  obtain ⟨h1, h2, h3, h4⟩ := h
  have dig : ∀ l, digB l = true → l.all isD = true ∧ l ≠ [] := by
    intro l hl
    unfold digB at hl
    simp only [Bool.and_eq_true] at hl
    exact ⟨hl.1, fun e => by subst e; exact absurd hl.2 (by simp)⟩
  refine ⟨⟨(dig w h1).1, (dig w h1).2, fun q => ?_⟩, fun q => ?_, fun q => ?_⟩
  · rw [decide_eq_true q, Bool.true_and] at h2
    simpa using h2
  · subst q
    simp only [Bool.true_and, Bool.or_eq_false_iff, Bool.not_eq_false', decide_eq_false_iff_not] at h3
    exact ⟨(dig p h3.1).1, (dig p h3.1).2, by omega, by simpa using h3.2.2⟩
  · rw [q.1, q.2] at h4
    cases h4
theorem num_app (w q : List UInt8) : num (w ++ q) = num w * 10 ^ q.length + num q := by
  show numA 0 (w ++ q) = _
  rw [numA_append, numA_eq]; rfl
theorem txt_val (s : List UInt8) (n : Int) (h : valV s = (n, 0)) : txtV n = s := by
  have hs := strip_inv s
  unfold valV at h
  generalize strip s = st at *
  obtain ⟨neg, body⟩ := st
  simp only at h hs
  have hb := cutV_inv body
  generalize cutV body = cv at *
  obtain ⟨w, p, pt⟩ := cv
  simp only at h hb
  cases hbad : badV neg body w p pt with
  | true => rw [hbad, if_pos rfl] at h; injection h with _ h; cases h
  | false =>
    rw [hbad, if_neg (by simp)] at h
    obtain ⟨hw, hp, hnz⟩ := good_parts hbad
    unfold valN at h
    by_cases h10 : w.length > 10
    · rw [if_pos h10] at h; injection h with _ h; cases h
    · rw [if_neg h10] at h
      have hform : ∃ r, num (w ++ p ++ zer (3 - p.length)) = 1000 * num w + r ∧ r < 1000 ∧ (r = 0 ↔ pt = false) ∧ (pt = true → frac r = p) := by
        cases pt with
        | false =>
          refine ⟨0, ?_, by omega, by simp, fun q => by cases q⟩
          rw [hb.2 rfl, List.append_nil, num_app]
          show num w * 10 ^ 3 + 0 = _
          omega
        | true =>
          obtain ⟨a1, a2, a3, a4⟩ := hp rfl
          obtain ⟨a, b, c, e1, e2⟩ := fr3_self p a2 a3 a4
          have hall : ([a, b, c] : List UInt8).all isD = true := by
            rw [← e1, List.all_append, a1, zer_dig]; rfl
          simp only [List.all_cons, List.all_nil, Bool.and_true, Bool.and_eq_true] at hall
          obtain ⟨d1, d2⟩ := d3_of hall.1 hall.2.1 hall.2.2
          refine ⟨num [a, b, c], ?_, d1, ?_, fun _ => ?_⟩
          · rw [List.append_assoc, e1, num_app]
            show num w * 10 ^ 3 + _ = _
            omega
          · constructor
            · intro q
              exfalso
              rw [q] at d2
              have e3 : (48, 48, 48) = (a, b, c) := d2
              injection e3 with e3 e4
              injection e4 with e4 e5
              rw [← e3, ← e4, ← e5] at e2
              exact a2 e2.symm
            · intro q; cases q
          · unfold frac
            rw [d2]
            exact e2
      obtain ⟨r, hN, hr, hr0, hfr⟩ := hform
      rw [hN] at h
      by_cases hbig : 1000 * num w + r > 1000000000000
      · rw [if_pos hbig] at h; injection h with _ h; cases h
      · rw [if_neg hbig] at h
        injection h with h _
        have hdd := dd_uniq _ w rfl hw
        have htx : txtU (1000 * num w + r) = body := by
          unfold txtU
          rw [show (1000 * num w + r) / 1000 = num w by omega, show (1000 * num w + r) % 1000 = r by omega, hdd, hb.1]
          cases pt with
          | false => rw [if_pos (hr0.2 rfl)]; rfl
          | true =>
            rw [if_neg (fun q => by have := hr0.1 q; cases this), hfr rfl]; rfl
        rw [hs]
        unfold txtV
        cases neg with
        | false =>
          rw [if_neg (by simp)] at h
          rw [← h, if_neg (by omega), if_neg (by simp), show ((1000 * num w + r : Nat) : Int).natAbs = 1000 * num w + r by omega, htx]
        | true =>
          rw [if_pos rfl] at h
          have hne : 1000 * num w + r ≠ 0 := by
            intro e
            have hw0 : num w = 0 := by omega
            have hr1 : r = 0 := by omega
            have hpt := hr0.1 hr1
            subst hpt
            apply hnz
            refine ⟨rfl, ?_⟩
            rw [hw0, dd_small (by omega)] at hdd
            rw [hb.1, ← hdd]; rfl
          rw [← h, if_pos (by omega), if_pos rfl, show (-((1000 * num w + r : Nat) : Int)).natAbs = 1000 * num w + r by omega, htx]
end Go.Proofs.YtijihbegfmkceaaDoor
