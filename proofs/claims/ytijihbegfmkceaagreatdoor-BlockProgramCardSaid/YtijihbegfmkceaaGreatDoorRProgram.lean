/-
  BlockProgram: what its mirror computes is true.
-/
import Derived.Test.YtijihbegfmkceaaGreatDoorBp
import Derived.Test.YtijihbegfmkceaaGreatDoorMLBlockProgram
namespace Go.Proofs.YtijihbegfmkceaaGreatDoor
open Go.RowKit
set_option linter.unusedVariables false
set_option linter.unusedSimpArgs false

theorem c10 (c : UInt8) : ((c.toNat : Int) == 10) = (c == 10) := by
  rw [Bool.eq_iff_iff]
  simp only [beq_iff_eq]
  constructor
  · intro h; exact UInt8.toNat_inj.1 (by have : (10 : UInt8).toNat = 10 := rfl; omega)
  · intro h; subst h; rfl
/-- A line that ends at the first line feed. -/
theorem line_at {s : List UInt8} {f i : Nat} (hf : f ≤ i) (hi : s[i]? = some 10) (hno : ∀ k, f ≤ k → k < i → s[k]? ≠ some 10) : (s.drop f).takeWhile (· != 10) = (s.drop f).take (i - f) ∧ (s.drop f).dropWhile (· != 10) = 10 :: s.drop (i + 1) := by
  have hlt := getElem_lt hi
  have hd : s.drop f = (s.drop f).take (i - f) ++ 10 :: s.drop (i + 1) := by
    have h1 : (s.drop f).drop (i - f) = 10 :: s.drop (i + 1) := by
      rw [List.drop_drop, show f + (i - f) = i by omega, List.drop_eq_getElem_cons hlt]
      rw [List.getElem?_eq_getElem hlt] at hi; injection hi with hi; rw [hi]
    rw [← h1, List.take_append_drop]
  have hall : ((s.drop f).take (i - f)).all (· != 10) = true := by
    rw [List.all_eq_true]
    intro x hx
    obtain ⟨k, hk⟩ := List.mem_iff_getElem?.1 hx
    have hkl := getElem_lt hk
    rw [List.length_take, List.length_drop] at hkl
    rw [List.getElem?_take, if_pos (by omega), List.getElem?_drop] at hk
    have := hno (f + k) (by omega) (by omega)
    rw [hk] at this
    simpa using this
  have h2 := tw_gen (p := (· != 10)) ((s.drop f).take (i - f)) (10 :: s.drop (i + 1)) hall (.inr ⟨10, _, rfl, by simp⟩)
  rw [← hd] at h2
  exact h2
theorem no_line {s : List UInt8} {f : Nat} (hno : ∀ k, f ≤ k → k < s.length → s[k]? ≠ some 10) : (s.drop f).dropWhile (· != 10) = [] := by
  rw [dw_nil]
  intro x hx
  obtain ⟨k, hk⟩ := List.mem_iff_getElem?.1 hx
  have hkl := getElem_lt hk
  rw [List.length_drop] at hkl
  rw [List.getElem?_drop] at hk
  have := hno (f + k) (by omega) (by omega)
  rw [hk] at this
  simpa using this
set_option maxHeartbeats 4000000 in
theorem r41_Program_tot (s : List UInt8) (hs : s.length ≤ 10000) : Tot (r41_Program s) (fun r => r = pgV (s.length + 1) s []) := by
  unfold r41_Program
  refine Tot.bind (E := fun n : Int => n ≤ 10001) (Tot.guard (okIdx_of (by omega)) (Tot.range (fun i v => 0 ≤ v ∧ v ≤ (i : Int) + 1) _ (by simp) (fun i c v hx hr => ?_) (fun v hr => .ok (by omega)))) (fun n hn => ?_)
  · have hlt := getElem_lt hx
    refine TotX.bind (E := fun w : Int => 0 ≤ w ∧ w ≤ ((i + 1 : Nat) : Int) + 1) (Tot.ite (fun _ => .ok ?_) (fun _ => .ok ?_)) (fun w hw => .go hw)
    · rw [wrap_i64 (by omega) (by omega)]; omega
    · omega
  · refine Tot.ite (fun h => ?_) (fun _ => ?_)
    · simp only [Bool.or_eq_true, decide_eq_true_eq] at h; omega
    · generalize hT : pgV (s.length + 1) s [] = T
      refine Tot.bindX (E := fun v : List ApiBlock × Int => (if v.2 < (s.length : Int) then (([], (v.1.length : Int) + 1, 2) : GR) else (v.1, 0, 0)) = T ∧ v.1.length ≤ s.length) (TotX.of (Tot.mono (E := fun x => match x with | .ret e => e = T | .go v => (if v.2 < (s.length : Int) then (([], (v.1.length : Int) + 1, 2) : GR) else (v.1, 0, 0)) = T ∧ v.1.length ≤ s.length) ?_ (fun x h => by cases x <;> exact h))) (fun v hv => ?_)
      · refine Tot.guard (okIdx_of (by omega)) (Tot.range (fun i v => ∃ (f m : Nat) (out : List ApiBlock), v = (out, (f : Int)) ∧ f ≤ i ∧ f ≤ s.length ∧ out.length ≤ f ∧ (∀ k, f ≤ k → k < i → s[k]? ≠ some 10) ∧ pgV m (s.drop f) out = T ∧ s.length - f < m) _ ⟨0, s.length + 1, [], rfl, by omega, by omega, by simp, fun k _ q => by omega, hT, by omega⟩ (fun i c v hx hr => ?_) (fun v hr => ?_))
        · obtain ⟨f, m, out, rfl, hf, hfl, hol, hno, ht, hm⟩ := hr
          have hlt := getElem_lt hx
          dsimp only
          rw [c10]
          by_cases hc : c = 10
          · subst hc
            obtain ⟨l1, l2⟩ := line_at hf hx hno
            obtain ⟨m, rfl⟩ : ∃ q, m = q + 1 := ⟨m - 1, by omega⟩
            unfold pgV at ht
            rw [if_neg (by
              intro e
              have := congrArg List.length e
              simp at this; omega), l2] at ht
            have hcut : cutL s (f : Int) (i : Int) = some ((s.drop f).takeWhile (· != 10)) := by
              unfold cutL
              rw [if_neg (by omega), Int.toNat_natCast, Int.toNat_natCast, l1]
            obtain ⟨y, hy, rfl⟩ := r41_Parse_tot ((s.drop f).takeWhile (· != 10)) (by
              have := (tw_len (· != 10) (s.drop f)).1
              simp at this; omega)
            rw [show ((10 : UInt8) == 10) = true from rfl, if_pos rfl, hcut, bindO_s, hy, bindO_s]
            rw [pgN_cons] at ht
            by_cases he : (prsV ((s.drop f).takeWhile (· != 10))).2.2 = 0
            · rw [if_neg (by simpa using he)] at ht
              rw [he, show (((0 : Int)) != 0) = false from rfl, if_neg (by simp), okLen_of (by omega), guardO_t]
              have hw : IntKind.i64.wrap ((i : Int) + 1) = ((i + 1 : Nat) : Int) := by rw [wrap_i64 (by omega) (by omega)]; omega
              rw [hw]
              exact .go ⟨i + 1, m, _, rfl, by omega, by omega, by simp; omega, fun k q1 q2 => by omega, ht, by omega⟩
            · rw [if_pos he] at ht
              rw [show ((prsV ((s.drop f).takeWhile (· != 10))).2.2 != 0) = true by simpa using he, if_pos rfl, wrap_i64 (by omega) (by omega)]
              exact .ret ht
          · rw [show (c == 10) = false by simpa using hc, if_neg (by simp)]
            refine .go ⟨f, m, out, rfl, by omega, hfl, hol, fun k q1 q2 => ?_, ht, hm⟩
            rcases Nat.lt_or_ge k i with q | q
            · exact hno k q1 q
            · obtain rfl : k = i := by omega
              rw [hx]
              simpa using hc
        · obtain ⟨f, m, out, rfl, hf, hfl, hol, hno, ht, hm⟩ := hr
          refine .ok ⟨?_, by simp only; omega⟩
          obtain ⟨m, rfl⟩ : ∃ q, m = q + 1 := ⟨m - 1, by omega⟩
          unfold pgV at ht
          simp only
          by_cases hfe : f = s.length
          · rw [if_pos (by rw [hfe]; simp)] at ht
            rw [if_neg (by omega)]
            exact ht
          · rw [if_neg (by
              intro e
              have := congrArg List.length e
              simp at this; omega), no_line hno] at ht
            rw [if_pos (by omega)]
            exact ht
      · obtain ⟨hv1, hv2⟩ := hv
        by_cases hlt : v.2 < (s.length : Int)
        · rw [if_pos hlt] at hv1
          rw [decide_eq_true hlt, if_pos rfl, wrap_i64 (by omega) (by omega)]
          exact .ok hv1
        · rw [if_neg hlt] at hv1
          rw [decide_eq_false hlt, if_neg (by simp)]
          exact .ok hv1
theorem pgV_small : ∀ (n : Nat) (s : List UInt8) (out : List ApiBlock), (∀ b ∈ out, b.Words.length ≤ 16) → out.length + s.length ≤ 10000 → (pgV n s out).1.length ≤ 10000 ∧ ∀ b ∈ (pgV n s out).1, b.Words.length ≤ 16
  | 0, s, out, h, hl => ⟨by show out.length ≤ _; omega, h⟩
  | n + 1, s, out, h, hl => by
    unfold pgV
    by_cases hs : s = []
    · rw [if_pos hs]; exact ⟨by show out.length ≤ _; omega, h⟩
    · rw [if_neg hs]
      cases hd : s.dropWhile (· != 10) with
      | nil => exact ⟨by simp [pgN], by simp [pgN]⟩
      | cons c q =>
        rw [pgN_cons]
        by_cases he : (prsV (s.takeWhile (· != 10))).2.2 = 0
        · rw [if_neg (by simpa using he)]
          have hq : q.length < s.length := by
            have := congrArg List.length (List.takeWhile_append_dropWhile (p := (· != 10)) (l := s))
            rw [List.length_append, hd, List.length_cons] at this
            omega
          refine pgV_small n q _ (fun b hb => ?_) (by simp; omega)
          rcases List.mem_append.1 hb with hb | hb
          · exact h b hb
          · simp at hb
            subst hb
            rcases prs_inv (s.takeWhile (· != 10)) with ⟨a, e, h1, h2⟩ | ⟨b, h1, h2, _⟩
            · rw [h2]; simp [badR]
            · rw [h1]; exact h2.1
        · rw [if_pos he]
          exact ⟨by simp, by simp⟩
theorem blockProgram_plain (s : List UInt8) (_ : inStr s) : l41_BlockProgram s = some true := by
  unfold l41_BlockProgram
  rw [awake41, bindO_s, if_pos rfl, bindO_s]
  cases hb : decide ((s.length : Int) > 1000) with
  | true => rfl
  | false =>
    have hl : (s.length : Int) ≤ 1000 := by simpa using hb
    have hc := count_le s 10
    obtain ⟨y, hy, rfl⟩ := bk_Program_tot s (by omega) (by omega)
    obtain ⟨z, hz, rfl⟩ := r41_Program_tot s (by omega)
    obtain ⟨h1, h2⟩ := pgV_small (s.length + 1) s [] (by simp) (by simp; omega)
    rw [if_neg (by simp), hy, bindO_s, hz, bindO_s]
    simp only [beq_self_eq_true, if_true]
    rw [same_refl _ (by omega) (fun b hb => by have := h2 b hb; omega)]
    rfl
end Go.Proofs.YtijihbegfmkceaaGreatDoor
