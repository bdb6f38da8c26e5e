/-
  Layer 41: programs.
-/
import Derived.Test.YtijihbegfmkceaaGreatDoorBg
namespace Go.Proofs.YtijihbegfmkceaaGreatDoor
open Go.RowKit
set_option linter.unusedVariables false
set_option linter.unusedSimpArgs false

theorem idxd_facts (d : UInt8) : ∀ l : List UInt8, (Lib.indexByte l d = -1 ∧ l.takeWhile (· != d) = l ∧ l.dropWhile (· != d) = [] ∧ l.contains d = false) ∨ (∃ o : Nat, Lib.indexByte l d = (o : Int) ∧ o < l.length ∧ l.take o = l.takeWhile (· != d) ∧ l.drop o = l.dropWhile (· != d) ∧ l.contains d = true)
  | [] => .inl ⟨rfl, rfl, rfl, rfl⟩
  | b :: l => by
    unfold Lib.indexByte
    by_cases hb : b = d
    · subst hb
      refine .inr ⟨0, ?_, by simp, by simp, by simp, by simp⟩
      rw [if_pos (by simp)]; rfl
    · have hb1 : (b == d) = false := by simpa using hb
      have hb2 : (b != d) = true := by simp [hb]
      have hb3 : (d == b) = false := by simpa using fun e => hb e.symm
      rw [hb1]
      simp only [Bool.false_eq_true, if_false, List.takeWhile_cons, List.dropWhile_cons, hb2, if_true, List.contains_cons, hb3, Bool.false_or]
      rcases idxd_facts d l with ⟨h1, h2, h3, h4⟩ | ⟨o, h1, h2, h3, h4, h5⟩
      · left
        rw [h1, h2]
        exact ⟨rfl, rfl, h3, h4⟩
      · right
        have hne : ((o : Int) == -1) = false := by simp
        rw [h1, hne]
        refine ⟨o + 1, by simp, by simpa using h2, ?_, by simpa using h4, h5⟩
        rw [List.take_succ_cons, h3]
theorem cutd (d : UInt8) (s : List UInt8) (hs : s.length ≤ 1000000) : strings_Cut s [d] = some (s.takeWhile (· != d), (s.dropWhile (· != d)).drop 1, s.contains d) := by
  have hi : stringslite_Index s [d] = some (Lib.indexByte s d) := by
    unfold stringslite_Index
    by_cases he : s = [d]
    · subst he
      rw [show (((([d] : List UInt8).length : Int) == 0) || (([d] : List UInt8) == [d])) = true by simp, if_pos rfl]
      unfold Lib.indexByte
      rw [if_pos (by simp)]
    · have : (((([d] : List UInt8).length : Int) == 0) || (([d] : List UInt8) == s)) = false := by
        simp
        exact fun e => he e.symm
      rw [this]
      show bindO (stringslite_IndexByte s (d.toNat : Int)) _ = _
      unfold stringslite_IndexByte
      have hd : ((d.toNat : Int)).toNat.toUInt8 = d := by
        rw [Int.toNat_natCast]
        exact UInt8.ofNat_toNat
      rw [hd]; rfl
  unfold strings_Cut stringslite_Cut
  rw [hi, bindO_s]
  rcases idxd_facts d s with ⟨h1, h2, h3, h4⟩ | ⟨o, h1, h2, h3, h4, h5⟩
  · rw [h1, h2, h3, h4]; rfl
  · rw [h1, h5, ← h3, ← h4]
    have hw : IntKind.i64.wrap ((o : Int) + (([d] : List UInt8).length : Int)) = ((o + 1 : Nat) : Int) := by
      simp only [List.length_cons, List.length_nil]
      rw [wrap_i64 (by omega) (by omega)]; omega
    have hc1 : cutT s (o : Int) = some (s.take o) := by unfold cutT; rw [if_neg (by omega), Int.toNat_natCast]
    have hc2 : cutF s ((o + 1 : Nat) : Int) = some (s.drop (o + 1)) := by unfold cutF; rw [if_neg (by omega), Int.toNat_natCast]
    rw [decide_eq_true (show (o : Int) ≥ 0 by omega), if_pos rfl, hc1, bindO_s, hw, hc2, bindO_s, bindO_s, List.drop_drop]
theorem cont_drop (d : UInt8) (s : List UInt8) : (s.contains d = false ∧ s.dropWhile (· != d) = [] ∧ s.takeWhile (· != d) = s) ∨ (s.contains d = true ∧ ∃ q, s.dropWhile (· != d) = d :: q) := by
  rcases idxd_facts d s with ⟨_, h2, h3, h4⟩ | ⟨o, _, h2, h3, h4, h5⟩
  · exact .inl ⟨h4, h3, h2⟩
  · right
    refine ⟨h5, ?_⟩
    cases hd : s.dropWhile (· != d) with
    | nil =>
      rw [hd] at h4
      have := congrArg List.length h4
      simp at this; omega
    | cons c r =>
      have hc := List.head?_dropWhile_not (· != d) s
      rw [hd] at hc
      simp at hc
      rw [hc]
      exact ⟨r, rfl⟩

abbrev GR := List ApiBlock × Int × Int
/-- A program, line by line. -/
def pgN (out : List ApiBlock) (line : List UInt8) (K : List UInt8 → GR) : List UInt8 → GR
  | [] => ([], (out.length : Int) + 1, 2)
  | _ :: q => if (prsV line).2.2 ≠ 0 then ([], (out.length : Int) + 1, (prsV line).2.2) else K q
theorem pgN_cons (out : List ApiBlock) (line : List UInt8) (K : List UInt8 → GR) (c : UInt8) (q : List UInt8) : pgN out line K (c :: q) = if (prsV line).2.2 ≠ 0 then ([], (out.length : Int) + 1, (prsV line).2.2) else K q := rfl
def pgV : Nat → List UInt8 → List ApiBlock → GR
  | 0, _, out => (out, 0, 0)
  | n + 1, s, out => if s = [] then (out, 0, 0) else pgN out (s.takeWhile (· != 10)) (fun q => pgV n q (out ++ [(prsV (s.takeWhile (· != 10))).1])) (s.dropWhile (· != 10))
theorem prs_err (s : List UInt8) : (prsV s).2.2 = 0 ∨ (prsV s).2.2 ≠ 0 := by omega
theorem bk_Program_tot (s : List UInt8) (hs : s.length ≤ 60000) (hc : (Lib.countByte s 10 : Int) < 20000) : Tot (bk_Program s) (fun r => r = pgV (s.length + 1) s []) := by
  unfold bk_Program
  have h1 : (if (decide ((s.length : Int) > 65536)) = true then
        some true
      else
        bindO (strings_Count s [10]) fun (y101 : Int) =>
        if (decide (y101 > 20000)) = true then
          some true
        else
          bindO (strings_Count s [10]) fun (y102 : Int) =>
          if (y102 == 20000) = true then
            bindO (strings_HasSuffix s [10]) fun (y103 : Bool) =>
            some (!y103)
          else
            some false) = some false := by
    have hcnt : strings_Count s [10] = some (Lib.countByte s 10 : Int) := rfl
    rw [decide_eq_false (by omega), if_neg (by simp), hcnt, bindO_s, decide_eq_false (by omega), if_neg (by simp), bindO_s, show ((Lib.countByte s 10 : Int) == 20000) = false by simp; omega, if_neg (by simp)]
  rw [h1, bindO_s, if_neg (by simp)]
  generalize hT : pgV (s.length + 1) s [] = T
  refine Tot.bindX (E := fun out : List ApiBlock => ((out, 0, 0) : GR) = T) (TotX.of (Tot.mono (E := fun x => match x with | .ret e => e = T | .go out => ((out, 0, 0) : GR) = T) ?_ (fun x h => by cases x <;> exact h))) (fun out h => .ok h)
  refine Tot.loop (fun m v => ∃ (r : List UInt8) (out : List ApiBlock), v = (r, out, (out.length : Int) + 1) ∧ pgV m r out = T ∧ r.length < m ∧ out.length + r.length ≤ s.length) _ (s.length + 1) (fuel_gt (by omega)) ⟨s, [], by simp, hT, by omega, by simp⟩ (fun m v hr => ?_)
  obtain ⟨r, out, rfl, ht, hm, hlen⟩ := hr
  obtain ⟨n, rfl⟩ : ∃ n, m = n + 1 := ⟨m - 1, by omega⟩
  unfold pgV at ht
  dsimp only
  by_cases hnil : r = []
  · rw [if_pos hnil] at ht
    rw [show (!(r == ([] : List UInt8))) = false by rw [hnil]; rfl, if_neg (by simp)]
    exact .ret ht
  · rw [if_neg hnil] at ht
    have hb : (r == ([] : List UInt8)) = false := by simpa using hnil
    rw [hb, Bool.not_false, if_pos rfl, cutd 10 r (by omega), bindO_s]
    have htw := (tw_len (· != 10) r).1
    obtain ⟨y, hy, rfl⟩ := bk_Parse_tot (r.takeWhile (· != 10)) (by omega)
    rw [hy, bindO_s]
    rcases cont_drop 10 r with ⟨c1, c2, _⟩ | ⟨c1, q, c2⟩
    · rw [c2] at ht
      rw [c1]
      exact .ret (by rw [← ht]; rfl)
    · rw [c2] at ht
      rw [c1, c2]
      dsimp only
      rw [pgN_cons] at ht
      rw [if_neg (by simp), bindO_s]
      have hql : q.length < r.length := by
        have := congrArg List.length (List.takeWhile_append_dropWhile (p := (· != 10)) (l := r))
        rw [List.length_append, c2, List.length_cons] at this
        omega
      by_cases he : (prsV (r.takeWhile (· != 10))).2.2 = 0
      · rw [if_neg (by simpa using he)] at ht
        rw [he, if_neg (by simp), okLen_of (by omega), guardO_t]
        refine .go ⟨n, by omega, q, _, ?_, ht, by omega, by simp; omega⟩
        rw [wrap_i64 (by omega) (by omega)]
        simp
      · rw [if_pos he] at ht
        rw [show ((prsV (r.takeWhile (· != 10))).2.2 != 0) = true by simpa using he, if_pos rfl]
        exact .ret ht
theorem count_le (s : List UInt8) (c : UInt8) : Lib.countByte s c ≤ s.length := List.count_le_length
/-- A program that is written, read again. -/
def prt (l : List ApiBlock) : List UInt8 := (l.map fun b => fmtV b ++ [10]).flatten
theorem no10 {b : ApiBlock} (h : validP b) : (fmtV b).all (· != 10) = true := by
  have hn : ∀ l : List UInt8, l.all nch = true → l.all (· != 10) = true := by
    intro l hl
    rw [List.all_eq_true] at hl ⊢
    intro x hx
    have := hl x hx
    by_cases e : x = 10
    · subst e; cases this
    · simpa using e
  have hw : ∀ w ∈ b.Words, (wt w).all (· != 10) = true := by
    intro w hw
    obtain ⟨o1, o2, _⟩ := h.2.2.1 w hw
    have hL := letter_toNat o1 o2
    unfold wt
    rw [List.all_cons, hn _ (nch_txt _)]
    have : (UInt8.ofNat w.Letter.toNat != 10) = true := by
      rw [bne_iff_ne]
      intro e
      rw [e] at hL
      have : (10 : UInt8).toNat = 10 := rfl
      omega
    rw [this]; rfl
  have hc : ∀ x ∈ b.Words.map wt ++ cmT b.Comment, x.all (· != 10) = true := by
    intro x hx
    rcases List.mem_append.1 hx with hx | hx
    · obtain ⟨w, hw', rfl⟩ := List.mem_map.1 hx
      exact hw w hw'
    · unfold cmT at hx
      split at hx
      · cases hx
      · simp at hx
        subst hx
        rw [List.all_cons, List.all_append]
        have : b.Comment.all (· != 10) = true := by
          rw [List.all_eq_true]
          intro c hc
          have := h.2.2.2 c hc
          by_cases e : c = 10
          · subst e; cases this
          · simpa using e
        rw [this]; rfl
  have hj : ∀ l : List (List UInt8), (∀ x ∈ l, x.all (· != 10) = true) → (jn l).all (· != 10) = true := by
    intro l hl
    cases l with
    | nil => rfl
    | cons x l =>
      show (x ++ (l.map (32 :: ·)).flatten).all (· != 10) = true
      rw [List.all_append, hl x (by simp), Bool.true_and, List.all_eq_true]
      intro c hc
      obtain ⟨y, hy, hcy⟩ := List.mem_flatten.1 hc
      obtain ⟨z, hz, rfl⟩ := List.mem_map.1 hy
      rcases List.mem_cons.1 hcy with rfl | hcz
      · rfl
      · exact List.all_eq_true.1 (hl z (by simp [hz])) c hcz
  unfold fmtV
  rw [List.all_append, hj _ hc]
  cases b.Skip <;> rfl
theorem tw10 {b : ApiBlock} (h : validP b) (q : List UInt8) : ((fmtV b ++ [10]) ++ q).takeWhile (· != 10) = fmtV b ∧ ((fmtV b ++ [10]) ++ q).dropWhile (· != 10) = 10 :: q := by
  have := tw_gen (p := (· != 10)) (fmtV b) (10 :: q) (no10 h) (.inr ⟨10, q, rfl, by simp⟩)
  rw [List.append_assoc]
  exact this
theorem pgV_prt : ∀ (l : List ApiBlock) (n : Nat) (out : List ApiBlock), (∀ b ∈ l, validP b) → l.length < n → pgV n (prt l) out = (out ++ l, 0, 0)
  | [], n, out, _, hn => by
    obtain ⟨n, rfl⟩ : ∃ q, n = q + 1 := ⟨n - 1, by simp at hn; omega⟩
    rw [List.append_nil]; rfl
  | b :: l, n, out, h, hn => by
    obtain ⟨n, rfl⟩ : ∃ q, n = q + 1 := ⟨n - 1, by simp at hn; omega⟩
    obtain ⟨t1, t2⟩ := tw10 (h b (by simp)) (prt l)
    have hp : prt (b :: l) = (fmtV b ++ [10]) ++ prt l := by simp [prt]
    unfold pgV
    rw [if_neg (by rw [hp]; simp), hp, t1, t2]
    rw [pgN_cons, parse_fmt b (h b (by simp)), if_neg (by simp), pgV_prt l n _ (fun x hx => h x (by simp [hx])) (by simpa using hn)]
    simp
theorem count_prt : ∀ l : List ApiBlock, (∀ b ∈ l, validP b) → Lib.countByte (prt l) 10 = l.length
  | [], _ => rfl
  | b :: l, h => by
    have hp : prt (b :: l) = (fmtV b ++ [10]) ++ prt l := by simp [prt]
    have ih := count_prt l (fun x hx => h x (by simp [hx]))
    unfold Lib.countByte at ih ⊢
    rw [hp, List.count_append, List.count_append, ih]
    have h0 : List.count 10 (fmtV b) = 0 := by
      rw [List.count_eq_zero]
      intro hm
      have := List.all_eq_true.1 (no10 (h b (by simp))) 10 hm
      cases this
    rw [h0]
    simp
    omega
theorem prt_len : ∀ l : List ApiBlock, (∀ b ∈ l, (fmtV b).length ≤ 2000) → (prt l).length ≤ l.length * 2001
  | [], _ => by simp [prt]
  | b :: l, h => by
    have hp : prt (b :: l) = (fmtV b ++ [10]) ++ prt l := by simp [prt]
    have ih := prt_len l (fun x hx => h x (by simp [hx]))
    have := h b (by simp)
    rw [hp, List.length_append, List.length_append, List.length_cons, List.length_nil, List.length_cons, Nat.add_mul]
    omega
theorem same_refl (l : List ApiBlock) (hl : l.length ≤ 100000) (hw : ∀ b ∈ l, b.Words.length ≤ 1000000) : r41_Same l l = some true := by
  unfold r41_Same
  rw [bne_self_eq_false, if_neg (by simp)]
  have key : Tot (guardO (okIdx l) (
        rangeX (fun (i155 : Nat) (e157 : ApiBlock) (v156 : Unit) =>
          bindO (gt l (i155 : Int)) fun (e160 : ApiBlock) =>
          bindO (r41_Equal e157 e160) fun (y161 : Bool) =>
          if (!y161) = true then
            some (.ret (.ret false))
          else
            some (.go ())) (fun (v156 : Unit) => some (.go ())) l 0 ())) (fun x : Ex Bool Unit => x = .go ()) := by
    refine Tot.guard (okIdx_of (by omega)) (Tot.range (fun _ _ => True) _ trivial (fun i x v hx hr => ?_) (fun v hr => .ok rfl))
    rw [gt_k hx, bindO_s, r41_equal_eq x x (hw x (List.mem_of_getElem? hx)), bindO_s, decide_eq_true rfl, if_neg (by simp)]
    exact .go trivial
  obtain ⟨e, h1, rfl⟩ := key
  rw [h1]; rfl
end Go.Proofs.YtijihbegfmkceaaGreatDoor
