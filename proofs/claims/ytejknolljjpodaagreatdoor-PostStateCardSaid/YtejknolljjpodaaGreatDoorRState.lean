/-
  PostState: what its mirror computes is true.
-/
import Derived.Test.YtejknolljjpodaaGreatDoorPq
import Derived.Test.YtejknolljjpodaaGreatDoorMLState
namespace Go.Proofs.YtejknolljjpodaaGreatDoor
open Go.RowKit
set_option linter.unusedVariables false
set_option linter.unusedSimpArgs false

theorem md_All_eq (s : ModalState) (l : List ApiBlock) (h : ∀ b ∈ l, okB b) (hl : l.length ≤ 9223372036854775807) : md_All s l = some (allW s 0 l) := by
  unfold md_All
  rw [okIdx_of hl, guardO_t]
  have key : ∀ (f : Nat → ApiBlock → ModalState → Option (Ex (Ex (ModalState × Int × Int) ModalState) ModalState)) (l : List ApiBlock) (i : Nat) (s : ModalState),
      (∀ (i : Nat) (b : ApiBlock) (s : ModalState), b ∈ l → f i b s = if goodW [] b.Words = true then some (.go (b.Words.foldl putW s)) else some (.ret (.ret (zS, (i : Int), 1)))) →
      bindX (rangeX f (fun v => some (.go v)) l i s) (fun v => some (v, 0, 0)) = some (allW s i l) := by
    intro f l
    induction l with
    | nil => intro i s _; rfl
    | cons b l ih =>
      intro i s hf
      simp only [rangeX, hf i b s (by simp), allW]
      cases hg : goodW [] b.Words with
      | false => simp
      | true => exact ih (i + 1) _ fun i b s hb => hf i b s (by simp [hb])
  refine key _ l 0 s fun i b s hb => ?_
  rw [md_Apply_eq s b (h b hb), bindO_s]
  cases goodW [] b.Words <;> simp [zS]
/-- The field of a state that words of a class set. -/
def fldS (s : ModalState) (c : Int) : Int := if c = 1 then s.Motion else if c = 2 then s.Distance else if c = 3 then s.Work else if c = 4 then s.Length else if c = 5 then s.Return else if c = 80 then s.Feed else if c = 94 then s.Tool else if c = 82 then s.Offset else 0
theorem fld_put {s : ModalState} {w : ApiWord} {c : Int} (hw : clsW w ≠ 0) (hu : u8W w) (hc : c ≠ clsW w) : fldS (putW s w) c = fldS s c := by
  obtain ⟨u1, u2⟩ := hu
  unfold putW
  unfold clsW at hw hc
  by_cases h1 : w.Letter = 71
  · rw [if_pos h1] at hw hc ⊢
    rcases grp_in w.Value with q | q | q | q | q | q
    · exact absurd q hw
    all_goals (rw [q] at hc; simp [q, fldS]; intros; omega)
  · rw [if_neg h1] at hw hc ⊢
    by_cases h2 : w.Letter = 70
    · rw [h2] at hc; simp [h2, fldS]; intros; omega
    · by_cases h3 : w.Letter = 84
      · rw [h3] at hc; simp [h3, fldS]; intros; omega
      · by_cases h4 : w.Letter = 72
        · rw [h4] at hc; simp [h4, fldS]; intros; omega
        · simp [h2, h3, h4]
theorem idle_fld {s v : ModalState} {w : ApiWord} (hw : clsW w ≠ 0) (hi : idleW s w = true) (hv : fldS v (clsW w) = fldS s (clsW w)) : putW v w = v := by
  unfold idleW at hi
  simp only [Bool.and_eq_true, decide_eq_true_eq] at hi
  obtain ⟨hk, _, hp⟩ := hi
  obtain ⟨s1, s2, s3, s4, s5, s6, s7, s8⟩ := s
  obtain ⟨v1, v2, v3, v4, v5, v6, v7, v8⟩ := v
  unfold putW at hp ⊢
  unfold clsW at hw hv
  by_cases h1 : w.Letter = 71
  · rw [if_pos h1] at hw hv hp ⊢
    rcases grp_in w.Value with q | q | q | q | q | q
    · exact absurd q hw
    all_goals (rw [q] at hv; simp [q] at hp; simp [fldS] at hv; simp [q]; omega)
  · rw [if_neg h1] at hw hv hp ⊢
    by_cases h2 : w.Letter = 70
    · rw [h2] at hv; simp [h2] at hp; simp [fldS] at hv; simp [h2]; omega
    · by_cases h3 : w.Letter = 84
      · rw [h3] at hv; simp [h3] at hp; simp [fldS] at hv; simp [h3]; omega
      · by_cases h4 : w.Letter = 72
        · rw [h4] at hv; simp [h4] at hp; simp [fldS] at hv; simp [h4]; omega
        · simp [h2, h3, h4]
theorem put_filter (s : ModalState) : ∀ (ws : List ApiWord) (seen : List Int) (v : ModalState), goodW seen ws = true → (∀ w ∈ ws, u8W w) → (∀ c, c ∉ seen → fldS v c = fldS s c) → (ws.filter fun w => !idleW s w).foldl putW v = ws.foldl putW v
  | [], _, _, _, _, _ => rfl
  | w :: r, seen, v, h, hu, hf => by
    simp only [goodW, Bool.and_eq_true, bne_iff_ne, ne_eq, Bool.not_eq_true', List.contains_eq_mem, decide_eq_false_iff_not] at h
    obtain ⟨⟨⟨h1, _⟩, h2⟩, h3⟩ := h
    rw [List.filter_cons, List.foldl_cons]
    cases hi : idleW s w with
    | true =>
      rw [if_neg (by simp), idle_fld h1 hi (hf _ h2)]
      exact put_filter s r _ v h3 (fun x hx => hu x (by simp [hx])) fun c hc => hf c (fun q => hc (by simp [q]))
    | false =>
      rw [if_pos (by simp), List.foldl_cons]
      refine put_filter s r _ _ h3 (fun x hx => hu x (by simp [hx])) fun c hc => ?_
      rw [fld_put h1 (hu w (by simp)) (fun q => hc (by simp [q]))]
      exact hf c (fun q => hc (by simp [q]))
theorem good_filter (q : ApiWord → Bool) : ∀ (ws : List ApiWord) (seen seen' : List Int), (∀ c, c ∈ seen' → c ∈ seen) → goodW seen ws = true → goodW seen' (ws.filter q) = true
  | [], _, _, _, _ => rfl
  | w :: r, seen, seen', hs, h => by
    simp only [goodW, Bool.and_eq_true, bne_iff_ne, ne_eq, Bool.not_eq_true', List.contains_eq_mem, decide_eq_false_iff_not] at h
    obtain ⟨⟨⟨h1, h0⟩, h2⟩, h3⟩ := h
    rw [List.filter_cons]
    cases q w with
    | true =>
      rw [if_pos rfl]
      simp only [goodW, Bool.and_eq_true, bne_iff_ne, ne_eq, Bool.not_eq_true', List.contains_eq_mem, decide_eq_false_iff_not]
      refine ⟨⟨⟨h1, h0⟩, fun z => h2 (hs _ z)⟩, good_filter q r _ _ (fun c hc => ?_) h3⟩
      rcases List.mem_cons.1 hc with z | z
      · simp [z]
      · simp [hs c z]
    | false =>
      rw [if_neg (by simp)]
      exact good_filter q r _ _ (fun c hc => by simp [hs c hc]) h3
theorem cmpV_good : ∀ (l : List ApiBlock) (s : ModalState), (∀ b ∈ l, goodB b) → (∀ b ∈ cmpV s l, goodB b) ∧ (cmpV s l).foldl (fun s b => b.Words.foldl putW s) s = l.foldl (fun s b => b.Words.foldl putW s) s
  | [], s, _ => ⟨fun b hb => by simp [cmpV] at hb, rfl⟩
  | b :: r, s, h => by
    obtain ⟨g1, g2, g3⟩ := h b (by simp)
    obtain ⟨i1, i2⟩ := cmpV_good r (b.Words.foldl putW s) (fun x hx => h x (by simp [hx]))
    have hp := put_filter s b.Words [] s g1 g2 (fun _ _ => rfl)
    rw [cmpV, List.foldl_append, List.foldl_cons]
    unfold cmpB
    split
    · refine ⟨fun x hx => ?_, ?_⟩
      · rcases List.mem_append.1 hx with q | q
        · simp only [List.mem_cons, List.not_mem_nil, or_false] at q
          subst q
          refine ⟨good_filter _ _ [] [] (fun c hc => hc) g1, fun w hw => g2 w (List.mem_filter.1 hw).1, ?_⟩
          have := List.length_filter_le (fun w => !idleW s w) b.Words
          simp only; omega
        · exact i1 x q
      · simp only [List.foldl_cons, List.foldl_nil]
        rw [hp, i2]
    · rename_i q
      have hz : (b.Words.filter fun w => !idleW s w) = [] := by
        simp only [Bool.or_eq_true, decide_eq_true_eq, not_or] at q
        exact List.eq_nil_of_length_eq_zero (by omega)
      rw [hz] at hp
      refine ⟨fun x hx => i1 x (by simpa using hx), ?_⟩
      simp only [List.foldl_nil] at hp ⊢
      rw [← hp] at i2 ⊢
      exact i2
theorem in_i64 {n : Int} (h : (inInt .i64) n) : i64P n := by
  simp [inInt, Lit.wf, IntKind.min, IntKind.max, IntKind.signed, IntKind.bits] at h
  unfold i64P; omega
theorem in_pos {p : ApiPos} (h : inApiPos p) : okPos p := ⟨in_i64 h.1, in_i64 h.2.1, in_i64 h.2.2⟩
theorem in_move {m : ApiMove} (h : inApiMove m) : okMove m := by
  obtain ⟨a, ⟨b1, b2, b3⟩, ⟨c1, c2⟩, d⟩ := h
  exact ⟨in_i64 a, ⟨in_i64 b1, in_i64 b2, in_i64 b3⟩, in_i64 c1, in_i64 c2, in_i64 d⟩
theorem r46_Few_tot {l : List ApiStage} (hl : l.length ≤ 9223372036854775807) (hm : ∀ s ∈ l, ∀ m ∈ s.Moves, okMove m) : Tot (r46_Few l 30) (fun b => b = true → okStages l) := by
  unfold r46_Few
  refine Tot.ite (fun q => .ok (fun h => by cases h)) (fun q => ?_)
  simp at q
  refine Tot.bindX (E := fun _ => ∀ s ∈ l, s.Moves.length ≤ 30) (TotX.of (Tot.guard (okIdx_of hl) (Tot.range (fun i _ => ∀ j, j < i → ∀ s, l[j]? = some s → s.Moves.length ≤ 30) _ (fun j q => by omega) (fun i s _ hs hr => ?_) (fun _ hr => .ok ?_)))) (fun _ h => .ok (fun _ => ⟨by omega, fun s hs => ⟨h s hs, hm s hs⟩⟩))
  · refine TotX.ite (fun z => .ret (fun h => by cases h)) (fun z => .go (fun j hj t ht => ?_))
    simp at z
    rcases Nat.lt_or_ge j i with y | y
    · exact hr j y t ht
    · obtain rfl : j = i := by omega
      rw [hs] at ht; injection ht with ht; rw [← ht]; omega
  · intro s hs
    obtain ⟨j, hj⟩ := List.mem_iff_getElem?.1 hs
    exact hr j (getElem_lt hj) s hj
theorem postState_plain (w : L46Work) (o : R46Options) (hw : inL46Work w) (ho : inR46Options o) : l46_PostState w o = some true := by
  obtain ⟨hs, hp⟩ := hw
  obtain ⟨b, hb, hf⟩ := r46_Few_tot (l := w.Stages) hs.1 (fun s h m hm => in_move ((hs.2 s h).2.2 m hm))
  unfold l46_PostState
  simp only [awake46, bindO_s, if_true, hb]
  cases b with
  | false => rfl
  | true =>
    have hok := hf rfl
    have hpp := in_pos hp
    obtain ⟨c, d, e, f⟩ := o
    simp only [Bool.not_true, Bool.false_eq_true, if_false]
    rw [po_Blocks_eq hok hpp, bindO_s, po_Blocks_eq hok hpp, bindO_s]
    unfold blocksV
    by_cases h0 : optV c 0 0 = 0
    · obtain ⟨o1, _⟩ := optV_ok h0
      obtain ⟨g1, g2⟩ := plain_good hok hpp o1
      rw [if_neg (show ¬ optV c 0 0 ≠ 0 by simpa using h0), if_neg (show ¬ optV c 0 0 ≠ 0 by simpa using h0)]
      by_cases h1 : (plainV w.Stages w.Start c).2 = 0
      · simp only [h1, ne_eq, not_true_eq_false, if_false, if_true, bodyV, bne_self_eq_false, Bool.or_self, Bool.false_eq_true, md_New, bindO_s]
        obtain ⟨c1, c2⟩ := cmpV_good (plainV w.Stages w.Start c).1 newS g2
        have c3 := cmpV_len (plainV w.Stages w.Start c).1 newS
        have k1 := md_All_eq newS (plainV w.Stages w.Start c).1 (fun b hb => ⟨(g2 b hb).2.1, by have := (g2 b hb).2.2; omega⟩) (by omega)
        have k2 := md_All_eq newS (cmpV newS (plainV w.Stages w.Start c).1) (fun b hb => ⟨(c1 b hb).2.1, by have := (c1 b hb).2.2; omega⟩) (by omega)
        rw [allW_good _ _ _ g2] at k1
        rw [allW_good _ _ _ c1, c2] at k2
        rw [show ModalState.mk 0 90000 54000 49000 98000 0 0 0 = newS from rfl, k1, bindO_s, k2, bindO_s]
        simp [c3]
      · simp [h1]
    · simp [h0]
end Go.Proofs.YtejknolljjpodaaGreatDoor
