/-
  States, End, Connected and Tools of both interpreters come to the same (plain part of InterpreterStates).
-/
import Derived.Test.YtlcfgpjgjdjpoaaDoorPb
namespace Go.Proofs.YtlcfgpjgjdjpoaaDoor
open Go.RowKit

def okB (b : ApiBlock) : Prop := (∀ w ∈ b.Words, u8W w) ∧ b.Words.length ≤ 9223372036854775806
theorem goodW_ne : ∀ (l : List ApiWord) (s : List Int), goodW s l = true → ∀ w ∈ l, clsW w ≠ 0
  | [], _, _, w, hw => by simp at hw
  | x :: l, s, h, w, hw => by
    simp only [goodW, Bool.and_eq_true, bne_iff_ne] at h
    rcases List.mem_cons.1 hw with e | e
    · subst e; exact h.1.1.1
    · exact goodW_ne l _ h.2 w e
theorem cls_put {w : ApiWord} (h : clsW w ≠ 0) : w.Letter = 71 → grp w.Value ≠ 0 := fun e => by rwa [clsW_g e] at h
def zS : ModalState := ⟨0, 0, 0, 0, 0, 0, 0, 0⟩
theorem md_Apply_eq (s : ModalState) (b : ApiBlock) (h : okB b) : md_Apply s b = some (if goodW [] b.Words = true then (b.Words.foldl putW s, 0) else (zS, 1)) := by
  unfold md_Apply
  rw [md_Check_eq b h.1 (by have := h.2; omega), bindO_s]
  cases hg : goodW [] b.Words with
  | false => simp [zS]
  | true =>
    simp only [if_true]
    rw [okIdx_of (by have := h.2; omega), guardO_t, rangeX_go putW b.Words 0 s ?_]
    · simp
    · intro i x v hx
      rw [md_put_eq v x (cls_put (goodW_ne _ _ hg x hx)), bindO_s]
theorem r42_Apply_eq (s : ModalState) (b : ApiBlock) (h : okB b) : r42_Apply (backS s) b = some (if goodW [] b.Words = true then (backS (b.Words.foldl putW s), 0) else (backS zS, 1)) := by
  unfold r42_Apply
  rw [r42_Check_eq b h.1 h.2, bindO_s]
  cases hg : goodW [] b.Words with
  | false => simp [zS, backS]
  | true =>
    simp only [if_true]
    have key : ∀ (f : Nat → ApiWord → R42State → Option (Ex R42State R42State)) (l : List ApiWord) (i : Nat) (s : ModalState), (∀ i w s, w ∈ l → f i w (backS s) = some (.go (backS (putW s w)))) → rangeX f (fun v => some v) l i (backS s) = some (backS (l.foldl putW s)) := by
      intro f l
      induction l with
      | nil => intro i s _; rfl
      | cons x l ih =>
        intro i s hf
        simp only [rangeX, hf i x s (by simp), List.foldl_cons]
        exact ih (i + 1) (putW s x) fun i w s hw => hf i w s (by simp [hw])
    rw [okIdx_of (by have := h.2; omega), guardO_t, key _ b.Words 0 s ?_]
    · simp
    · intro i x v hx
      rw [r42_one_eq v x (cls_put (goodW_ne _ _ hg x hx)), bindO_s]

def allW : ModalState → Nat → List ApiBlock → ModalState × Int × Int
  | s, _, [] => (s, 0, 0)
  | s, i, b :: l => if goodW [] b.Words = true then allW (b.Words.foldl putW s) (i + 1) l else (zS, (i : Int), 1)
theorem md_All_eq (s : ModalState) (l : List ApiBlock) (h : ∀ b ∈ l, okB b) (hl : l.length ≤ 9223372036854775807) : md_All s l = some (allW s 0 l) := by
  unfold md_All
  rw [okIdx_of hl, guardO_t]
  have key : ∀ (f : Nat → ApiBlock → ModalState → Option (Ex (Ex (ModalState × Int × Int) ModalState) ModalState)) (l : List ApiBlock) (i : Nat) (s : ModalState),
      (∀ (i : Nat) (b : ApiBlock) (s : ModalState), b ∈ l → f i b s = if goodW [] b.Words = true then some (.go (b.Words.foldl putW s)) else some (.ret (.ret (zS, (i : Int), 1)))) →
      bindX (rangeX f (fun v => some (.go v)) l i s) (fun v => some (v, 0, 0)) = some (allW s i l) := by
    intro f l
    induction l with
    | nil => intro i s _; rfl
    | cons b l ih =>
      intro i s hf
      simp only [rangeX, hf i b s (by simp), allW]
      cases hg : goodW [] b.Words with
      | false => simp
      | true => exact ih (i + 1) _ fun i b s hb => hf i b s (by simp [hb])
  refine key _ l 0 s fun i b s hb => ?_
  rw [md_Apply_eq s b (h b hb), bindO_s]
  cases goodW [] b.Words <;> simp [zS]
theorem r42_All_eq (s : ModalState) (l : List ApiBlock) (h : ∀ b ∈ l, okB b) (hl : l.length ≤ 9223372036854775807) : r42_All (backS s) l = some (backS (allW s 0 l).1, (allW s 0 l).2.1, (allW s 0 l).2.2) := by
  unfold r42_All
  rw [okIdx_of hl, guardO_t]
  have key : ∀ (f : Nat → ApiBlock → R42State → Option (Ex (Ex (R42State × Int × Int) R42State) R42State)) (l : List ApiBlock) (i : Nat) (s : ModalState),
      (∀ (i : Nat) (b : ApiBlock) (s : ModalState), b ∈ l → f i b (backS s) = if goodW [] b.Words = true then some (.go (backS (b.Words.foldl putW s))) else some (.ret (.ret (backS zS, (i : Int), 1)))) →
      bindX (rangeX f (fun v => some (.go v)) l i (backS s)) (fun v => some (v, 0, 0)) = some (backS (allW s i l).1, (allW s i l).2.1, (allW s i l).2.2) := by
    intro f l
    induction l with
    | nil => intro i s _; rfl
    | cons b l ih =>
      intro i s hf
      simp only [rangeX, hf i b s (by simp), allW]
      cases hg : goodW [] b.Words with
      | false => simp
      | true => exact ih (i + 1) _ fun i b s hb => hf i b s (by simp [hb])
  refine key _ l 0 s fun i b s hb => ?_
  rw [r42_Apply_eq s b (h b hb), bindO_s]
  cases goodW [] b.Words <;> simp [zS, backS]
theorem allW_err (l : List ApiBlock) : ∀ (s : ModalState) (i : Nat), ((allW s i l).2.2 = 0) ∨ ((allW s i l).2.2 = 1 ∧ (allW s i l).1 = zS) := by
  induction l with
  | nil => intro s i; exact .inl rfl
  | cons b l ih =>
    intro s i
    simp only [allW]
    cases goodW [] b.Words with
    | true => exact ih _ _
    | false => exact .inr ⟨rfl, rfl⟩

def statesW (l : List ApiBlock) (n : Int) : ModalState × Int :=
  if n < 0 ∨ n > (l.length : Int) then (zS, 1) else ((allW ⟨0, 90000, 54000, 49000, 98000, 0, 0, 0⟩ 0 (l.take n.toNat)).1, (allW ⟨0, 90000, 54000, 49000, 98000, 0, 0, 0⟩ 0 (l.take n.toNat)).2.2)
theorem cutT_at {α : Type} {l : List α} {n : Int} (h0 : 0 ≤ n) (h : n ≤ (l.length : Int)) : cutT l n = some (l.take n.toNat) := by
  simp [cutT, h0, h]
theorem inp_States_eq (l : List ApiBlock) (n : Int) (h : ∀ b ∈ l, okB b) (hl : l.length ≤ 9223372036854775807) : inp_States l n = some (statesW l n) := by
  unfold inp_States statesW
  by_cases h1 : n < 0 ∨ n > (l.length : Int)
  · have : (decide (n < 0) || decide (n > (l.length : Int))) = true := by simpa using h1
    simp only [this, if_true, h1]; rfl
  · have h2 : (decide (n < 0) || decide (n > (l.length : Int))) = false := by simp at h1 ⊢; exact h1
    simp only [h2, Bool.false_eq_true, if_false, h1, md_New, bindO_s]
    rw [cutT_at (by omega) (by omega), bindO_s, md_All_eq _ _ (fun b hb => h b (List.mem_of_mem_take hb)) (by simp; omega), bindO_s]
    rcases allW_err (l.take n.toNat) ⟨0, 90000, 54000, 49000, 98000, 0, 0, 0⟩ 0 with e | ⟨e, e2⟩
    · simp [e]
    · simp [e, e2, zS]
theorem r47_States_eq (l : List ApiBlock) (n : Int) (h : ∀ b ∈ l, okB b) (hl : l.length ≤ 9223372036854775807) : r47_States l n = some (backS (statesW l n).1, (statesW l n).2) := by
  unfold r47_States statesW
  by_cases h1 : n < 0 ∨ n > (l.length : Int)
  · have : (decide (n < 0) || decide (n > (l.length : Int))) = true := by simpa using h1
    simp only [this, if_true, h1]; rfl
  · have h2 : (decide (n < 0) || decide (n > (l.length : Int))) = false := by simp at h1 ⊢; exact h1
    simp only [h2, Bool.false_eq_true, if_false, h1, r42_New, bindO_s]
    rw [cutT_at (by omega) (by omega), bindO_s, show (R42State.mk 0 90000 54000 49000 98000 0 0 0) = backS ⟨0, 90000, 54000, 49000, 98000, 0, 0, 0⟩ from rfl, r42_All_eq _ _ (fun b hb => h b (List.mem_of_mem_take hb)) (by simp; omega), bindO_s]

def endW (p : ApiPos) (l : List ApiMotion) : ApiPos := match l.getLast? with | some m => m.To | none => p
theorem gt_last {α : Type} {l : List α} {x : α} (h : l.getLast? = some x) (hl : l.length ≤ 9223372036854775807) : gt l (IntKind.i64.wrap ((l.length : Int) - 1)) = some x := by
  have hne : l ≠ [] := by rintro rfl; simp at h
  have hp : 0 < l.length := List.length_pos_iff.2 hne
  rw [wrap_i64 (by omega) (by omega), show ((l.length : Int) - 1) = ((l.length - 1 : Nat) : Int) by omega]
  refine gt_k ?_
  rw [List.getLast?_eq_getElem?] at h
  exact h
theorem inp_End_eq (p : ApiPos) (l : List ApiMotion) (hl : l.length ≤ 9223372036854775807) : inp_End p l = some (endW p l) := by
  unfold inp_End endW
  cases h : l.getLast? with
  | none => have : l = [] := by simpa using h
            subst this; rfl
  | some x =>
    have hne : l ≠ [] := by rintro rfl; simp at h
    have hz : ((l.length : Int) == 0) = false := by simp; exact hne
    simp only [hz, Bool.false_eq_true, if_false, gt_last h hl, bindO_s]
theorem r47_End_eq (p : ApiPos) (l : List ApiMotion) (hl : l.length ≤ 9223372036854775807) : r47_End p l = some (endW p l) := inp_End_eq p l hl

def posEq (a b : ApiPos) : Bool := a.X == b.X && (a.Y == b.Y && a.Z == b.Z)
theorem posEq_iff {a b : ApiPos} : posEq a b = true ↔ a = b := by
  cases a; cases b; simp [posEq]
def connW : ApiPos → List ApiMotion → Bool
  | _, [] => true
  | p, m :: l => posEq m.From p && connW m.To l
theorem inp_Connected_eq (p : ApiPos) (l : List ApiMotion) (hl : l.length ≤ 9223372036854775807) : inp_Connected p l = some (connW p l) := by
  unfold inp_Connected
  rw [okIdx_of hl, guardO_t]
  have key : ∀ (f : Nat → ApiMotion → ApiPos → Option (Ex (Ex Bool ApiPos) ApiPos)) (l : List ApiMotion) (i : Nat) (p : ApiPos),
      (∀ i m p, f i m p = if posEq m.From p = true then some (.go m.To) else some (.ret (.ret false))) → bindX (rangeX f (fun v => some (.go v)) l i p) (fun _ => some true) = some (connW p l) := by
    intro f l
    induction l with
    | nil => intro i p _; rfl
    | cons m l ih =>
      intro i p hf
      simp only [rangeX, hf i m p, connW]
      cases posEq m.From p with
      | false => simp
      | true => exact ih (i + 1) _ hf
  refine key _ l 0 p fun i m p => ?_
  change (if (!posEq m.From p) = true then (some (.ret (.ret false)) : Option (Ex (Ex Bool ApiPos) ApiPos)) else some (.go m.To)) = _
  cases posEq m.From p <;> simp
theorem endW_take (p : ApiPos) (L : List ApiMotion) : endW p (L.take 0) = p := by simp [endW]
theorem r47_Connected_eq (p : ApiPos) (L : List ApiMotion) (hl : L.length ≤ 9223372036854775807) : r47_Connected p L = some (connW p L) := by
  unfold r47_Connected
  rw [okIdx_of hl, guardO_t]
  have key : ∀ (f : Nat → ApiMotion → Unit → Option (Ex (Ex Bool Unit) Unit)),
      (∀ i m, L[i]? = some m → f i m () = if posEq m.From (endW p (L.take i)) = true then some (.go ()) else some (.ret (.ret false))) →
      ∀ (l : List ApiMotion) (i : Nat), L.drop i = l → bindX (rangeX f (fun _ => some (.go ())) l i ()) (fun _ => some true) = some (connW (endW p (L.take i)) l) := by
    intro f hf l
    induction l with
    | nil => intro i _; rfl
    | cons m l ih =>
      intro i hd
      have hx : L[i]? = some m := by
        have : (L.drop i)[0]? = some m := by rw [hd]; rfl
        simpa using this
      have hrest : L.drop (i + 1) = l := by rw [← List.drop_drop, hd]; rfl
      have he : endW p (L.take (i + 1)) = m.To := by rw [List.take_add_one, hx]; simp [endW]
      simp only [rangeX, hf i m hx, connW]
      cases posEq m.From (endW p (L.take i)) with
      | false => simp
      | true =>
        have := ih (i + 1) hrest
        rw [he] at this
        exact this
  have k0 := fun f hf => key f hf L 0 rfl
  simp only [endW_take] at k0
  refine k0 _ ?_
  · intro i m hm
    have hlt := getElem_lt hm
    rw [cutT_at (by omega) (by omega), bindO_s, Int.toNat_natCast, r47_End_eq _ _ (by simp; omega), bindO_s]
    change (if (!posEq m.From (endW p (L.take i))) = true then (some (.ret (.ret false)) : Option (Ex (Ex Bool Unit) Unit)) else some (.go ())) = _
    cases posEq m.From (endW p (L.take i)) <;> simp

/-- The tools, without immediate repetitions; 'o' what was noted so far. -/
def toolsW (o : List Int) (m : ApiMotion) : List Int := match o.getLast? with | none => o ++ [m.Tool] | some t => if t != m.Tool then o ++ [m.Tool] else o
theorem toolsW_last (o : List Int) (m : ApiMotion) : (toolsW o m).getLast? = some m.Tool := by
  unfold toolsW
  cases h : o.getLast? with
  | none => simp
  | some t =>
    by_cases e : t = m.Tool
    · subst e; simp [h]
    · simp [e]
theorem toolsW_len (o : List Int) (m : ApiMotion) : (toolsW o m).length ≤ o.length + 1 := by
  unfold toolsW
  split
  · simp
  · split <;> simp
theorem tools_len (l : List ApiMotion) : ∀ o : List Int, (l.foldl toolsW o).length ≤ o.length + l.length := by
  induction l with
  | nil => intro o; simp
  | cons m l ih => intro o; have := ih (toolsW o m); have := toolsW_len o m; simp only [List.foldl_cons, List.length_cons]; omega
theorem inp_Tools_eq (l : List ApiMotion) (hl : l.length ≤ 20) : inp_Tools l = some (l.foldl toolsW []) := by
  unfold inp_Tools
  rw [okIdx_of (by omega), guardO_t]
  have key : ∀ (f : Nat → ApiMotion → List Int → Option (Ex (List Int) (List Int))), (∀ i m o, o.length ≤ 20 → f i m o = some (.go (toolsW o m))) →
      ∀ (l : List ApiMotion) (i : Nat) (o : List Int), o.length + l.length ≤ 20 → rangeX f (fun v => some v) l i o = some (l.foldl toolsW o) := by
    intro f hf l
    induction l with
    | nil => intro i o _; rfl
    | cons m l ih =>
      intro i o h
      simp only [List.length_cons] at h
      simp only [rangeX, hf i m o (by omega), List.foldl_cons]
      exact ih (i + 1) _ (by have := toolsW_len o m; omega)
  rw [key _ ?_ l 0 [] (by simpa using hl)]
  · simp
  · intro i m o ho
    unfold toolsW
    have hok : okLen (o.length + 1) = true := okLen_of (by omega)
    cases h : o.getLast? with
    | none => have : o = [] := by simpa using h
              subst this; simp
    | some t =>
      have hne : o ≠ [] := by rintro rfl; simp at h
      have hz : ((o.length : Int) == 0) = false := by simp; exact hne
      simp only [hz, Bool.false_eq_true, if_false, gt_last h (by omega), bindO_s]
      cases hq : t != m.Tool <;> simp [hok]
theorem r47_Tools_eq (L : List ApiMotion) (hl : L.length ≤ 20) : r47_Tools L = some (L.foldl toolsW []) := by
  unfold r47_Tools
  rw [okIdx_of (by omega), guardO_t]
  have key : ∀ (f : Nat → ApiMotion → List Int → Option (Ex (List Int) (List Int))), (∀ i m o, L[i]? = some m → o.length ≤ 20 → (o.getLast? = (L.take i).getLast?.map (·.Tool)) → f i m o = some (.go (toolsW o m))) →
      ∀ (l : List ApiMotion) (i : Nat) (o : List Int), L.drop i = l → o.length + l.length ≤ 20 → (o.getLast? = (L.take i).getLast?.map (·.Tool)) → rangeX f (fun v => some v) l i o = some (l.foldl toolsW o) := by
    intro f hf l
    induction l with
    | nil => intro i o _ _ _; rfl
    | cons m l ih =>
      intro i o hd h ho
      have hx : L[i]? = some m := by
        have : (L.drop i)[0]? = some m := by rw [hd]; rfl
        simpa using this
      have hrest : L.drop (i + 1) = l := by rw [← List.drop_drop, hd]; rfl
      simp only [List.length_cons] at h
      simp only [rangeX, hf i m o hx (by omega) ho, List.foldl_cons]
      refine ih (i + 1) _ hrest (by have := toolsW_len o m; omega) ?_
      rw [toolsW_last, List.take_add_one, hx]; simp
  rw [key _ ?_ L 0 [] rfl (by simpa using hl) (by simp)]
  · simp
  · intro i m o hm ho hq
    have hlt := getElem_lt hm
    unfold toolsW
    have hok : okLen (o.length + 1) = true := okLen_of (by omega)
    rw [hq]
    cases i with
    | zero => simp [hok]
    | succ i =>
      obtain ⟨x, hx⟩ : ∃ x, L[i]? = some x := ⟨_, List.getElem?_eq_getElem (by omega)⟩
      have hz : (((i + 1 : Nat) : Int) == 0) = false := by simp; omega
      have hla : (L.take (i + 1)).getLast? = some x := by rw [List.take_add_one, hx]; simp
      simp only [hz, Bool.false_eq_true, if_false, hla, Option.map_some]
      rw [wrap_i64 (by omega) (by omega), show ((i + 1 : Nat) : Int) - 1 = (i : Int) by omega, gt_k hx, bindO_s]
      by_cases e : m.Tool = x.Tool
      · simp [e]
      · have e' : ¬ x.Tool = m.Tool := fun h => e h.symm
        simp [e, e', hok]
theorem equal_self (l : List Int) (hl : l.length ≤ 9223372036854775807) : slices_Equal_int_int l l = some true := by
  unfold slices_Equal_int_int
  simp only [bne_self_eq_false, Bool.false_eq_true, if_false]
  rw [okIdx_of hl, guardO_t]
  have key : ∀ (f : Nat → Int → Unit → Option (Ex (Ex Bool Unit) Unit)), (∀ i x, l[i]? = some x → f i x () = some (.go ())) → ∀ (r : List Int) (i : Nat), l.drop i = r → rangeX f (fun _ => some (.go ())) r i () = some (.go ()) := by
    intro f hf r
    induction r with
    | nil => intro i _; rfl
    | cons m r ih =>
      intro i hd
      have hx : l[i]? = some m := by
        have : (l.drop i)[0]? = some m := by rw [hd]; rfl
        simpa using this
      have hrest : l.drop (i + 1) = r := by rw [← List.drop_drop, hd]; rfl
      simp only [rangeX, hf i m hx]
      exact ih (i + 1) hrest
  rw [key _ ?_ l 0 rfl]
  · rfl
  · intro i x hx
    rw [gt_k hx]; simp

def fewW (l : List ApiBlock) (n : Int) : Bool := !decide ((l.length : Int) > n) && l.all fun b => !(decide ((b.Words.length : Int) > 20) || decide ((b.Comment.length : Int) > 120))
theorem r41_Few_eq (l : List ApiBlock) (n : Int) (hl : l.length ≤ 9223372036854775807) : r41_Few l n = some (fewW l n) := by
  unfold r41_Few fewW
  cases decide ((l.length : Int) > n) with
  | true => rfl
  | false =>
    simp only [Bool.false_eq_true, if_false, Bool.not_false, Bool.true_and]
    rw [okIdx_of hl, guardO_t]
    have key : ∀ (f : Nat → ApiBlock → Unit → Option (Ex (Ex Bool Unit) Unit)) (p : ApiBlock → Bool), (∀ i x, f i x () = if p x = true then some (.ret (.ret false)) else some (.go ())) → ∀ (r : List ApiBlock) (i : Nat), bindX (rangeX f (fun _ => some (.go ())) r i ()) (fun _ => some true) = some (r.all fun x => !p x) := by
      intro f p hf r
      induction r with
      | nil => intro i; rfl
      | cons m r ih =>
        intro i
        simp only [rangeX, hf i m, List.all_cons]
        cases p m with
        | true => simp
        | false => exact ih (i + 1)
    exact key _ _ (fun i x => rfl) l 0

theorem awake47 : l47_awake = some true := by kernel_rfl

theorem states_true (l : List ApiBlock) (n : Int) (m : List ApiMotion) (hu : ∀ b ∈ l, ∀ w ∈ b.Words, u8W w) (hl : l.length ≤ 9223372036854775807) (hm : m.length ≤ 9223372036854775807) : l47_InterpreterStates l n m = some true := by
  unfold l47_InterpreterStates
  simp only [awake47, bindO_s, if_true, r41_Few_eq l 40 hl]
  cases hf : fewW l 40 with
  | false => simp
  | true =>
    simp only [if_true, bindO_s]
    by_cases h20 : (m.length : Int) > 20
    · simp [h20]
    · have h20' : m.length ≤ 20 := by omega
      simp only [h20, decide_false, Bool.false_eq_true, if_false]
      simp only [fewW, Bool.and_eq_true, List.all_eq_true, Bool.not_eq_true', decide_eq_false_iff_not, Bool.or_eq_false_iff] at hf
      have hb : ∀ b ∈ l, okB b := fun b hb => ⟨hu b hb, by have := (hf.2 b hb).1; omega⟩
      have hll : l.length ≤ 40 := by omega
      have hok : okLen l.length = true := okLen_of (by omega)
      simp only [slices_Clone_api_Block_api_Block, hok, guardO_t, bindO_s, inp_States_eq l n hb hl, r47_States_eq l n hb hl, bne_self_eq_false, Bool.false_eq_true, if_false, l47_back, backS, beq_self_eq_true, Bool.and_self, Bool.not_true]
      have hfrom : ∃ p, (if decide ((m.length : Int) > 0) = true then bindO (gt m 0) fun (e113 : ApiMotion) => some e113.From else some (ApiPos.mk 1 2 3)) = some p := by
        cases m with
        | nil => exact ⟨_, rfl⟩
        | cons x r => exact ⟨x.From, by simp [gt]⟩
      obtain ⟨p, hp⟩ := hfrom
      rw [hp]
      simp only [bindO_s, inp_End_eq p m hm, r47_End_eq p m hm, inp_Connected_eq p m hm, r47_Connected_eq p m hm, inp_Tools_eq m h20', r47_Tools_eq m h20', beq_self_eq_true, Bool.and_self, if_true]
      rw [equal_self _ (by have := tools_len m []; simp at this; omega)]
      rfl

end Go.Proofs.YtlcfgpjgjdjpoaaDoor
