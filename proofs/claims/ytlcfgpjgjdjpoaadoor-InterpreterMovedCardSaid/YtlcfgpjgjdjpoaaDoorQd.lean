/-
  Blocks of the interpreter as a plain run over the blocks, by Step.
-/
import Derived.Test.YtlcfgpjgjdjpoaaDoorQc
namespace Go.Proofs.YtlcfgpjgjdjpoaaDoor
open Go.RowKit

def codesW (b : ApiBlock) (c : Int) : List Int := (b.Words.filter fun w => w.Letter == c).map (·.Value)
theorem codes_fold (l : List ApiWord) (c : Int) : ∀ o : List Int, l.foldl (fun o w => if (w.Letter == c) = true then o ++ [w.Value] else o) o = o ++ (l.filter fun w => w.Letter == c).map (·.Value) := by
  induction l with
  | nil => intro o; simp
  | cons w l ih =>
    intro o
    rw [List.foldl_cons, ih]
    by_cases h : (w.Letter == c) = true
    · simp [h]
    · simp [h]
theorem bk_Codes_eq (b : ApiBlock) (c : Int) (hl : b.Words.length ≤ 1000) : bk_Codes b c = some (codesW b c) := by
  unfold bk_Codes
  rw [okIdx_of (by omega), guardO_t, range_fold (g := fun (o : List Int) (w : ApiWord) => if (w.Letter == c) = true then o ++ [w.Value] else o) (R := fun i v => v.length ≤ i) (L := b.Words) ?_ b.Words 0 [] rfl (by simp)]
  · rw [bindO_s, codes_fold]; rfl
  · intro i x v hx hr
    have hlt := getElem_lt hx
    by_cases h : (x.Letter == c) = true
    · simp only [h, if_true]
      rw [okLen_of (by omega), guardO_t]
      exact ⟨rfl, by simp; omega⟩
    · have h' : (x.Letter == c) = false := by simpa using h
      simp only [h', Bool.false_eq_true, if_false]
      exact ⟨rfl, by omega⟩
theorem range_idx {f : Nat → Int → Unit → Option (Ex (Ex Int Unit) Unit)} {p : Int → Bool} (hf : ∀ (i : Nat) x, f i x () = if p x = true then some (.ret (.ret (i : Int))) else some (.go ())) : ∀ (l : List Int) (i : Nat), ∃ k : Nat, rangeX f (fun _ => some (.go ())) l i () = some (if l.any p = true then .ret (k : Int) else .go ())
  | [], i => ⟨0, rfl⟩
  | x :: l, i => by
    simp only [rangeX, hf i x, List.any_cons]
    by_cases h : p x = true
    · exact ⟨i, by simp [h]⟩
    · have h' : p x = false := by simpa using h
      obtain ⟨k, hk⟩ := range_idx hf l (i + 1)
      exact ⟨k, by simpa [h'] using hk⟩
theorem contains_eq (l : List Int) (c : Int) (hl : l.length ≤ 1000) : slices_Contains_int64_int64 l c = some (l.contains c) := by
  unfold slices_Contains_int64_int64 slices_Index_int64_int64
  rw [okIdx_of (by omega), guardO_t]
  obtain ⟨k, hk⟩ := range_idx (f := fun (i127 : Nat) (e129 : Int) (_ : Unit) => if (c == e129) = true then some (.ret (.ret (i127 : Int))) else some (.go ())) (p := fun x => c == x) (fun i x => rfl) l 0
  rw [hk]
  have : l.any (fun x => c == x) = l.contains c := by
    rw [Bool.eq_iff_iff, List.contains_iff_mem]; simp
  rw [this]
  cases l.contains c <;> simp

def setB (i : Nat) (m : ApiMotion) : ApiMotion := ⟨m.From, m.To, m.Rate, m.Tool, (i : Int)⟩
theorem range_set {L : List ApiMotion} (g : ApiMotion → ApiMotion) {f : Nat → ApiMotion → List ApiMotion → Option (Ex (List ApiMotion) (List ApiMotion))} (hf : ∀ (i : Nat) x v e, gt v (i : Int) = some e → f i x v = some (.go (v.set i (g e)))) : rangeX f (fun v => some v) L 0 L = some (L.map g) := by
  obtain ⟨e, h1, h2⟩ := rangeX_inv (f := f) (d := fun v => some v) (fun i v => v = (L.take i).map g ++ L.drop i) (fun e => e = L.map g) L (fun i x v hx hr => by
    right
    have hlt := getElem_lt hx
    have hgt : gt v (i : Int) = some x := by
      refine gt_k ?_
      rw [hr, List.getElem?_append_right (by simp; omega)]
      simp [Nat.min_eq_left (Nat.le_of_lt hlt), hx]
    refine ⟨_, hf i x v x hgt, ?_⟩
    rw [hr, List.set_append_right _ _ (by simp; omega)]
    have hd : L.drop i = x :: L.drop (i + 1) := by
      rw [List.drop_eq_getElem_cons hlt]
      rw [List.getElem?_eq_getElem hlt] at hx
      injection hx with hx
      rw [hx]
    rw [hd, List.take_add_one, hx]
    simp [Nat.min_eq_left (Nat.le_of_lt hlt)]) (fun v hv => ⟨v, rfl, by simpa using hv⟩) L 0 L rfl (Nat.zero_le _) (by simp)
  rw [h1, h2]

def zC : CycleCycle := ⟨0, 0, 0, 0, 0, 0, false⟩
def stepT (s : ModalState) (c : CycleCycle) (b : ApiBlock) (t : TableTable) (p : ApiPos) : List ApiMotion × ModalState × CycleCycle × Int := (inp_Step s c b t p).getD ([], zS, zC, 1)
theorem stepT_eq {s : ModalState} {c : CycleCycle} {b : ApiBlock} {t : TableTable} {p : ApiPos} (hb : okS b) (ht : t.Lengths.length ≤ 1000) : inp_Step s c b t p = some (stepT s c b t p) := by
  obtain ⟨e, h, _⟩ := inp_Step_tot s c b t p hb ht
  unfold stepT; rw [h]; rfl
theorem stepT_E {s : ModalState} {c : CycleCycle} {b : ApiBlock} {t : TableTable} {p : ApiPos} (hb : okS b) (ht : t.Lengths.length ≤ 1000) : stepE p b (stepT s c b t p) := by
  obtain ⟨e, h, h2⟩ := inp_Step_tot s c b t p hb ht
  unfold stepT; rw [h]; exact h2
abbrev Run := List ApiMotion × ApiPos × ModalState × CycleCycle
def endsW (b : ApiBlock) : Bool := (codesW b 77).contains 30000
/-- A program from its block i on. -/
def runB (t : TableTable) (N : Nat) : Nat → List ApiBlock → Run → List ApiMotion × InterpreterAlarm
  | _, [], v => (v.1, ⟨(N : Int), 13⟩)
  | i, b :: l, v =>
    let r := stepT v.2.2.1 v.2.2.2 b t v.2.1
    if r.2.2.2 ≠ 0 then (v.1, ⟨(i : Int), r.2.2.2⟩)
    else if v.1.length + r.1.length > 20000 then (v.1, ⟨(i : Int), 3⟩)
    else if endsW b = true then (v.1 ++ r.1.map (setB i), ⟨-1, 0⟩)
    else runB t N (i + 1) l (v.1 ++ r.1.map (setB i), endW v.2.1 r.1, r.2.1, r.2.2.1)
theorem endW_map (p : ApiPos) (i : Nat) (l : List ApiMotion) : endW p (l.map (setB i)) = endW p l := by
  unfold endW
  rw [List.getLast?_map]
  cases l.getLast? <;> rfl
def newS : ModalState := ⟨0, 90000, 54000, 49000, 98000, 0, 0, 0⟩
theorem inp_Blocks_eq (L : List ApiBlock) (t : TableTable) (p : ApiPos) (e : Int) (he : inp_checked t p = some e) (hL : L.length ≤ 1000) (hb : ∀ b ∈ L, okS b) (ht : t.Lengths.length ≤ 1000) :
    inp_Blocks L t p = some (if e ≠ 0 then ([], ⟨-1, e⟩) else runB t L.length 0 L ([], p, newS, zC)) := by
  unfold inp_Blocks
  rw [show (TableTable.mk t.Work t.Lengths) = t from rfl, he, bindO_s]
  by_cases h0 : e = 0
  · have h0' : (e != 0) = false := by simp [h0]
    rw [if_neg (show ¬ (e ≠ 0) by simpa using h0)]
    simp only [h0', Bool.false_eq_true, if_false, md_New, bindO_s]
    rw [okIdx_of (by omega), guardO_t]
    have key : ∀ (f : Nat → ApiBlock → Run → Option (Ex (Ex (List ApiMotion × InterpreterAlarm) Run) Run)),
        (∀ (i : Nat) (b : ApiBlock) (v : Run), b ∈ L → v.1.length ≤ 20000 → f i b v = (let r := stepT v.2.2.1 v.2.2.2 b t v.2.1
          if r.2.2.2 ≠ 0 then some (.ret (.ret (v.1, ⟨(i : Int), r.2.2.2⟩)))
          else if v.1.length + r.1.length > 20000 then some (.ret (.ret (v.1, ⟨(i : Int), 3⟩)))
          else if endsW b = true then some (.ret (.ret (v.1 ++ r.1.map (setB i), ⟨-1, 0⟩)))
          else some (.go (v.1 ++ r.1.map (setB i), endW v.2.1 r.1, r.2.1, r.2.2.1)))) →
        ∀ (l : List ApiBlock) (i : Nat) (v : Run), (∀ b ∈ l, b ∈ L) → v.1.length ≤ 20000 → bindX (rangeX f (fun v => some (.go (v.1, v.2.1, v.2.2.1, v.2.2.2))) l i v) (fun v => some (v.1, InterpreterAlarm.mk (L.length : Int) 13)) = some (runB t L.length i l v) := by
      intro f hf l
      induction l with
      | nil => intro i v _ _; rfl
      | cons b l ih =>
        intro i v hm hv
        simp only [rangeX, hf i b v (hm b (by simp)) hv, runB]
        by_cases h1 : (stepT v.2.2.1 v.2.2.2 b t v.2.1).2.2.2 = 0
        · by_cases h2 : v.1.length + (stepT v.2.2.1 v.2.2.2 b t v.2.1).1.length > 20000
          · simp [h1, h2]
          · by_cases h3 : endsW b = true
            · simp [h1, h2, h3]
            · simp only [h1, h2, h3, ne_eq, not_true_eq_false, if_false]
              exact ih (i + 1) _ (fun b hb => hm b (by simp [hb])) (by simp; omega)
        · simp [h1]
    refine key _ ?_ L 0 _ (fun b h => h) (by simp)
    intro i b v hbL hv
    have hbk := hb b hbL
    rw [stepT_eq hbk ht, bindO_s]
    have hE := stepT_E (s := v.2.2.1) (c := v.2.2.2) (p := v.2.1) hbk ht
    generalize stepT v.2.2.1 v.2.2.2 b t v.2.1 = r at hE
    obtain ⟨hlen, _, _⟩ := hE
    simp only
    by_cases h1 : r.2.2.2 = 0
    · have hw : IntKind.i64.wrap ((v.1.length : Int) + (r.1.length : Int)) = (v.1.length : Int) + (r.1.length : Int) := wrap_i64 (by omega) (by omega)
      by_cases h2 : v.1.length + r.1.length > 20000
      · have : decide ((v.1.length : Int) + (r.1.length : Int) > 20000) = true := by simp; omega
        simp [h1, hw, this, h2]
      · have h2' : decide ((v.1.length : Int) + (r.1.length : Int) > 20000) = false := by simp; omega
        simp only [h1, beq_self_eq_true, if_true, hw, h2', bindO_s, Bool.false_eq_true, if_false, ne_eq, not_true_eq_false, h2, bne_self_eq_false]
        rw [okIdx_of (by omega), guardO_t, range_set (setB i) (fun k x v e hg => by rw [hg, bindO_s]; rfl), bindO_s, okLen_of (by simp; omega), guardO_t, inp_End_eq _ _ (by simp; omega), bindO_s, bk_Codes_eq b _ hbk.2.1, bindO_s, contains_eq _ _ (by
          unfold codesW
          have := List.length_filter_le (fun w : ApiWord => w.Letter == 77) b.Words
          have := hbk.2.1
          simp; omega), bindO_s, endW_map]
        unfold endsW
        cases (codesW b 77).contains 30000 <;> simp
    · simp [h1]
  · have h0' : (e != 0) = true := by simp [h0]
    simp [h0', h0]

end Go.Proofs.YtlcfgpjgjdjpoaaDoor
