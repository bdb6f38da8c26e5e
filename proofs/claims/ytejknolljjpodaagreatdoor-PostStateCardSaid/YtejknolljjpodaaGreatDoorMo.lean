/-
  Layer 42 in the layer of post: both implementations of Check, put and idle.
-/
import Derived.Test.YtejknolljjpodaaGreatDoorPo
import Derived.Test.YtejknolljjpodaaGreatDoorMW
namespace Go.Proofs.YtejknolljjpodaaGreatDoor
open Go.RowKit
set_option linter.unusedVariables false
set_option linter.unusedSimpArgs false

theorem grp_in (c : Int) : grp c = 0 ∨ grp c = 1 ∨ grp c = 2 ∨ grp c = 3 ∨ grp c = 4 ∨ grp c = 5 := by
  unfold grp
  by_cases h1 : c ∈ codes1
  · simp [h1]
  by_cases h2 : c ∈ codes2
  · simp [h1, h2]
  by_cases h3 : c ∈ codes3
  · simp [h1, h2, h3]
  by_cases h4 : c ∈ codes4
  · simp [h1, h2, h3, h4]
  by_cases h5 : c ∈ codes5
  · simp [h1, h2, h3, h4, h5]
  · simp [h1, h2, h3, h4, h5]
def backS (s : ModalState) : R42State := ⟨s.Motion, s.Distance, s.Work, s.Length, s.Return, s.Feed, s.Tool, s.Offset⟩
def putW (s : ModalState) (w : ApiWord) : ModalState :=
  if w.Letter = 71 then (if grp w.Value = 1 then { s with Motion := w.Value } else if grp w.Value = 2 then { s with Distance := w.Value } else if grp w.Value = 3 then { s with Work := w.Value } else if grp w.Value = 4 then { s with Length := w.Value } else { s with Return := w.Value })
  else if w.Letter = 70 then { s with Feed := w.Value } else if w.Letter = 84 then { s with Tool := w.Value } else if w.Letter = 72 then { s with Offset := w.Value } else s
theorem md_put_eq (s : ModalState) (w : ApiWord) (h : w.Letter = 71 → grp w.Value ≠ 0) : md_put s w = some (putW s w) := by
  unfold md_put putW
  by_cases h1 : w.Letter = 71
  · have h0 := h h1
    rcases grp_in w.Value with q | q | q | q | q | q
    · exact absurd q h0
    all_goals (simp [h1, md_Group_eq, q]; rfl)
  · by_cases h2 : w.Letter = 70
    · simp [h2]
    · by_cases h3 : w.Letter = 84
      · simp [h3]
      · by_cases h4 : w.Letter = 72 <;> simp [h1, h2, h3, h4]
theorem r42_one_eq (s : ModalState) (w : ApiWord) (h : w.Letter = 71 → grp w.Value ≠ 0) : r42_one (backS s) w = some (backS (putW s w)) := by
  unfold r42_one putW
  by_cases h1 : w.Letter = 71
  · have h0 := h h1
    rcases grp_in w.Value with q | q | q | q | q | q
    · exact absurd q h0
    all_goals simp [h1, r42_Group_eq, q, backS]
  · by_cases h2 : w.Letter = 70
    · simp [h2, backS]
    · by_cases h3 : w.Letter = 84
      · simp [h3, backS]
      · by_cases h4 : w.Letter = 72 <;> simp [h1, h2, h3, h4, backS]

def clsW (w : ApiWord) : Int := if w.Letter = 71 then grp w.Value else 10 + w.Letter
def wholeW (w : ApiWord) : Bool := if w.Letter = 70 then decide (w.Value ≥ 0) else if w.Letter = 84 ∨ w.Letter = 72 then decide (w.Value ≥ 0) && Int.tmod w.Value 1000 == 0 else true
def u8W (w : ApiWord) : Prop := 0 ≤ w.Letter ∧ w.Letter ≤ 255
theorem r42_class_eq (w : ApiWord) (h : u8W w) : r42_class w = some (clsW w) := by
  have hw : ∀ k : Int, 0 ≤ k → k ≤ 1000000 → IntKind.i64.wrap k = k := fun k h1 h2 => by
    unfold IntKind.wrap; simp [IntKind.signed, IntKind.bits]; omega
  obtain ⟨h1, h2⟩ := h
  unfold r42_class clsW
  by_cases q : w.Letter = 71
  · simp [q, r42_Group_eq]
  · simp only [beq_iff_eq, q, if_false]
    rw [hw w.Letter h1 (by omega), hw _ (by omega) (by omega)]
theorem r42_whole_eq (w : ApiWord) : r42_whole w = some (wholeW w) := by
  unfold r42_whole wholeW
  by_cases q : w.Letter = 70
  · simp [q]
  · by_cases q2 : w.Letter = 84
    · simp [q2]
    · by_cases q3 : w.Letter = 72 <;> simp [q, q2, q3]

def goodW : List Int → List ApiWord → Bool
  | _, [] => true
  | seen, w :: r => clsW w != 0 && wholeW w && !(seen.contains (clsW w)) && goodW (clsW w :: seen) r
/-- What the two maps of Check hold. -/
def mapsOk (seen : List Int) (lm gm : List (Int × Bool)) : Prop :=
  (∀ c, 0 ≤ c → c ≠ 71 → (mget lm c).getD false = seen.contains (10 + c)) ∧ ∀ k, 1 ≤ k → k ≤ 5 → (mget gm k).getD false = seen.contains k

theorem clsW_letter {w : ApiWord} (h : w.Letter ≠ 71) : clsW w = 10 + w.Letter := by simp [clsW, h]
theorem clsW_g {w : ApiWord} (h : w.Letter = 71) : clsW w = grp w.Value := by simp [clsW, h]
theorem mapsOk_letter {seen : List Int} {lm gm : List (Int × Bool)} (h : mapsOk seen lm gm) {c : Int} (h0 : 0 ≤ c) : mapsOk ((10 + c) :: seen) (mput lm c true) gm := by
  refine ⟨fun k hk h1 => ?_, fun k h1 h2 => ?_⟩
  · rw [mget_put, List.contains_cons]
    by_cases e : k = c
    · subst e; simp
    · have : (k == c) = false := by simpa using e
      have e2 : (10 + k == 10 + c) = false := by simp; omega
      simp only [this, e2, Bool.false_eq_true, if_false, Bool.false_or]
      exact h.1 k hk h1
  · rw [List.contains_cons, h.2 k h1 h2]
    have : (k == 10 + c) = false := by simp; omega
    simp [this]
theorem mapsOk_group {seen : List Int} {lm gm : List (Int × Bool)} (h : mapsOk seen lm gm) {g : Int} (h0 : 1 ≤ g) (h5 : g ≤ 5) : mapsOk (g :: seen) lm (mput gm g true) := by
  refine ⟨fun k hk h1 => ?_, fun k h1 h2 => ?_⟩
  · rw [List.contains_cons, h.1 k hk h1]
    have : (10 + k == g) = false := by simp; omega
    simp [this]
  · rw [mget_put, List.contains_cons]
    by_cases e : k = g
    · subst e; simp
    · have : (k == g) = false := by simpa using e
      simp only [this, Bool.false_eq_true, if_false, Bool.false_or]
      exact h.2 k h1 h2

abbrev MB := List (Int × Bool)
def nextOk (seen : List Int) (w : ApiWord) : Bool := clsW w != 0 && wholeW w && !(seen.contains (clsW w))
theorem chk_loop {f : Nat → ApiWord → MB × MB → Option (Ex (Ex Int (MB × MB)) (MB × MB))} {d : MB × MB → Option (Ex Int (MB × MB))} (hd : ∀ v, d v = some (.go v))
    (hf : ∀ i w seen lm gm, u8W w → mapsOk seen lm gm → (nextOk seen w = true → ∃ lm' gm', f i w (lm, gm) = some (.go (lm', gm')) ∧ mapsOk (clsW w :: seen) lm' gm') ∧ (nextOk seen w = false → f i w (lm, gm) = some (.ret (.ret 1)))) :
    ∀ (l : List ApiWord) (i : Nat) (seen : List Int) (lm gm : MB), (∀ w ∈ l, u8W w) → mapsOk seen lm gm → (goodW seen l = true → ∃ v, rangeX f d l i (lm, gm) = some (.go v)) ∧ (goodW seen l = false → rangeX f d l i (lm, gm) = some (.ret 1))
  | [], i, seen, lm, gm, _, _ => ⟨fun _ => ⟨_, hd _⟩, fun h => by simp [goodW] at h⟩
  | w :: l, i, seen, lm, gm, hu, hm => by
    have h := hf i w seen lm gm (hu w (by simp)) hm
    have hg : goodW seen (w :: l) = (nextOk seen w && goodW (clsW w :: seen) l) := rfl
    cases hn : nextOk seen w with
    | true =>
      obtain ⟨lm', gm', h1, h2⟩ := h.1 hn
      rw [hg, hn, Bool.true_and]
      simp only [rangeX, h1]
      exact chk_loop hd hf l (i + 1) _ lm' gm' (fun w hw => hu w (by simp [hw])) h2
    | false =>
      rw [hg, hn, Bool.false_and]
      refine ⟨fun q => by simp at q, fun _ => ?_⟩
      simp only [rangeX, h.2 hn]

theorem chk_fin {f : Nat → ApiWord → MB × MB → Option (Ex (Ex Int (MB × MB)) (MB × MB))} {d : MB × MB → Option (Ex Int (MB × MB))} {l : List ApiWord} (hu : ∀ w ∈ l, u8W w) (hd : ∀ v, d v = some (.go v))
    (hf : ∀ i w seen lm gm, u8W w → mapsOk seen lm gm → (nextOk seen w = true → ∃ lm' gm', f i w (lm, gm) = some (.go (lm', gm')) ∧ mapsOk (clsW w :: seen) lm' gm') ∧ (nextOk seen w = false → f i w (lm, gm) = some (.ret (.ret 1)))) :
    bindX (rangeX f d l 0 ([], [])) (fun _ => some 0) = some (if goodW [] l = true then 0 else 1) := by
  have h := chk_loop hd hf l 0 [] [] [] hu ⟨fun c _ _ => by simp [mget], fun k _ _ => by simp [mget]⟩
  cases hg : goodW [] l with
  | true => obtain ⟨v, hv⟩ := h.1 hg; rw [hv]; rfl
  | false => rw [h.2 hg]; rfl

theorem md_Check_eq (b : ApiBlock) (hu : ∀ w ∈ b.Words, u8W w) (hl : b.Words.length ≤ 9223372036854775807) : md_Check b = some (if goodW [] b.Words = true then 0 else 1) := by
  unfold md_Check
  rw [okIdx_of hl, guardO_t]
  refine chk_fin hu (fun _ => rfl) ?_
  intro i w seen lm gm hw hm
  by_cases h1 : w.Letter = 71
  · have hc := clsW_g h1
    have hwh : wholeW w = true := by simp [wholeW, h1]
    rcases grp_in w.Value with q | q
    · refine ⟨fun h => by simp [nextOk, hc, q] at h, fun _ => ?_⟩
      simp [h1, md_Group_eq, q]
    · have hg := hm.2 (grp w.Value) (by omega) (by omega)
      have hg0 : grp w.Value ≠ 0 := by omega
      constructor
      · intro h
        have hs : grp w.Value ∉ seen := by simp [nextOk, hc, hwh] at h; exact h.2
        refine ⟨lm, mput gm (grp w.Value) true, ?_, by rw [hc]; exact mapsOk_group hm (by omega) (by omega)⟩
        simp [h1, md_Group_eq, hg0, hg, hs]
      · intro h
        have hs : grp w.Value ∈ seen := by simp [nextOk, hc, hwh] at h; exact h hg0
        simp [h1, md_Group_eq, hg0, hg, hs]
  · have hc := clsW_letter h1
    have hl := hm.1 w.Letter hw.1 h1
    have hne : (clsW w == 0) = false := by rw [hc]; simp; have := hw.1; omega
    have hn : nextOk seen w = (wholeW w && !(seen.contains (10 + w.Letter))) := by
      have : (clsW w != 0) = true := by simpa using hne
      rw [nextOk, this, hc]; simp
    rw [hn]
    cases hs : seen.contains (10 + w.Letter) with
    | true =>
      rw [hs] at hl
      refine ⟨fun h => by simp at h, fun _ => ?_⟩
      by_cases h2 : w.Letter = 70
      · rw [h2] at hl
        by_cases hv : w.Value < 0 <;> simp [h2, hv, hl]
      · by_cases h3 : w.Letter = 84 ∨ w.Letter = 72
        · by_cases hv : w.Value < 0
          · rcases h3 with h3 | h3 <;> (rw [h3] at hl; simp [h3, hv])
          · by_cases hq : Int.tmod w.Value 1000 = 0
            · rcases h3 with h3 | h3 <;> (rw [h3] at hl; simp [h3, hv, hq, hl])
            · rcases h3 with h3 | h3 <;> (rw [h3] at hl; simp [h3, hv, hq])
        · have h4 : w.Letter ≠ 84 := fun e => h3 (.inl e)
          have h5 : w.Letter ≠ 72 := fun e => h3 (.inr e)
          simp [h1, h2, h4, h5, hl]
    | false =>
      rw [hs] at hl
      have hg : mapsOk (clsW w :: seen) (mput lm w.Letter true) gm := by rw [hc]; exact mapsOk_letter hm hw.1
      refine ⟨fun h => ⟨mput lm w.Letter true, gm, ?_, hg⟩, fun h => ?_⟩
      · have hwh : wholeW w = true := by simpa using h
        unfold wholeW at hwh
        by_cases h2 : w.Letter = 70
        · rw [h2] at hl
          have hv : ¬ w.Value < 0 := by simp [h2] at hwh; omega
          simp [h2, hv, hl]
        · by_cases h3 : w.Letter = 84 ∨ w.Letter = 72
          · simp [h2, h3] at hwh
            have hv : ¬ w.Value < 0 := by omega
            rcases h3 with h3 | h3 <;> (rw [h3] at hl; simp [h3, hv, hwh.2, hl])
          · have h4 : w.Letter ≠ 84 := fun e => h3 (.inl e)
            have h5 : w.Letter ≠ 72 := fun e => h3 (.inr e)
            simp [h1, h2, h4, h5, hl]
      · have hwh : wholeW w = false := by simpa using h
        unfold wholeW at hwh
        by_cases h2 : w.Letter = 70
        · have hv : w.Value < 0 := by simp [h2] at hwh; omega
          simp [h2, hv]
        · by_cases h3 : w.Letter = 84 ∨ w.Letter = 72
          · simp [h2, h3] at hwh
            by_cases hv : w.Value < 0
            · rcases h3 with h3 | h3 <;> simp [h3, hv]
            · have hq : ¬ Int.tmod w.Value 1000 = 0 := hwh (by omega)
              rcases h3 with h3 | h3 <;> simp [h3, hv, hq]
          · simp [h2, h3] at hwh

/-- A loop that counts up and seeks. -/
def anyUp (p : Nat → Bool) : Nat → Nat → Bool
  | _, 0 => false
  | k, m + 1 => p k || anyUp p (k + 1) m
theorem anyUp_iff (p : Nat → Bool) : ∀ (m k : Nat), anyUp p k m = true ↔ ∃ j, k ≤ j ∧ j < k + m ∧ p j = true
  | 0, k => by simp [anyUp]; intro j h1 h2; omega
  | m + 1, k => by
    simp only [anyUp, Bool.or_eq_true, anyUp_iff p m (k + 1)]
    constructor
    · rintro (h | ⟨j, h1, h2, h3⟩)
      · exact ⟨k, by omega, by omega, h⟩
      · exact ⟨j, by omega, by omega, h3⟩
    · rintro ⟨j, h1, h2, h3⟩
      rcases Nat.eq_or_lt_of_le h1 with e | e
      · subst e; exact .inl h3
      · exact .inr ⟨j, by omega, by omega, h3⟩
theorem loopX_up {ε : Type} {f : Int → Option (Ex ε Int)} {n : Nat} (p : Nat → Bool) (eb ee : ε) (hf : ∀ k : Nat, k < n → f (k : Int) = if p k = true then some (.ret eb) else some (.go ((k : Int) + 1))) (he : f (n : Int) = some (.ret ee)) :
    ∀ (fu k : Nat), k ≤ n → n - k < fu → loopX f fu (k : Int) = some (if anyUp p k (n - k) = true then eb else ee)
  | 0, k, _, h => by omega
  | fu + 1, k, hk, h => by
    rcases Nat.eq_or_lt_of_le hk with e | e
    · subst e
      simp only [loopX, he, Nat.sub_self, anyUp, Bool.false_eq_true, if_false]
    · rw [show n - k = (n - (k + 1)) + 1 by omega]
      simp only [loopX, hf k e, anyUp]
      by_cases hp : p k = true
      · simp [hp]
      · have hp' : p k = false := by simpa using hp
        have := loopX_up p eb ee hf he fu (k + 1) e (by omega)
        simp only [hp', Bool.false_eq_true, if_false, Bool.false_or]
        exact this
theorem goodW_congr : ∀ (l : List ApiWord) (s t : List Int), (∀ c, s.contains c = t.contains c) → goodW s l = goodW t l
  | [], _, _, _ => rfl
  | w :: l, s, t, h => by
    simp only [goodW, h (clsW w)]
    rw [goodW_congr l (clsW w :: s) (clsW w :: t) fun c => by simp only [List.contains_cons, h c]]

theorem r42_Check_eq (b : ApiBlock) (hu : ∀ w ∈ b.Words, u8W w) (hl : b.Words.length ≤ 9223372036854775806) : r42_Check b = some (if goodW [] b.Words = true then 0 else 1) := by
  have key : ∀ (f : Nat → ApiWord → Unit → Option (Ex (Ex Int Unit) Unit)), (∀ (i : Nat) w, b.Words[i]? = some w → f i w () = if (clsW w != 0 && wholeW w && !(anyUp (fun k => match b.Words[k]? with | some x => clsW x == clsW w | none => false) 0 i)) = true then some (.go ()) else some (.ret (.ret 1))) →
      ∀ (l : List ApiWord) (i : Nat), b.Words.drop i = l → i ≤ b.Words.length → rangeX f (fun (_ : Unit) => some (.go ())) l i () = some (if goodW ((b.Words.take i).map clsW) l = true then .go () else .ret 1) := by
    intro f hf l
    induction l with
    | nil => intro i _ _; rfl
    | cons w l ih =>
      intro i hd hi
      have hx : b.Words[i]? = some w := by
        have : (b.Words.drop i)[0]? = some w := by rw [hd]; rfl
        simpa using this
      have hlt := getElem_lt hx
      have hrest : b.Words.drop (i + 1) = l := by rw [← List.drop_drop, hd]; rfl
      have hany : anyUp (fun k => match b.Words[k]? with | some x => clsW x == clsW w | none => false) 0 i = ((b.Words.take i).map clsW).contains (clsW w) := by
        rw [Bool.eq_iff_iff, anyUp_iff, List.contains_iff_mem, List.mem_map]
        constructor
        · rintro ⟨j, _, h2, h3⟩
          cases hq : b.Words[j]? with
          | none => rw [hq] at h3; simp at h3
          | some x =>
            rw [hq] at h3
            exact ⟨x, List.mem_iff_getElem?.2 ⟨j, by rw [List.getElem?_take, if_pos (by omega)]; exact hq⟩, by simpa using h3⟩
        · rintro ⟨x, h1, h2⟩
          obtain ⟨j, hj⟩ := List.mem_iff_getElem?.1 h1
          have hji : j < i := by have := getElem_lt hj; simp at this; omega
          rw [List.getElem?_take, if_pos hji] at hj
          exact ⟨j, by omega, by omega, by rw [hj]; simpa using h2⟩
      have ht : b.Words.take (i + 1) = b.Words.take i ++ [w] := by rw [List.take_add_one, hx]; rfl
      have hgo : goodW ((b.Words.take i).map clsW) (w :: l) = ((clsW w != 0 && wholeW w && !((b.Words.take i).map clsW).contains (clsW w)) && goodW ((b.Words.take (i + 1)).map clsW) l) := by
        rw [ht]
        simp only [goodW]
        congr 1
        refine goodW_congr l _ _ fun c => ?_
        simp only [List.map_append, List.map_cons, List.map_nil]
        rw [Bool.eq_iff_iff]
        simp [or_comm]
      simp only [rangeX, hf i w hx, hany, hgo]
      cases (clsW w != 0 && wholeW w && !((b.Words.take i).map clsW).contains (clsW w)) with
      | false => simp
      | true =>
        simp only [if_true, Bool.true_and]
        exact ih (i + 1) hrest hlt
  unfold r42_Check
  rw [okIdx_of (by omega), guardO_t, key _ ?_ b.Words 0 rfl (by omega)]
  · simp only [List.take_zero, List.map_nil]
    cases goodW [] b.Words <;> rfl
  · intro i w hw
    have hlt := getElem_lt hw
    rw [r42_class_eq w (hu w (List.mem_of_getElem? hw))]
    simp only [bindO_s]
    cases h0 : (clsW w == 0) with
    | true => simp [h0, bne]
    | false =>
      simp only [Bool.false_eq_true, if_false, r42_whole_eq, bindO_s, bne, h0, Bool.not_false, Bool.true_and]
      cases hq : wholeW w with
      | false => simp
      | true =>
        simp only [Bool.not_true, Bool.false_eq_true, if_false, Bool.true_and]
        have hlp := loopX_up (ε := Ex (Ex (Ex Int Unit) Unit) Unit) (f := fun (v397 : Int) =>
                if (decide (v397 < (i : Int))) = true then
                  bindO (gt b.Words v397) fun (e400 : ApiWord) =>
                  bindO (r42_class e400) fun (y401 : Int) =>
                  if (y401 == clsW w) = true then
                    some (.ret (.ret (.ret (.ret 1))))
                  else
                    some (.go (IntKind.i64.wrap (v397 + 1)))
                else
                  some (.ret (.go ()))) (n := i) (fun k => match b.Words[k]? with | some x => clsW x == clsW w | none => false) (.ret (.ret (.ret (1 : Int)))) (.go ()) ?_ (by simp) fuel 0 (by omega) (fuel_gt (by omega))
        · have hlp' := hlp
          simp only [Int.natCast_zero, Nat.sub_zero] at hlp'
          rw [show ((0 : Nat) : Int) = 0 from rfl] at hlp
          simp only [Nat.sub_zero] at hlp
          rw [hlp]
          cases anyUp (fun k => match b.Words[k]? with | some x => clsW x == clsW w | none => false) 0 i <;> simp
        · intro k hk
          obtain ⟨x, hx⟩ : ∃ x, b.Words[k]? = some x := ⟨_, List.getElem?_eq_getElem (by omega)⟩
          have : decide ((k : Int) < (i : Int)) = true := by simp; omega
          simp only [this, if_true, gt_k hx, bindO_s, r42_class_eq x (hu x (List.mem_of_getElem? hx)), hx]
          rw [wrap_i64 (by omega) (by omega)]

def okB (b : ApiBlock) : Prop := (∀ w ∈ b.Words, u8W w) ∧ b.Words.length ≤ 9223372036854775806
theorem goodW_ne : ∀ (l : List ApiWord) (s : List Int), goodW s l = true → ∀ w ∈ l, clsW w ≠ 0
  | [], _, _, w, hw => by simp at hw
  | x :: l, s, h, w, hw => by
    simp only [goodW, Bool.and_eq_true, bne_iff_ne] at h
    rcases List.mem_cons.1 hw with e | e
    · subst e; exact h.1.1.1
    · exact goodW_ne l _ h.2 w e
theorem cls_put {w : ApiWord} (h : clsW w ≠ 0) : w.Letter = 71 → grp w.Value ≠ 0 := fun e => by rwa [clsW_g e] at h
def zS : ModalState := ⟨0, 0, 0, 0, 0, 0, 0, 0⟩
theorem md_Apply_eq (s : ModalState) (b : ApiBlock) (h : okB b) : md_Apply s b = some (if goodW [] b.Words = true then (b.Words.foldl putW s, 0) else (zS, 1)) := by
  unfold md_Apply
  rw [md_Check_eq b h.1 (by have := h.2; omega), bindO_s]
  cases hg : goodW [] b.Words with
  | false => simp [zS]
  | true =>
    simp only [if_true]
    rw [okIdx_of (by have := h.2; omega), guardO_t, rangeX_go putW b.Words 0 s ?_]
    · simp
    · intro i x v hx
      rw [md_put_eq v x (cls_put (goodW_ne _ _ hg x hx)), bindO_s]
theorem r42_Apply_eq (s : ModalState) (b : ApiBlock) (h : okB b) : r42_Apply (backS s) b = some (if goodW [] b.Words = true then (backS (b.Words.foldl putW s), 0) else (backS zS, 1)) := by
  unfold r42_Apply
  rw [r42_Check_eq b h.1 h.2, bindO_s]
  cases hg : goodW [] b.Words with
  | false => simp [zS, backS]
  | true =>
    simp only [if_true]
    have key : ∀ (f : Nat → ApiWord → R42State → Option (Ex R42State R42State)) (l : List ApiWord) (i : Nat) (s : ModalState), (∀ i w s, w ∈ l → f i w (backS s) = some (.go (backS (putW s w)))) → rangeX f (fun v => some v) l i (backS s) = some (backS (l.foldl putW s)) := by
      intro f l
      induction l with
      | nil => intro i s _; rfl
      | cons x l ih =>
        intro i s hf
        simp only [rangeX, hf i x s (by simp), List.foldl_cons]
        exact ih (i + 1) (putW s x) fun i w s hw => hf i w s (by simp [hw])
    rw [okIdx_of (by have := h.2; omega), guardO_t, key _ b.Words 0 s ?_]
    · simp
    · intro i x v hx
      rw [r42_one_eq v x (cls_put (goodW_ne _ _ hg x hx)), bindO_s]

def allW : ModalState → Nat → List ApiBlock → ModalState × Int × Int
  | s, _, [] => (s, 0, 0)
  | s, i, b :: l => if goodW [] b.Words = true then allW (b.Words.foldl putW s) (i + 1) l else (zS, (i : Int), 1)
theorem r42_All_eq (s : ModalState) (l : List ApiBlock) (h : ∀ b ∈ l, okB b) (hl : l.length ≤ 9223372036854775807) : r42_All (backS s) l = some (backS (allW s 0 l).1, (allW s 0 l).2.1, (allW s 0 l).2.2) := by
  unfold r42_All
  rw [okIdx_of hl, guardO_t]
  have key : ∀ (f : Nat → ApiBlock → R42State → Option (Ex (Ex (R42State × Int × Int) R42State) R42State)) (l : List ApiBlock) (i : Nat) (s : ModalState),
      (∀ (i : Nat) (b : ApiBlock) (s : ModalState), b ∈ l → f i b (backS s) = if goodW [] b.Words = true then some (.go (backS (b.Words.foldl putW s))) else some (.ret (.ret (backS zS, (i : Int), 1)))) →
      bindX (rangeX f (fun v => some (.go v)) l i (backS s)) (fun v => some (v, 0, 0)) = some (backS (allW s i l).1, (allW s i l).2.1, (allW s i l).2.2) := by
    intro f l
    induction l with
    | nil => intro i s _; rfl
    | cons b l ih =>
      intro i s hf
      simp only [rangeX, hf i b s (by simp), allW]
      cases hg : goodW [] b.Words with
      | false => simp
      | true => exact ih (i + 1) _ fun i b s hb => hf i b s (by simp [hb])
  refine key _ l 0 s fun i b s hb => ?_
  rw [r42_Apply_eq s b (h b hb), bindO_s]
  cases goodW [] b.Words <;> simp [zS, backS]
end Go.Proofs.YtejknolljjpodaaGreatDoor
