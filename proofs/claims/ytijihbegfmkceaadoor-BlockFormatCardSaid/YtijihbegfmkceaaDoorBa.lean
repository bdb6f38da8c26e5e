/-
  Layer 41: the examples; words of blocks.
-/
import Derived.Test.YtijihbegfmkceaaDoorMB
import Derived.Test.YtijihbegfmkceaaDoorPe
import Derived.Test.YtijihbegfmkceaaDoorGp
namespace Go.Proofs.YtijihbegfmkceaaDoor
open Go.RowKit

set_option maxRecDepth 100000 in
theorem awake41 : l41_awake = some true := by kernel_rfl
theorem wrap_i64 {n : Int} (h : -9223372036854775808 ≤ n) (h2 : n ≤ 9223372036854775807) : IntKind.i64.wrap n = n := IntWalk.i64_in _ ⟨h, by omega⟩
theorem gt_k {α : Type} {l : List α} {k : Nat} {x : α} (h : l[k]? = some x) : gt l (k : Int) = some x := by
  unfold gt
  have hl := getElem_lt h
  rw [if_neg (by omega)]
  simpa using h
theorem rangeX_ext {α ε ν : Type} {f f' : Nat → α → ν → Option (Ex ε ν)} {d : ν → Option ε} {L : List α} (hf : ∀ (i : Nat) x v, L[i]? = some x → f i x v = f' i x v) : ∀ (l : List α) (i : Nat) (v : ν), L.drop i = l → rangeX f d l i v = rangeX f' d l i v
  | [], _, _, _ => rfl
  | x :: l, i, v, hd => by
    have hx : L[i]? = some x := by
      have : (L.drop i)[0]? = some x := by rw [hd]; rfl
      simpa using this
    have hd' : L.drop (i + 1) = l := by rw [← List.drop_drop, hd]; rfl
    unfold rangeX
    rw [hf i x v hx]
    split
    · rfl
    · rfl
    · exact rangeX_ext hf l (i + 1) _ hd'

/-- Few blocks. -/
def fewP (l : List ApiBlock) (n : Int) : Prop := (l.length : Int) ≤ n ∧ ∀ x ∈ l, x.Words.length ≤ 20 ∧ x.Comment.length ≤ 120
theorem r41_Few_tot (l : List ApiBlock) (n : Int) (hn : n ≤ 1000) : Tot (r41_Few l n) (fun b => b = true → fewP l n) := by
  unfold r41_Few
  refine Tot.ite (fun _ => .ok (fun q => by cases q)) (fun h => ?_)
  have hl : (l.length : Int) ≤ n := by simpa using h
  refine Tot.bindX (E := fun _ => fewP l n) (TotX.of (Tot.mono (E := fun x => (x = .ret false) ∨ (x = .go () ∧ fewP l n)) ?_ ?_)) (fun x hx => .ok (fun _ => hx))
  · refine Tot.guard (okIdx_of (by omega)) (Tot.range (fun i _ => ∀ (k : Nat) x, k < i → l[k]? = some x → x.Words.length ≤ 20 ∧ x.Comment.length ≤ 120) _ (fun k x q => by omega) (fun i x v hx hr => ?_) (fun v hr => .ok (.inr ⟨rfl, hl, fun x hx => ?_⟩)))
    · refine TotX.ite (fun _ => .ret (.inl rfl)) (fun h2 => .go (fun k y hk hy => ?_))
      simp at h2
      rcases Nat.lt_or_ge k i with q | q
      · exact hr k y q hy
      · obtain rfl : k = i := by omega
        rw [hx] at hy; injection hy with hy; subst hy
        omega
    · obtain ⟨k, hk⟩ := List.mem_iff_getElem?.1 hx
      exact hr k x (getElem_lt hk) hk
  · rintro x (rfl | ⟨rfl, h3⟩)
    · exact fun q => by cases q
    · exact h3

/-- The values of the words with a letter. -/
def codesV (l : List ApiWord) (c : Int) : List Int := (l.filter fun w => w.Letter == c).map (·.Value)
def findV (l : List ApiWord) (c : Int) : Int × Bool := match l.find? (fun w => w.Letter == c) with | some w => (w.Value, true) | none => (0, false)
theorem bk_Find_eq (b : ApiBlock) (c : Int) (hb : b.Words.length ≤ 1000000) : bk_Find b c = some (findV b.Words c) := by
  unfold bk_Find findV
  rw [okIdx_of (by omega), guardO_t, range_find (p := fun w : ApiWord => w.Letter == c) (e := fun w => (w.Value, true)) _ _ (fun i x => rfl)]
  cases b.Words.find? (fun w => w.Letter == c) with
  | none => rfl
  | some w => rfl
theorem codes_fold (c : Int) : ∀ (l : List ApiWord) (o : List Int), l.foldl (fun (v : List Int) (w : ApiWord) => if w.Letter == c then v ++ [w.Value] else v) o = o ++ codesV l c
  | [], o => by simp [codesV]
  | w :: l, o => by
    rw [List.foldl_cons, codes_fold c l]
    unfold codesV
    cases h : (w.Letter == c) with
    | true => simp [h]
    | false => simp [h]
theorem codesV_len (l : List ApiWord) (c : Int) : (codesV l c).length ≤ l.length := by
  unfold codesV
  rw [List.length_map]
  exact List.length_filter_le _ _
theorem r41_Codes_eq (b : ApiBlock) (c : Int) (hb : b.Words.length ≤ 1000000) : r41_Codes b c = some (codesV b.Words c) := by
  unfold r41_Codes
  rw [okIdx_of (by omega), guardO_t, range_fold (g := fun (v : List Int) (w : ApiWord) => if w.Letter == c then v ++ [w.Value] else v) (R := fun i v => v.length ≤ i) (L := b.Words) ?_ b.Words 0 [] rfl (by simp), codes_fold]
  · rfl
  · intro i x v hx hr
    have hlt := getElem_lt hx
    cases h : (x.Letter == c) with
    | true => simp only [if_true]; rw [okLen_of (by omega), guardO_t, bindO_s]; exact ⟨rfl, by simp; omega⟩
    | false => exact ⟨rfl, by simp; omega⟩
theorem bk_Codes_same (b : ApiBlock) (c : Int) : bk_Codes b c = r41_Codes b c := rfl
theorem r41_Find_eq (b : ApiBlock) (c : Int) (hb : b.Words.length ≤ 1000000) : r41_Find b c = some (findV b.Words c) := by
  unfold r41_Find
  rw [r41_Codes_eq b c hb, bindO_s]
  have hh : (codesV b.Words c).head? = (b.Words.find? (fun w => w.Letter == c)).map (·.Value) := by
    unfold codesV
    rw [List.head?_map, List.head?_filter]
  unfold findV
  cases hc : codesV b.Words c with
  | nil =>
    rw [hc] at hh
    cases hf : b.Words.find? (fun w => w.Letter == c) with
    | none => rfl
    | some w => rw [hf] at hh; cases hh
  | cons a r =>
    rw [hc] at hh
    cases hf : b.Words.find? (fun w => w.Letter == c) with
    | none => rw [hf] at hh; cases hh
    | some w =>
      rw [hf] at hh
      injection hh with hh
      subst hh
      have hne : (((w.Value :: r).length : Int) == 0) = false := by simp; omega
      rw [hne]
      rfl
theorem seek_same (l : List ApiBlock) (n : Int) (h : fewP l 30) : ∃ r, bk_Seek l n = some r ∧ r41_Seek l n = some r := by
  have hs : bk_Seek l n = r41_Seek l n := by
    unfold bk_Seek r41_Seek
    congr 2
    refine rangeX_ext (fun i x v hx => ?_) l 0 () rfl
    have hx' := (h.2 x (List.mem_of_getElem? hx)).1
    rw [bk_Find_eq x 78 (by omega), r41_Find_eq x 78 (by omega)]
  have ht : Tot (bk_Seek l n) (fun _ => True) := by
    unfold bk_Seek
    have hl := h.1
    refine Tot.bindX (E := fun _ => True) (TotX.of (Tot.mono (E := fun _ => True) (Tot.guard (okIdx_of (by omega)) (Tot.range (fun _ _ => True) _ trivial (fun i x v hx hr => ?_) (fun v hr => .ok trivial))) (fun x _ => by cases x <;> trivial))) (fun x _ => .ok trivial)
    have hx' := (h.2 x (List.mem_of_getElem? hx)).1
    rw [bk_Find_eq x 78 (by omega), bindO_s]
    exact TotX.ite (fun _ => .ret trivial) (fun _ => .go trivial)
  obtain ⟨r, hr, _⟩ := ht
  exact ⟨r, hr, by rw [← hs, hr]⟩

/-- Lists compared. -/
theorem ints_refl (l : List Int) (hl : l.length ≤ 1000000) : l41_ints l l = some true := by
  unfold l41_ints
  simp only [bne_self_eq_false, Bool.false_eq_true, if_false]
  have key : Tot (guardO (okIdx l) (
        rangeX (fun (i141 : Nat) (e143 : Int) (v142 : Unit) =>
          bindO (gt l (i141 : Int)) fun (e145 : Int) =>
          if (e143 != e145) = true then
            some (.ret (.ret false))
          else
            some (.go ())) (fun (v142 : Unit) => some (.go ())) l 0 ())) (fun x : Ex Bool Unit => x = .go ()) := by
    refine Tot.guard (okIdx_of (by omega)) (Tot.range (fun _ _ => True) _ trivial (fun i x v hx hr => ?_) (fun v hr => .ok rfl))
    rw [gt_k hx, bindO_s]
    simp only [bne_self_eq_false, Bool.false_eq_true, if_false]
    exact .go trivial
  obtain ⟨e, h1, rfl⟩ := key
  rw [h1]; rfl
theorem words_tot (l m : List ApiWord) (hl : l.length ≤ 1000000) : Tot (slices_Equal_api_Word_api_Word l m) (fun b => b = decide (l = m)) := by
  unfold slices_Equal_api_Word_api_Word
  refine Tot.ite (fun h => .ok ?_) (fun h => ?_)
  · simp at h
    exact (decide_eq_false (fun q => h (by rw [q]))).symm
  · have hlm : l.length = m.length := by simp at h; omega
    refine Tot.bindX (E := fun _ => l = m) (TotX.of (Tot.mono (E := fun x => (x = .ret false ∧ l ≠ m) ∨ (x = .go () ∧ l = m)) ?_ ?_)) (fun x hx => .ok (by rw [decide_eq_true hx]))
    · refine Tot.guard (okIdx_of (by omega)) (Tot.range (fun i _ => ∀ (k : Nat), k < i → l[k]? = m[k]?) _ (fun k q => by omega) (fun i x v hx hr => ?_) (fun v hr => .ok (.inr ⟨rfl, ?_⟩)))
      · have hlt := getElem_lt hx
        obtain ⟨y, hy, hy2⟩ := gt_ok' (l := m) (i := (i : Int)) (by omega) (by omega)
        rw [hy, bindO_s]
        simp only [Int.toNat_natCast] at hy2
        refine TotX.ite (fun h2 => .ret (.inl ⟨rfl, fun q => ?_⟩)) (fun h2 => .go (fun k hk => ?_))
        · subst q
          rw [hx] at hy2; injection hy2 with hy2; subst hy2
          simp at h2
        · rcases Nat.lt_or_ge k i with q | q
          · exact hr k q
          · obtain rfl : k = i := by omega
            rw [hx, hy2]
            obtain ⟨x1, x2⟩ := x; obtain ⟨y1, y2⟩ := y
            simp at h2
            rw [h2.1, h2.2]
      · apply List.ext_getElem?
        intro k
        rcases Nat.lt_or_ge k l.length with q | q
        · exact hr k q
        · rw [List.getElem?_eq_none q, List.getElem?_eq_none (by omega)]
    · rintro x (⟨rfl, h3⟩ | ⟨rfl, h3⟩)
      · exact (decide_eq_false h3).symm
      · exact h3
theorem equal_same (a b : ApiBlock) : bk_Equal a b = r41_Equal a b := by
  unfold bk_Equal r41_Equal slices_Equal_api_Word_api_Word
  cases (a.Skip == b.Skip) with
  | false => rfl
  | true =>
    cases (a.Comment == b.Comment) with
    | false => rfl
    | true =>
      cases ((a.Words.length : Int) != (b.Words.length : Int)) with
      | true => rfl
      | false =>
        simp only [if_true, Bool.not_true, Bool.or_self, Bool.false_eq_true, if_false]
        generalize guardO _ _ = q
        cases q with
        | none => rfl
        | some q => cases q <;> rfl
theorem equal_eq (a b : ApiBlock) (ha : a.Words.length ≤ 1000000) : bk_Equal a b = some (decide (a = b)) := by
  unfold bk_Equal
  obtain ⟨e, he, rfl⟩ := words_tot a.Words b.Words ha
  rw [he]
  obtain ⟨a1, a2, a3⟩ := a
  obtain ⟨b1, b2, b3⟩ := b
  simp only
  by_cases h1 : a1 = b1
  · subst h1
    by_cases h3 : a3 = b3
    · subst h3
      by_cases h2 : a2 = b2
      · subst h2; simp
      · simp [h2]
    · simp [h3]
  · simp [h1]
end Go.Proofs.YtijihbegfmkceaaDoor
