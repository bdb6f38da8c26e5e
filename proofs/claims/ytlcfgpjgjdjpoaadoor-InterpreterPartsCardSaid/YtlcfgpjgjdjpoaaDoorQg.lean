/-
  InterpreterParts: the plain part.
-/
import Derived.Test.YtlcfgpjgjdjpoaaDoorQe
import Derived.Test.YtlcfgpjgjdjpoaaDoorGp
import Derived.Test.YtlcfgpjgjdjpoaaDoorMLInterpreterParts
namespace Go.Proofs.YtlcfgpjgjdjpoaaDoor
open Go.RowKit

theorem inU8 {n : Int} (h : inInt .u8 n) : 0 ≤ n ∧ n ≤ 255 := by
  simp [inInt, Lit.wf, IntKind.min, IntKind.max, IntKind.signed, IntKind.bits] at h
  omega
theorem r41_Find_eq (b : ApiBlock) (c : Int) (hl : b.Words.length ≤ 1000) : r41_Find b c = some (match codesW b c with | [] => (0, false) | x :: _ => (x, true)) := by
  have hc : r41_Codes b c = some (codesW b c) := bk_Codes_eq b c hl
  unfold r41_Find
  rw [hc, bindO_s]
  cases codesW b c with
  | nil => rfl
  | cons x l =>
    have : (((x :: l).length : Int) == 0) = false := by simp; omega
    simp only [this, Bool.false_eq_true, if_false]
    rfl
theorem one_M : ∀ (l : List ApiWord) (seen : List Int), goodW seen l = true → ((87 : Int) ∈ seen → (l.filter fun w => w.Letter == 77) = []) ∧ (l.filter fun w => w.Letter == 77).length ≤ 1
  | [], _, _ => by simp
  | w :: l, seen, h => by
    simp only [goodW, Bool.and_eq_true] at h
    obtain ⟨⟨⟨_, _⟩, h3⟩, h4⟩ := h
    have ih := one_M l (clsW w :: seen) h4
    by_cases hw : w.Letter = 77
    · have hc : clsW w = 87 := by rw [clsW_letter (by omega), hw]; rfl
      have hrest : (l.filter fun w => w.Letter == 77) = [] := ih.1 (by rw [hc]; simp)
      have hnot : (87 : Int) ∉ seen := by rw [hc] at h3; simpa using h3
      refine ⟨fun q => absurd q hnot, ?_⟩
      simp [hw, hrest]
    · have : (w.Letter == 77) = false := by simpa using hw
      simp only [List.filter_cons, this, Bool.false_eq_true, if_false]
      exact ⟨fun q => ih.1 (List.mem_cons_of_mem _ q), ih.2⟩
theorem ends_find {b : ApiBlock} (h : goodW [] b.Words = true) : ((match codesW b 77 with | [] => ((0 : Int), false) | x :: _ => (x, true)).2 && ((match codesW b 77 with | [] => ((0 : Int), false) | x :: _ => (x, true)).1 == 30000)) = endsW b := by
  have h1 := (one_M b.Words [] h).2
  unfold endsW
  have hlen : (codesW b 77).length ≤ 1 := by unfold codesW; rw [List.length_map]; exact h1
  cases hc : codesW b 77 with
  | nil => rfl
  | cons x l =>
    rw [hc] at hlen
    have : l = [] := by simpa using hlen
    subst this
    simp only [Bool.true_and, List.contains_cons, List.contains_nil, Bool.or_false]
    rw [Bool.eq_iff_iff, beq_iff_eq, beq_iff_eq]
    exact ⟨fun h => h.symm, fun h => h.symm⟩
theorem parts_true (L : List ApiBlock) (s : L47Setting) (hu : ∀ b ∈ L, ∀ w ∈ b.Words, u8W w) (hl : L.length ≤ 9223372036854775807) (hL2 : s.Table.Lengths.length ≤ 9223372036854775807) : l47_InterpreterParts L s = some true := by
  suffices h : Tot (l47_InterpreterParts L s) (fun b => b = true) by
    obtain ⟨e, h1, h2⟩ := h
    rw [h1, h2]
  unfold l47_InterpreterParts
  simp only [awake47, bindO_s, if_true]
  refine Tot.bind (E := fun b => b = true ∨ (fewL L ∧ s.Table.Lengths.length ≤ 20 ∧ inR s.From ∧ r45_Valid s.Table = some 0)) (Tot.bind (l47_few_tot L s hl) fun b hb => Tot.ite (fun hbt => ?_) (fun _ => .ok (.inl rfl))) fun b hb => Tot.ite (fun _ => .ok rfl) (fun hf => ?_)
  · obtain ⟨h1, h2⟩ := hb hbt
    obtain ⟨e, he, _⟩ := r45_Valid_tot s.Table (by omega)
    rw [he, bindO_s]
    refine Tot.ite (fun _ => .ok (.inl rfl)) (fun h0 => ?_)
    rw [r47_InRange_eq, bindO_s]
    by_cases hr : inR s.From
    · exact .ok (.inr ⟨h1, h2, hr, by simp at h0; rw [h0]⟩)
    · exact .ok (.inl (by simp [hr]))
  · obtain ⟨hfew, ht, hin, hval⟩ := hb.resolve_left (by simp [hf])
    have hbs : ∀ b ∈ L, okS b := fun b hb => ⟨hu b hb, by have := (hfew.2 b hb).1; omega, by have := (hfew.2 b hb).2; omega⟩
    have hll := hfew.1
    have ht' : (theirsW s.Table).Lengths.length ≤ 1000 := by simp [theirsW]; omega
    have hce : inp_checked (theirsW s.Table) s.From = some 0 := by
      unfold inp_checked
      rw [show TableTable.mk (theirsW s.Table).Work (theirsW s.Table).Lengths = theirsW s.Table from rfl, valid_same s.Table (by omega), hval, bindO_s, inp_inside_eq, decide_eq_true hin]
      rfl
    rw [show slices_Clone_api_Block_api_Block L = some L by unfold slices_Clone_api_Block_api_Block; rw [okLen_of (by omega), guardO_t], bindO_s, l47_theirs_eq _ (by omega), bindO_s, inp_Blocks_eq L _ _ 0 hce (by omega) hbs ht', bindO_s]
    simp only [ne_eq, not_true_eq_false, if_false, md_New, bindO_s]
    obtain ⟨hA, _⟩ := runB_ok (theirsW s.Table) L.length s.From ht' L 0 ([], s.From, newS, zC) hbs (by simp) ⟨⟨rfl, by simp, hin⟩, by simp, by simp, by simp⟩ rfl
    have hlen := hA.2.2.2
    generalize hR : runB (theirsW s.Table) L.length 0 L ([], s.From, newS, zC) = Rr at hlen
    refine Tot.bindX (E := fun v : Run => Rr = (v.1, ⟨(L.length : Int), 13⟩)) (TotX.guard (okIdx_of (by omega)) (TotX.of (Tot.range (fun (i : Nat) (v : Run) => runB (theirsW s.Table) L.length i (L.drop i) v = Rr ∧ v.1.length ≤ 20000) _ ⟨hR, by simp⟩ (fun i b v hx hv => ?_) (fun v hv => .ok ?_)))) (fun v hv => ?_)
    · obtain ⟨hv, hv20⟩ := hv
      have hbk := hbs b (List.mem_of_getElem? hx)
      have hlt := getElem_lt hx
      have hd : L.drop i = b :: L.drop (i + 1) := by
        rw [List.drop_eq_getElem_cons hlt]
        rw [List.getElem?_eq_getElem hlt] at hx
        injection hx with hx
        rw [hx]
      rw [hd] at hv
      refine TotX.bindX (E := fun v : Run => runB (theirsW s.Table) L.length (i + 1) (L.drop (i + 1)) v = Rr ∧ v.1.length ≤ 20000) ?_ (fun v hv => .go hv)
      rw [stepT_eq hbk ht', bindO_s]
      have hE := stepT_E (s := v.2.2.1) (c := v.2.2.2) (p := v.2.1) hbk ht'
      simp only [runB] at hv
      generalize stepT v.2.2.1 v.2.2.2 b (theirsW s.Table) v.2.1 = r at hE hv
      refine TotX.ite (fun h1 => ?_) (fun h1 => ?_)
      · have h1' : ¬ r.2.2.2 = 0 := by simpa using h1
        simp only [h1', ne_eq, not_false_eq_true, if_true] at hv
        subst hv
        simp only [beq_self_eq_true, Bool.and_self, if_true]
        rw [same_self _ (by omega)]
        exact .ret rfl
      · have h1' : r.2.2.2 = 0 := by simpa using h1
        obtain ⟨_, hgood⟩ := hE.2.2 h1'
        have hr3 := hE.1
        rw [wrap_i64 (by omega) (by omega)]
        refine TotX.ite (fun h2 => ?_) (fun h2 => ?_)
        · have h2' : v.1.length + r.1.length > 20000 := by simp at h2; omega
          simp only [h1', h2', ne_eq, not_true_eq_false, if_false, if_true] at hv
          subst hv
          simp only [beq_self_eq_true, Bool.and_self, if_true]
          rw [same_self _ (by omega)]
          exact .ret rfl
        · have h2' : ¬ v.1.length + r.1.length > 20000 := by simp at h2; omega
          simp only [h1', h2', ne_eq, not_true_eq_false, if_false] at hv
          rw [okIdx_of (by omega), guardO_t, range_fold (g := fun (o : List ApiMotion) (x : ApiMotion) => o ++ [setB i x]) (R := fun k u => u.length ≤ v.1.length + k) (L := r.1) ?_ r.1 0 v.1 rfl (by simp), bindO_s, map_fold (setB i), inp_End_eq _ _ (by omega), bindO_s, r41_Find_eq b 77 hbk.2.1, bindO_s]
          · rw [ends_find hgood]
            refine TotX.ite (fun h3 => ?_) (fun h3 => .go ?_)
            · simp only [h3, if_true] at hv
              subst hv
              simp only [beq_self_eq_true, Bool.and_self, if_true]
              rw [same_self _ (by simp; omega)]
              exact .ret rfl
            · simp only [h3, Bool.false_eq_true, if_false] at hv
              exact ⟨hv, by simp; omega⟩
          · intro k x u hk hu'
            have hkl := getElem_lt hk
            rw [okLen_of (by omega), guardO_t]
            exact ⟨rfl, by simp; omega⟩
    · obtain ⟨hv, _⟩ := hv
      rw [List.drop_length] at hv
      exact hv.symm
    · subst hv
      simp only [beq_self_eq_true, Bool.and_self, if_true]
      rw [same_self _ (by simpa using Nat.le_trans hlen (by omega))]
      exact .ok rfl
theorem interpreterParts_plain (l : List ApiBlock) (s : L47Setting) (h1 : inList inApiBlock l) (h2 : inL47Setting s) : l47_InterpreterParts l s = some true :=
  parts_true l s (fun b hb w hw => inU8 (((h1.2 b hb).2.1.2 w hw).1)) (by have := h1.1; unfold maxLen at this; omega) (by have := h2.1.2.1; unfold maxLen at this; omega)

end Go.Proofs.YtlcfgpjgjdjpoaaDoor
