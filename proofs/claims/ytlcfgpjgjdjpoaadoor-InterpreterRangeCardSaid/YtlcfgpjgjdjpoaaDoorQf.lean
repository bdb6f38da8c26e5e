/-
  InterpreterRange: the plain part.
-/
import Derived.Test.YtlcfgpjgjdjpoaaDoorQe
import Derived.Test.YtlcfgpjgjdjpoaaDoorGp
import Derived.Test.YtlcfgpjgjdjpoaaDoorMLInterpreterRange
namespace Go.Proofs.YtlcfgpjgjdjpoaaDoor
open Go.RowKit

theorem inU8 {n : Int} (h : inInt .u8 n) : 0 ≤ n ∧ n ≤ 255 := by
  simp [inInt, Lit.wf, IntKind.min, IntKind.max, IntKind.signed, IntKind.bits] at h
  omega
theorem range_true (l : List ApiBlock) (s : L47Setting) (hu : ∀ b ∈ l, ∀ w ∈ b.Words, u8W w) (hl : l.length ≤ 9223372036854775807) : l47_InterpreterRange l s = some true := by
  suffices h : Tot (l47_InterpreterRange l s) (fun b => b = true) by
    obtain ⟨e, h1, h2⟩ := h
    rw [h1, h2]
  unfold l47_InterpreterRange
  simp only [awake47, bindO_s, if_true]
  refine Tot.bind (E := fun b => b = true ∨ (fewL l ∧ s.Table.Lengths.length ≤ 20)) (Tot.bind (l47_few_tot l s hl) fun b hb => .ok ?_) fun b hb => Tot.ite (fun _ => .ok rfl) (fun hf => ?_)
  · cases b with
    | true => exact .inr (hb rfl)
    | false => exact .inl rfl
  · obtain ⟨hfew, ht⟩ := hb.resolve_left (by simp [hf])
    have hbs : ∀ b ∈ l, okS b := fun b hb => ⟨hu b hb, by have := (hfew.2 b hb).1; omega, by have := (hfew.2 b hb).2; omega⟩
    have hll := hfew.1
    have ht' : (theirsW s.Table).Lengths.length ≤ 1000 := by simp [theirsW]; omega
    obtain ⟨e, hce, hc0⟩ := inp_checked_tot (theirsW s.Table) s.From ht'
    rw [show slices_Clone_api_Block_api_Block l = some l by unfold slices_Clone_api_Block_api_Block; rw [okLen_of (by omega), guardO_t], bindO_s, l47_theirs_eq _ (by omega), bindO_s, inp_Blocks_eq l _ _ e hce (by omega) hbs ht', bindO_s]
    have key : ∀ r : List ApiMotion × InterpreterAlarm, connW s.From r.1 = true ∧ (∀ m ∈ r.1, inR m.From ∧ inR m.To ∧ m.From ≠ m.To) ∧ r.1.Pairwise (fun a b => a.Block ≤ b.Block) ∧ (∀ m ∈ r.1, 0 ≤ m.Block ∧ m.Block < (l.length : Int)) ∧ (r.2.Code ≠ 0 → ∀ m ∈ r.1, m.Block < r.2.Block) ∧ r.1.length ≤ 20000 → Tot
        (bindX (guardO (okIdx r.1) (
        rangeX (fun (i177 : Nat) (e179 : ApiMotion) (v178 : Int) =>
          bindO (bindO (r47_InRange e179.From) fun (y183 : Bool) =>
              if y183 = true then
                bindO (r47_InRange e179.To) fun (y184 : Bool) =>
                if y184 = true then
                  if ((e179.From.X == e179.To.X) && ((e179.From.Y == e179.To.Y) && (e179.From.Z == e179.To.Z))) = true then
                    some true
                  else
                    if (decide (e179.Block < v178)) = true then
                      some true
                    else
                      if (decide (e179.Block ≥ (l.length : Int))) = true then
                        some true
                      else
                        if (r.2.Code != 0) = true then
                          some (decide (e179.Block ≥ r.2.Block))
                        else
                          some false
                else
                  some true
              else
                some true) fun (v185 : Bool) =>
          if v185 = true then
            some (.ret (.ret false))
          else
            some (.go e179.Block)) (fun (_ : Int) => some (.go ())) r.1 0 0)) fun (_ : Unit) =>
    bindO (bindO (inp_Connected s.From r.1) fun (y186 : Bool) =>
        if y186 = true then
          if (decide ((r.1.length : Int) > 0)) = true then
            some true
          else
            bindO (inp_End s.From r.1) fun (y187 : ApiPos) =>
            some ((y187.X == s.From.X) && ((y187.Y == s.From.Y) && (y187.Z == s.From.Z)))
        else
          some false) fun (v188 : Bool) =>
    some v188) (fun b => b = true) := by
      intro r hr
      obtain ⟨h1, h2, h3, h4, h5, h6⟩ := hr
      refine Tot.bindX (E := fun _ => True) (TotX.guard (okIdx_of (by omega)) (TotX.of (Tot.range (fun (i : Nat) (v : Int) => ∀ m ∈ r.1.drop i, v ≤ m.Block) _ (fun m hm => (h4 m (by simpa using hm)).1) (fun i x v hx hv => ?_) (fun v _ => .ok trivial)))) (fun _ _ => ?_)
      · have hmem := List.mem_of_getElem? hx
        have hlt := getElem_lt hx
        have hd : r.1.drop i = x :: r.1.drop (i + 1) := by
          rw [List.drop_eq_getElem_cons hlt]
          rw [List.getElem?_eq_getElem hlt] at hx
          injection hx with hx
          rw [hx]
        obtain ⟨g1, g2, g3⟩ := h2 x hmem
        have g4 := h4 x hmem
        rw [r47_InRange_eq, r47_InRange_eq, decide_eq_true g1, decide_eq_true g2]
        simp only [bindO_s, if_true]
        have hne : ((x.From.X == x.To.X) && ((x.From.Y == x.To.Y) && (x.From.Z == x.To.Z))) = false := by
          cases hq : ((x.From.X == x.To.X) && ((x.From.Y == x.To.Y) && (x.From.Z == x.To.Z))) with
          | false => rfl
          | true => exact absurd (posEq_iff.1 hq) g3
        have hv' : decide (x.Block < v) = false := by
          have := hv x (by rw [hd]; simp)
          simp; omega
        have hN : decide (x.Block ≥ (l.length : Int)) = false := by simp; omega
        simp only [hne, hv', hN, Bool.false_eq_true, if_false]
        refine TotX.bind (E := fun b => b = false) (Tot.ite (fun hc => .ok ?_) (fun _ => .ok rfl)) (fun b hb => ?_)
        · have := h5 (by simpa using hc) x hmem
          simp; omega
        · rw [hb]
          refine .go ?_
          intro m hm
          have hp := h3.sublist (List.drop_sublist i r.1)
          rw [hd, List.pairwise_cons] at hp
          exact hp.1 m hm
      · rw [inp_Connected_eq _ _ (by omega), bindO_s, h1]
        simp only [if_true]
        refine Tot.bind (E := fun b => b = true) (Tot.ite (fun _ => .ok rfl) (fun h0 => ?_)) (fun b hb => .ok hb)
        simp at h0
        rw [inp_End_eq _ _ (by omega), bindO_s]
        have : endW s.From r.1 = s.From := by
          have : r.1 = [] := by simpa using h0
          rw [this]; rfl
        rw [this]
        exact .ok (by simp)
    refine key _ ?_
    by_cases h0 : e = 0
    · rw [if_neg (by simpa using h0)]
      have hp := hc0 h0
      obtain ⟨a, b⟩ := runB_ok (theirsW s.Table) l.length s.From ht' l 0 ([], s.From, newS, zC) hbs (by simp) ⟨⟨rfl, by simp, hp⟩, by simp, by simp, by simp⟩ rfl
      exact ⟨a.1.1, a.1.2.1, a.2.1, a.2.2.1, b, a.2.2.2⟩
    · rw [if_pos (by simpa using h0)]
      exact ⟨rfl, by simp, by simp, by simp, by simp, by simp⟩
theorem interpreterRange_plain (l : List ApiBlock) (s : L47Setting) (h1 : inList inApiBlock l) (_ : inL47Setting s) : l47_InterpreterRange l s = some true :=
  range_true l s (fun b hb w hw => inU8 (((h1.2 b hb).2.1.2 w hw).1)) (by have := h1.1; unfold maxLen at this; omega)

end Go.Proofs.YtlcfgpjgjdjpoaaDoor
