import Derived.Test.YtnnelopkjdgbgaaDoorWx
import Derived.Test.YtnnelopkjdgbgaaDoorQe
import Derived.Test.YtnnelopkjdgbgaaDoorGp
import Derived.Test.YtnnelopkjdgbgaaDoorMLInterpreterRestored
namespace Go.Proofs.YtnnelopkjdgbgaaDoor
open Go.RowKit
set_option linter.unusedVariables false
set_option linter.unusedSimpArgs false
theorem in_u8 {n : Int} (h : inInt .u8 n) : 0 ≤ n ∧ n ≤ 255 := by
 simp [inInt,Lit.wf,IntKind.min,IntKind.max,IntKind.signed,IntKind.bits] at h
 omega
theorem all_states : ∀ (l : List ApiBlock) (s : ModalState),(∀ b ∈ l,okB b) → l.length ≤ 1000 → Tot (md_All s l) (fun r=>(∃ s',allS s l = some s' ∧ r = (s',0,0)) ∨ r.2.2 ≠ 0) := by
 intro l s hb hl
 unfold md_All
 refine Tot.bindX (E := fun v=>allS s l = some v) (TotX.guard (okIdx_of (by omega)) (TotX.of (Tot.range (fun i v=>allS s l = allS v (l.drop i)) _ (by rw [List.drop_zero]) (fun i b v hx hv=>?_) (fun v hv=>.ok ?_)))) (fun v hv=>.ok (.inl ⟨v,hv,rfl⟩))
 ·have hlt := getElem_lt hx
  have hd : l.drop i = b :: l.drop (i + 1) := by
   rw [List.drop_eq_getElem_cons hlt]
   rw [List.getElem?_eq_getElem hlt] at hx
   injection hx with hx
   rw [hx]
  rw [hd] at hv
  simp only [allS] at hv
  rw [md_Apply_eq v b (hb b (List.mem_of_getElem? hx)),bindO_s]
  cases hg : goodW [] b.Words with
  | true =>
   rw [hg] at hv
   refine TotX.ite (fun h=>by simp at h) (fun _=>.go ?_)
   simpa using hv
  | false =>
   refine TotX.ite (fun _=>.ret (.inr (by simp))) (fun h=>by simp at h)
 ·rw [List.drop_length] at hv
  exact hv
theorem runB_blk (t : TableTable) (N : Nat) : ∀ (l : List ApiBlock) (i : Nat) (v : Run),i + l.length = N → -1 ≤ (runB t N i l v).2.Block ∧ (runB t N i l v).2.Block ≤ (N : Int)
 | [],i,v,h=>by simp only [runB]; omega
 | b :: l,i,v,h=>by
  simp only [List.length_cons] at h
  simp only [runB]
  split
  ·dsimp only; omega
  ·split
   ·dsimp only; omega
   ·split
    ·dsimp only; omega
    ·exact runB_blk t N l (i + 1) _ (by omega)
theorem rest_end (k N : Nat) (R : List ApiMotion × InterpreterAlarm) (hk : k ≤ N) (hN : N ≤ 1000) (hb : -1 ≤ R.2.Block ∧ R.2.Block ≤ (N : Int)) (hm : ∀ m ∈ R.1, 0 ≤ m.Block ∧ m.Block < (N : Int)) (hl : R.1.length ≤ 20000) (R' : List ApiMotion × InterpreterAlarm) (hR : R' = shR k R) :
    Tot (if (((R.1.length : Int) != (R'.1.length : Int)) || ((R.2.Code != R'.2.Code) || (if (decide (R.2.Block ≥ (k : Int))) = true then (R'.2.Block != (IntKind.i64.wrap (R.2.Block + 1))) || ((decide (R.2.Block < (k : Int))) && (R'.2.Block != R.2.Block)) else (decide (R.2.Block < (k : Int))) && (R'.2.Block != R.2.Block)))) = true then
        some false
      else
        bindX (guardO (okIdx R.1) (
            rangeX (fun (i1 : Nat) (e1 : ApiMotion) (v2 : Unit) =>
              bindO (if (decide (e1.Block ≥ (k : Int))) = true then
                    some (IntKind.i64.wrap (e1.Block + 1))
                  else
                    some e1.Block) fun (v3 : Int) =>
              bindO (gt R'.1 (i1 : Int)) fun (e2 : ApiMotion) =>
              if (!((e1.From.X == e2.From.X) && ((e1.From.Y == e2.From.Y) && ((e1.From.Z == e2.From.Z) && ((e1.To.X == e2.To.X) && ((e1.To.Y == e2.To.Y) && ((e1.To.Z == e2.To.Z) && ((e1.Rate == e2.Rate) && ((e1.Tool == e2.Tool) && (v3 == e2.Block)))))))))) = true then
                some (.ret (.ret false))
              else
                some (.go ())) (fun (v2 : Unit)=>some (.go ())) R.1 0 ())) fun (v4 : Unit) =>
        some true) (fun b=>b = true) := by
  obtain ⟨ms,a⟩ := R
  obtain ⟨bl,cd⟩ := a
  dsimp only at hb hm hl ⊢
  have h1 : R'.1 = ms.map (shM k) := by rw [hR]; rfl
  have h2 : R'.2.Code = cd := by rw [hR]; unfold shR; dsimp only; split <;> rfl
  have h3 : R'.2.Block = if bl ≥ (k : Int) then bl + 1 else bl := by rw [hR]; unfold shR; dsimp only; split <;> rfl
  rw [h1,h2,h3]
  refine Tot.ite (fun q=>?_) (fun _=>?_)
  · exfalso
    by_cases hbk : bl ≥ (k : Int)
    · rw [if_pos hbk,decide_eq_true hbk,wrap_i64 (by omega) (by omega),decide_eq_false (show ¬ bl < (k : Int) by omega)] at q
      simp at q
    · rw [if_neg hbk,decide_eq_false hbk] at q
      simp at q
  · refine Tot.bindX (E := fun _=>True) (TotX.guard (okIdx_of (by omega)) (TotX.of (Tot.range (fun _ _=>True) _ trivial (fun i m v hx _=>?_) (fun v _=>.ok trivial)))) (fun _ _=>.ok rfl)
    have hmm := hm m (List.mem_of_getElem? hx)
    have hg : (ms.map (shM k))[i]? = some (shM k m) := by rw [List.getElem?_map,hx]; rfl
    by_cases hbk : m.Block ≥ (k : Int)
    · rw [decide_eq_true hbk,if_pos rfl,bindO_s,gt_k hg,bindO_s,shM_ge hbk,wrap_i64 (by omega) (by omega)]
      exact TotX.ite (fun h=>by simp at h) (fun _=>.go trivial)
    · rw [decide_eq_false hbk,if_neg (by simp),bindO_s,gt_k hg,bindO_s,shM_lt (by omega)]
      exact TotX.ite (fun h=>by simp at h) (fun _=>.go trivial)
theorem rest_true (L : List ApiBlock) (s : L47Setting) (a : Int) (ha : 0 ≤ a ∧ a ≤ 255) (hu : ∀ b ∈ L,∀ w ∈ b.Words,u8W w) (hl : L.length ≤ 9223372036854775807) : Tot (l47_InterpreterRestored L s a) (fun b=>b = true) := by
  unfold l47_InterpreterRestored
  simp only [awake47,bindO_s,if_true]
  refine Tot.bind (E := fun b=>b = true ∨ (fewL L ∧ s.Table.Lengths.length ≤ 20)) (Tot.bind (l47_few_tot L s hl) fun b hb=>.ok (by
    cases b with
    | true=>exact .inr (hb rfl)
    | false=>exact .inl rfl)) fun b hb=>Tot.ite (fun _=>.ok rfl) (fun hf=>?_)
  obtain ⟨hfew,ht⟩ := hb.resolve_left (by simp [hf])
  have hn := hfew.1
  obtain ⟨k,hk,hkl⟩ : ∃ k : Nat,Int.tmod (IntKind.i64.wrap a) (IntKind.i64.wrap ((L.length : Int) + 1)) = (k : Int) ∧ k ≤ L.length := by
    rw [wrap_i64 (n := a) (by omega) (by omega),wrap_i64 (by omega) (by omega),Int.tmod_eq_emod_of_nonneg ha.1]
    have g1 := Int.emod_nonneg a (show ((L.length : Int) + 1) ≠ 0 by omega)
    have g2 := Int.emod_lt_of_pos a (show (0 : Int) < (L.length : Int) + 1 by omega)
    refine ⟨(a % ((L.length : Int) + 1)).toNat,?_,?_⟩ <;> omega
  have hbs : ∀ b ∈ L,okS b := fun b hb=>⟨hu b hb,by have := (hfew.2 b hb).1; omega,by have := (hfew.2 b hb).2; omega⟩
  have hbB : ∀ b ∈ L,okB b := fun b hb=>⟨hu b hb,by have := (hfew.2 b hb).1; omega⟩
  have ht' : (theirsW s.Table).Lengths.length ≤ 1000 := by simp [theirsW]; omega
  have hc : slices_Clone_api_Block_api_Block L = some L := by unfold slices_Clone_api_Block_api_Block; rw [okLen_of (by omega),guardO_t]
  simp only [hk,hc,bindO_s,l47_theirs_eq _ (show s.Table.Lengths.length ≤ _ by omega)]
  rw [wrap_i64 (by omega) (by omega)]
  refine Tot.guard (by simp; omega) ?_
  obtain ⟨r,hr,hr2⟩ := all_states (L.take k) newS (fun b hb=>hbB b (List.mem_of_mem_take hb)) (by simp; omega)
  have hst : ∃ st e,inp_States L (k : Int) = some (st,e) ∧ (e = 0 → allS newS (L.take k) = some st) := by
    unfold inp_States
    have hcut : cutT L (k : Int) = some (L.take k) := by unfold cutT; rw [if_neg (by omega),Int.toNat_natCast]
    rw [decide_eq_false (show ¬ (k : Int) < 0 by omega),decide_eq_false (show ¬ (k : Int) > (L.length : Int) by omega),(show md_New = some newS from rfl),bindO_s,hcut,bindO_s,hr,bindO_s]
    rcases hr2 with ⟨s',h1,rfl⟩ | h1
    · exact ⟨s',0,rfl,fun _=>h1⟩
    · refine ⟨_,1,(by rw [if_neg (by simp),if_pos (by simpa using h1)]),fun h=>by cases h⟩
  obtain ⟨st,e,hse,hst2⟩ := hst
  rw [hse,bindO_s]
  refine Tot.ite (fun _=>.ok rfl) (fun q=>?_)
  have e0 : e = 0 := by simpa using q
  have hall := hst2 e0
  obtain ⟨ec,hec,_⟩ := inp_checked_tot (theirsW s.Table) s.From ht'
  have hB1 := inp_Blocks_eq L (theirsW s.Table) s.From ec hec (by omega) hbs ht'
  have hbs2 : ∀ b ∈ L.take k ++ [linB st] ++ L.drop k,okS b := by
    intro b hb
    rcases List.mem_append.1 hb with hb | hb
    · rcases List.mem_append.1 hb with hb | hb
      · exact hbs b (List.mem_of_mem_take hb)
      · simp at hb; subst hb; exact okS_lin st
    · exact hbs b (List.mem_of_mem_drop hb)
  have hB2 := inp_Blocks_eq (L.take k ++ [linB st] ++ L.drop k) (theirsW s.Table) s.From ec hec (by simp; omega) hbs2 ht'
  have hlen2 : (L.take k ++ [linB st] ++ L.drop k).length = L.length + 1 := by simp; omega
  rw [hlen2] at hB2
  have hline : md_Line st = some (linB st) := rfl
  by_cases h0 : ec = 0
  · rw [if_neg (by simpa using h0)] at hB1 hB2
    rw [hB1,bindO_s,hline,bindO_s]
    refine Tot.guard (by simp; omega) (Tot.guard (okLen_of (by omega)) ?_)
    rw [Int.toNat_natCast,hB2,bindO_s]
    subst h0
    have hrun := ins_run ht' (N := L.length) (k := k) (sB := st) (L.drop k) hkl (L.take k) 0 [] s.From newS zC (by simp; omega) (fun b hb=>hbs b (List.mem_of_mem_take hb)) (by simp) rgl_new (fun _=>rfl) hec hall
    rw [List.take_append_drop] at hrun
    simp only [List.map_nil] at hrun
    obtain ⟨hv,hin⟩ := valid_of_checked ht' hec
    obtain ⟨hA,_⟩ := runB_ok (theirsW s.Table) L.length s.From ht' L 0 ([],s.From,newS,zC) hbs (by simp) ⟨⟨rfl,by simp,hin⟩,by simp,by simp,by simp⟩ rfl
    have hblk := runB_blk (theirsW s.Table) L.length L 0 ([],s.From,newS,zC) (by simp)
    have happ : L.take k ++ [linB st] ++ L.drop k = L.take k ++ linB st :: L.drop k := by simp
    rw [happ]
    exact rest_end k L.length _ hkl (by omega) hblk hA.2.2.1 hA.2.2.2 _ hrun
  · rw [if_pos h0] at hB1 hB2
    rw [hB1,bindO_s,hline,bindO_s]
    refine Tot.guard (by simp; omega) (Tot.guard (okLen_of (by omega)) ?_)
    rw [Int.toNat_natCast,hB2,bindO_s]
    exact rest_end k L.length ([],⟨-1,ec⟩) hkl (by omega) ⟨by simp,by dsimp only; omega⟩ (by simp) (by simp) _ (shR_lt (k := k) (o := []) (by omega)).symm
theorem interpreterRestored_plain (l : List ApiBlock) (s : L47Setting) (a : Int) (h1 : inList inApiBlock l) (h2 : inL47Setting s) (h3 : inInt .u8 a) : l47_InterpreterRestored l s a = some true := by
 obtain ⟨e,he,rfl⟩ := rest_true l s a (in_u8 h3) (fun b hb w hw=>in_u8 (((h1.2 b hb).2.1.2 w hw).1)) (by have := h1.1; unfold maxLen at this; omega)
 exact he
end Go.Proofs.YtnnelopkjdgbgaaDoor
