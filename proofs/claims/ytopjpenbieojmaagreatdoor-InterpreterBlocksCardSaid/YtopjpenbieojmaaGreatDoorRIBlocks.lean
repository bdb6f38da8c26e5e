import Derived.Test.YtopjpenbieojmaaGreatDoorVz
import Derived.Test.YtopjpenbieojmaaGreatDoorGp
import Derived.Test.YtopjpenbieojmaaGreatDoorMLInterpreterBlocks
namespace Go.Proofs.YtopjpenbieojmaaGreatDoor
open Go.RowKit
set_option linter.unusedVariables false
set_option linter.unusedSimpArgs false
theorem inU8 {n : Int} (h : inInt .u8 n) : 0 ≤ n ∧ n ≤ 255 := by
 simp [inInt,Lit.wf,IntKind.min,IntKind.max,IntKind.signed,IntKind.bits] at h
 omega
theorem interpreterBlocks_plain (l : List ApiBlock) (s : L47Setting) (hl : inList inApiBlock l) (hs : inL47Setting s) : l47_InterpreterBlocks l s = some true := by
 have hu : ∀ b ∈ l,∀ w ∈ b.Words,u8W w := fun b hb w hw=>inU8 (((hl.2 b hb).2.1.2 w hw).1)
 have hlen : l.length ≤ 9223372036854775807 := by have := hl.1; unfold maxLen at this; omega
 suffices h : Tot (l47_InterpreterBlocks l s) (fun b=>b = true) by
  obtain ⟨e,h1,h2⟩ := h
  rw [h1,h2]
 unfold l47_InterpreterBlocks
 simp only [awake47,bindO_s,if_true]
 refine Tot.bind (E := fun b=>b = true ∨ (fewL l ∧ s.Table.Lengths.length ≤ 20)) (Tot.bind (l47_few_tot l s hlen) fun b hb=>.ok ?_) fun b hb=>Tot.ite (fun _=>.ok rfl) (fun hf=>?_)
 ·cases b with
  | true=>exact .inr (hb rfl)
  | false=>exact .inl rfl
 ·obtain ⟨hfew,ht⟩ := hb.resolve_left (by simp [hf])
  have hbs : ∀ b ∈ l,okS b := fun b hb=>⟨hu b hb,by have := (hfew.2 b hb).1; omega,by have := (hfew.2 b hb).2; omega⟩
  have hll := hfew.1
  have ht' : (theirsW s.Table).Lengths.length ≤ 1000 := by simp [theirsW]; omega
  obtain ⟨e,hce,hc0⟩ := inp_checked_tot (theirsW s.Table) s.From ht'
  rw [show slices_Clone_api_Block_api_Block l = some l by unfold slices_Clone_api_Block_api_Block; rw [okLen_of (by omega),guardO_t],bindO_s,l47_theirs_eq _ (by omega),bindO_s,inp_Blocks_eq l _ _ e hce (by omega) hbs ht',bindO_s,r47_Blocks_eq l _ _ e hce (by omega) hbs (by omega),bindO_s]
  unfold l47_same
  by_cases h0 : e = 0
  ·rw [if_neg (show ¬ (e ≠ 0) by simpa using h0),if_neg (show ¬ (e ≠ 0) by simpa using h0)]
   obtain ⟨a,b⟩ := runB_ok (theirsW s.Table) l.length s.From ht' l 0 ([],s.From,newS,zC) hbs (by simp) ⟨⟨rfl,by simp,hc0 h0⟩,by simp,by simp,by simp⟩ rfl
   have hlen2 := a.2.2.2
   generalize runB (theirsW s.Table) l.length 0 l ([],s.From,newS,zC) = r at hlen2
   dsimp only
   rw [same_self _ (by omega),bindO_s,if_pos rfl,if_pos (by simp),bindO_s,bindO_s]
   exact .ok (by simp)
  ·rw [if_pos h0,if_pos h0]
   dsimp only
   rw [same_self _ (by simp),bindO_s,if_pos rfl,if_pos (by simp),bindO_s,bindO_s]
   exact .ok (by simp)
end Go.Proofs.YtopjpenbieojmaaGreatDoor
