import Derived.Test.YtjamgiobipdfhaaGreatDoorYw
import Derived.Test.YtjamgiobipdfhaaGreatDoorMLTableParse
namespace Go.Proofs.YtjamgiobipdfhaaGreatDoor
open Go.RowKit
theorem tableParse_plain (s : List UInt8) (_ : inStr s) : l45_TableParse s = some true := by
  unfold l45_TableParse
  rw [awake45,bindO_s,if_pos rfl,bindO_s]
  cases hb : decide ((s.length : Int) > 600) with
  | true=>rfl
  | false =>
    simp only [Bool.false_eq_true,if_false]
    have hl : s.length ≤ 600 := by have : (s.length : Int) ≤ 600 := by simpa using hb
                                   omega
    have hpl := pcb_len 10 s
    rw [tb_Parse_eq (by omega) (λp hp=>by have := pcb_mem hp; omega) (by omega),bindO_s,r45_Parse_eq hl,bindO_s]
    obtain ⟨hn,ht⟩ := run_text (pcb 10 s) (-1) 1 zeroT (pcb_ne 10 s) zero_ok.1 zero_ok.2.1
    generalize runL (pcb 10 s) (-1) 1 zeroT = RES at hn ht
    obtain ⟨t,n,e⟩ := RES
    have hz : zeroT.Lengths.length = 0 := rfl
    dsimp only at hn ht ⊢
    have hs : l45_same (theirsW t) e t e = some true := by
      unfold l45_same
      rw [if_pos (by simp),own_theirs t (by omega),bindO_s,same_refl t (by omega)]
      rfl
    rw [hs,bindO_s,if_pos rfl,bindO_s,if_neg (by simp)]
    by_cases h0 : e = 0
    · obtain ⟨ho,htx⟩ := ht h0
      rw [if_neg (by simp [h0]),tb_Format_eq ho (by omega),bindO_s,htx,zero_ok.2.2,jnb_pcb]
      simp [textL]
    · rw [if_pos (by simpa using h0)]
end Go.Proofs.YtjamgiobipdfhaaGreatDoor
