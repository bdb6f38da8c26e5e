import Derived.Test.YthljcnchaopncaaGreatDoorZy
import Derived.Test.YthljcnchaopncaaGreatDoorMLToolParse
namespace Go.Proofs.YthljcnchaopncaaGreatDoor
open Go.RowKit
set_option linter.unusedVariables false
set_option linter.unusedSimpArgs false
theorem toolParse_plain (s : List UInt8) (h : inStr s) : l27_ToolParse s = some true := by
 unfold l27_ToolParse
 rw [awake27,bindO_s,if_pos rfl,bindO_s]
 by_cases hl : s.length ≤ 20000
 ·rw [decide_eq_false (show ¬ (s.length : Int) > 20000 by omega),if_neg (by simp)]
  have hP : ∀ p ∈ pcb 10 s,p.length ≤ 20000 := fun p hp=>by have := pcb_mem hp; omega
  rw [to_Parse_eq (by omega) hP,bindO_s,r27_Parse_eq hl,bindO_s]
  have hok := run_ok (pcb 10 s) [] (pcb_ne 10 s) hP (by simp) (fun i t ht=>by simp at ht) (by simp)
  have herr := run_err (pcb 10 s) []
  generalize runT (pcb 10 s) [] = R at *
  have hlen : R.1.length ≤ 1000000 := by
   by_cases h0 : R.2.2 = 0
   ·have := (mag_ok.1 (hok h0).1).1; omega
   ·rw [herr h0]; simp
  rw [if_neg (by simp),if_neg (by simp),r27_Equal_eq _ _ hlen,bindO_s,bindO_s,if_neg (by simp)]
  by_cases h0 : R.2.2 = 0
  ·rw [if_neg (by simpa using h0)]
   obtain ⟨h1,h2⟩ := hok h0
   rw [to_Format_eq _ hlen,bindO_s]
   unfold fmtR
   rw [if_pos h1,h2,jnb_pcb]
   simp [fmtV]
  ·rw [if_pos (by simpa using h0),herr h0]; rfl
 ·rw [decide_eq_true (show (s.length : Int) > 20000 by omega),if_pos rfl,bindO_s]
end Go.Proofs.YthljcnchaopncaaGreatDoor
