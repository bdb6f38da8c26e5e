/-
 For every input the Go function InterpreterBlocks returns true and leaves its arguments as they were; conditions: those of the given statement alone.
-/
import Derived.Test.YtopjpenbieojmaaGreatDoorRIBlocks
import Derived.Test.YtopjpenbieojmaaGreatDoorGp
import Derived.Test.YtopjpenbieojmaaGreatDoorRows
import Derived.Test.YtopjpenbieojmaaGreatDoorTie
import Derived.Test.YtopjpenbieojmaaGreatDoorCards
import Derived.ProofKit
import Derived.LaidMore
import Derived.OpenShut
import Derived.Stop.Joined
import Derived.SevenTiedAt
import Derived.Lay
import Derived.MakeChecks
namespace Go.Proofs.YtopjpenbieojmaaGreatDoor
open Go.ChangeShapes Go.WideShapes Go.ChangeAt Go.RowKit Go.Deep

def laidInterpreterBlocks : List (String × DataW Unit) := [("swarf/interpreter.machineCodes", Rows.laid_swarf_interpreter_machineCodes)]
theorem interpreterBlocks_glob {W : World} (h : laidMetH Tryz.prog laidInterpreterBlocks W) : GlobOk W (cellsF W) := by
 rw [MakeChecks.laidMetH_plain _ _ _ (by kernel_rfl)] at h
 obtain ⟨ps, hps, _, _⟩ := h
 obtain ⟨g0, t0, cs0, f0, p0, q0, hg0, ht0, hv0, hd0, hps, _⟩ := hps
 have e0_0 : Tryz.prog.globalNamed "swarf/interpreter.machineCodes" = some 0 := by kernel_rfl
 have e1_0 : (Tryz.prog.globals[(0 : Nat)]?).map (·.type) = some 75 := by kernel_rfl
 obtain rfl := Option.some.inj (e0_0.symm.trans hg0)
 obtain rfl := Option.some.inj (e1_0.symm.trans ht0)
 obtain ⟨u0, hu0, hr0⟩ := glob_ints (ns := [0, 1000, 3000, 4000, 5000, 6000, 8000, 9000, 30000]) (k := .i64) Tryz.underlying75 Tryz.underlying2 (by kernel_rfl) hd0
 have hcell0 := var_cell e0_0 hv0 hu0
 refine ⟨fun b cs hb => ?_, fun b k zs hb => ?_, fun b hb => ?_⟩
 ·unfold glT at hb
  split at hb
  ·injection hb with hb
   subst hb
   refine ⟨fun _ => u0, fun j x hx => ?_⟩
   cases j with
   | zero => simp at hx; subst hx; exact ⟨hcell0, hr0⟩
   | succ j => simp at hx
  ·cases hb
 ·cases hb
 ·cases hb
theorem interpreterBlocks_door (os : Os) (args : Array Value) : laidMetH Tryz.prog laidInterpreterBlocks ((World.laidAll Tryz.prog os laidInterpreterBlocks).forCall (fun _ _ => 0) ⟨#[], args, []⟩).memory := by
 rw [MakeChecks.laidMetH_plain _ _ _ (by kernel_rfl)]
 exact laidMet_laidAll _ (by kernel_rfl) (by kernel_rfl)

set_option maxRecDepth 100000 in
theorem interpreterBlocks_lifted (os : Os) (started : os.Started) (H : Type) (enc : TypeId × Value → H) :
  ReturnsInHanded {} Tryz.checked os 4 .any (fun w args => (Rows.interpreterBlocksSpec.pre enc Tryz.prog Tryz.f4 [] false w args ∧ laidMetH Tryz.prog laidInterpreterBlocks w) ∧ sizedMet enc Tryz.prog Tryz.f4 (OpenSpec.ofChange Rows.interpreterBlocksSpec) false w args)
   (Rows.interpreterBlocksSpec.post enc Tryz.prog Tryz.f4 false true false false) := by
 refine returnsInHanded_of_change_and (C := Tryz.checked) (X := fun w _ => laidMetH Tryz.prog laidInterpreterBlocks w) (fun _ _ _ hh h => h.of_heap hh) (show ownKnob Tryz.prog.godebug = none by kernel_rfl) started (by kernel_rfl) Tryz.func4
  (ChangeSpec.witness_shaped (enc := enc) (C := Tryz.checked) (os := os) (X := fun w _ => laidMetH Tryz.prog laidInterpreterBlocks w) false (World.laidAll Tryz.prog os laidInterpreterBlocks) #[.slice none 0 0, .agg #[.int .i64 0, .int .i64 0, .int .i64 0, .int .i64 0, .int .i64 0, .int .i64 0, .int .i64 0, .int .i64 0, .int .i64 0, .int .i64 0, .int .i64 0, .int .i64 0, .int .i64 0, .int .i64 0, .int .i64 0, .int .i64 0, .int .i64 0, .int .i64 0, .slice none 0 0, .int .i64 0, .int .i64 0, .int .i64 0]] 8 (World.laidAll_os _ _ _) (World.shaped_of_ZipB (by kernel_rfl) (by kernel_rfl)) (by kernel_rfl) (by kernel_rfl) (by kernel_rfl) (interpreterBlocks_door os _)) ?_
 intro W base args ds gs before hval0 hW _ _ hL _
 have hval : ∀ (j : Nat) t v, Tryz.f4.params[j]? = some t → args[j]? = some v → Value.okWide Tryz.prog W .any base t v := hval0
 have hW' := hW
 obtain ⟨p, q, hA0, hV, rfl, hfz, hnd⟩ := hW
 have hA : DataW.TrodAll enc Tryz.prog W 0 (fun _ => true) true Tryz.f4.params.toList args.toList ds p := hA0
 rw [Tryz.params4] at hA hval
 obtain ⟨v0, vs0, d0, ds0, p0, q0, hargs, rfl, rfl, h0, r0⟩ := trodAll_cons hA
 obtain ⟨v1, vs1, d1, ds1, p1, q1, rfl, rfl, rfl, h1, r1⟩ := trodAll_cons r0
 obtain ⟨rfl, rfl, rfl⟩ := trodAll_nil r1
 obtain rfl : args = #[v0, v1] := by cases args; simp_all
 obtain ⟨rfl, rfl⟩ := trodVars_none hV
 have k0 := h0
 have lt0 : ∀ x ∈ p0, x.block < W.heap.size := by obtain ⟨m, hm⟩ := k0; exact DataW.trod_lt m _ _ _ hm
 obtain ⟨w0, x0, y0, rfl⟩ := okWide_slice Tryz.underlying39 (hval 0 39 v0 rfl rfl)
 obtain ⟨s0, e0, o0⟩ := Opn.arg opn_39 _ (fun _ => rfl) rfl h0
 have k1 := h1
 have lt1 : ∀ x ∈ p1, x.block < W.heap.size := by obtain ⟨m, hm⟩ := k1; exact DataW.trod_lt m _ _ _ hm
 obtain ⟨c1, rfl, _⟩ := okWide_struct Tryz.underlying41 (hval 1 41 v1 rfl rfl)
 obtain ⟨s1, e1, o1⟩ := Opn.argS opn_41 h1
 clear hA0 hval0
 have key := (l47_InterpreterBlocks_spec (interpreterBlocks_plain s0  s1  o0 o1)).2 W (cellsF W) _ (fun b o u q => ⟨cell_lt q, q⟩) (interpreterBlocks_glob hL) (rels_cons e0 (rels_cons e1 (rels_nil _)))
 refine key.mono ?_
 rintro e W' ⟨u, rfl, bel, hu⟩
 have hu' := inv_bool hu
 subst hu'
 exact ⟨_, rfl, _, _, _, [], _, [], hW', trodAll_mk1 (shut_bool Tryz.underlying4 _), (trodAll_cons_mk (Below.trod laidOut_ok (by kernel_rfl) (of_decide_eq_true (by kernel_rfl)) k0 bel.below lt0) (trodAll_cons_mk (Below.trod laidOut_ok (by kernel_rfl) (of_decide_eq_true (by kernel_rfl)) k1 bel.below lt1) trodAll_mk0)), rfl, bel.below.frame _, fun h => by cases h⟩

theorem interpreterBlocks_holds : Rows.InterpreterBlocksSaid :=
 OpenClaim.holds_of_wide 4 Tryz.f4 rfl rfl rfl rfl rfl rfl rfl ⟨rfl, rfl, rfl, rfl, rfl⟩ rfl rfl rfl rfl rfl (by kernel_rfl) Tryz.func4 (by kernel_rfl)
  (of_decide_eq_true (by kernel_rfl)) (by unfold Func.isWrapper; first | (rw [if_pos (by decide +kernel)]; kernel_rfl) | (rw [if_neg (by decide +kernel)]; exact ⟨rfl, rfl⟩))
  (fun os started H enc _ => interpreterBlocks_lifted os started H enc)

theorem interpreterBlocks_card : Rows.InterpreterBlocksCardSaid :=
 Claim7.holds_tied_plain_at .later [] [.widerDeep] true (true, "80832ddd2e432c4e38ab44c7735a227a7ec86e75ef59a3b43e98b30c1d3a5276") false
  interpreterBlocks_holds (fun _ h => by cases h) (by kernel_rfl) (fun _ h => by cases h) interpreterBlocks_row_tie rfl ⟨rfl, rfl⟩ (by kernel_rfl) rfl
  (fun f fn hf hfn => by
   obtain rfl : f = 4 := Option.some.inj ((show Tryz.prog.funcNamed "swarf/swarflaw47.InterpreterBlocks" = some 4 by kernel_rfl).symm.trans hf) |>.symm
   obtain rfl : fn = Tryz.f4 := (Option.some.inj (Tryz.func4.symm.trans hfn)).symm
   exact ⟨by kernel_rfl, fun j t ht => by
    rw [Tryz.params4] at ht
    have hm : t ∈ [39, 41] := by simpa using Array.mem_of_getElem? ht
    have hall : ([39, 41].all fun u => !Tryz.prog.wantsStandIn u) = true := by kernel_rfl
    exact (show Tryz.prog.wantsStandIn t = false by simpa using List.all_eq_true.1 hall t hm)⟩)
  (by kernel_rfl)
#print axioms interpreterBlocks_card
end Go.Proofs.YtopjpenbieojmaaGreatDoor
