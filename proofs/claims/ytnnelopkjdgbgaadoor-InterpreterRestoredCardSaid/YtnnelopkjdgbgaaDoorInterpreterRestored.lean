/-
 For every input the Go function InterpreterRestored returns true and leaves its arguments as they were; conditions: those of the given statement alone.
-/
import Derived.Test.YtnnelopkjdgbgaaDoorRIRest
import Derived.Test.YtnnelopkjdgbgaaDoorMLInterpreterRestored
import Derived.Test.YtnnelopkjdgbgaaDoorGp
import Derived.Test.YtnnelopkjdgbgaaDoorRows
import Derived.Test.YtnnelopkjdgbgaaDoorTie
import Derived.Test.YtnnelopkjdgbgaaDoorCards
import Derived.ProofKit
import Derived.LaidMore
import Derived.OpenShut
import Derived.Stop.Joined
import Derived.SevenTiedAt
import Derived.Lay
import Derived.MakeChecks
namespace Go.Proofs.YtnnelopkjdgbgaaDoor
open Go.ChangeShapes Go.WideShapes Go.ChangeAt Go.RowKit Go.Deep

def laidInterpreterRestored : List (String × DataW Unit) := [("swarf/interpreter.machineCodes", Rows.laid_swarf_interpreter_machineCodes)]
theorem interpreterRestored_glob {W : World} (h : laidMetH Tryd.prog laidInterpreterRestored W) : GlobOk W (cellsF W) := by
 rw [MakeChecks.laidMetH_plain _ _ _ (by kernel_rfl)] at h
 obtain ⟨ps, hps, _, _⟩ := h
 obtain ⟨g0, t0, cs0, f0, p0, q0, hg0, ht0, hv0, hd0, hps, _⟩ := hps
 have e0_0 : Tryd.prog.globalNamed "swarf/interpreter.machineCodes" = some 0 := by kernel_rfl
 have e1_0 : (Tryd.prog.globals[(0 : Nat)]?).map (·.type) = some 69 := by kernel_rfl
 obtain rfl := Option.some.inj (e0_0.symm.trans hg0)
 obtain rfl := Option.some.inj (e1_0.symm.trans ht0)
 obtain ⟨u0, hu0, hr0⟩ := glob_ints (ns := [0, 1000, 3000, 4000, 5000, 6000, 8000, 9000, 30000]) (k := .i64) Tryd.underlying69 Tryd.underlying2 (by kernel_rfl) hd0
 have hcell0 := var_cell e0_0 hv0 hu0
 refine ⟨fun b cs hb => ?_, fun b k zs hb => ?_, fun b hb => ?_, fun b hb => ?_, fun b kvs hb => ?_⟩
 ·unfold glT at hb
  split at hb
  ·injection hb with hb
   subst hb
   refine ⟨fun _ => u0, fun j x hx => ?_⟩
   cases j with
   | zero => simp at hx; subst hx; exact ⟨hcell0, hr0⟩
   | succ j => simp at hx
  ·cases hb
 ·cases hb
 ·cases hb
 ·cases hb
 ·cases hb
theorem interpreterRestored_door (os : Os) (args : Array Value) : laidMetH Tryd.prog laidInterpreterRestored ((World.laidAll Tryd.prog os laidInterpreterRestored).forCall (fun _ _ => 0) ⟨#[], args, []⟩).memory := by
 rw [MakeChecks.laidMetH_plain _ _ _ (by kernel_rfl)]
 exact laidMet_laidAll _ (by kernel_rfl) (by kernel_rfl)

set_option maxRecDepth 100000 in
theorem interpreterRestored_lifted (os : Os) (started : os.Started) (H : Type) (enc : TypeId × Value → H) :
  ReturnsInHanded {} Tryd.checked os 3 .any (fun w args => (Rows.interpreterRestoredSpec.pre enc Tryd.prog Tryd.f3 [] false w args ∧ laidMetH Tryd.prog laidInterpreterRestored w) ∧ sizedMet enc Tryd.prog Tryd.f3 (OpenSpec.ofChange Rows.interpreterRestoredSpec) false w args)
   (Rows.interpreterRestoredSpec.post enc Tryd.prog Tryd.f3 false true false false) := by
 refine returnsInHanded_of_change_and (C := Tryd.checked) (X := fun w _ => laidMetH Tryd.prog laidInterpreterRestored w) (fun _ _ _ hh h => h.of_heap hh) (show ownKnob Tryd.prog.godebug = none by kernel_rfl) started (by kernel_rfl) Tryd.func3
  (ChangeSpec.witness_shaped (enc := enc) (C := Tryd.checked) (os := os) (X := fun w _ => laidMetH Tryd.prog laidInterpreterRestored w) false (World.laidAll Tryd.prog os laidInterpreterRestored) #[.slice none 0 0, .agg #[.int .i64 0, .int .i64 0, .int .i64 0, .int .i64 0, .int .i64 0, .int .i64 0, .int .i64 0, .int .i64 0, .int .i64 0, .int .i64 0, .int .i64 0, .int .i64 0, .int .i64 0, .int .i64 0, .int .i64 0, .int .i64 0, .int .i64 0, .int .i64 0, .slice none 0 0, .int .i64 0, .int .i64 0, .int .i64 0], .int .u8 0] 8 (World.laidAll_os _ _ _) (World.shaped_of_ZipB (by kernel_rfl) (by kernel_rfl)) (by kernel_rfl) (by kernel_rfl) (by kernel_rfl) (interpreterRestored_door os _)) ?_
 intro W base args ds gs before hval0 hW _ _ hL _
 have hval : ∀ (j : Nat) t v, Tryd.f3.params[j]? = some t → args[j]? = some v → Value.okWide Tryd.prog W .any base t v := hval0
 have hW' := hW
 obtain ⟨p, q, hA0, hV, rfl, hfz, hnd⟩ := hW
 have hA : DataW.TrodAll enc Tryd.prog W 0 (fun _ => true) true Tryd.f3.params.toList args.toList ds p := hA0
 rw [Tryd.params3] at hA hval
 obtain ⟨v0, vs0, d0, ds0, p0, q0, hargs, rfl, rfl, h0, r0⟩ := trodAll_cons hA
 obtain ⟨v1, vs1, d1, ds1, p1, q1, rfl, rfl, rfl, h1, r1⟩ := trodAll_cons r0
 obtain ⟨v2, vs2, d2, ds2, p2, q2, rfl, rfl, rfl, h2, r2⟩ := trodAll_cons r1
 obtain ⟨rfl, rfl, rfl⟩ := trodAll_nil r2
 obtain rfl : args = #[v0, v1, v2] := by cases args; simp_all
 obtain ⟨rfl, rfl⟩ := trodVars_none hV
 have k0 := h0
 have lt0 : ∀ x ∈ p0, x.block < W.heap.size := by obtain ⟨m, hm⟩ := k0; exact DataW.trod_lt m _ _ _ hm
 obtain ⟨w0, x0, y0, rfl⟩ := okWide_slice Tryd.underlying22 (hval 0 22 v0 rfl rfl)
 obtain ⟨s0, e0, o0⟩ := Opn.arg opn_22 _ (fun _ => rfl) rfl h0
 have k1 := h1
 have lt1 : ∀ x ∈ p1, x.block < W.heap.size := by obtain ⟨m, hm⟩ := k1; exact DataW.trod_lt m _ _ _ hm
 obtain ⟨c1, rfl, _⟩ := okWide_struct Tryd.underlying30 (hval 1 30 v1 rfl rfl)
 obtain ⟨s1, e1, o1⟩ := Opn.argS opn_30 h1
 have k2 := h2
 have lt2 : ∀ x ∈ p2, x.block < W.heap.size := by obtain ⟨m, hm⟩ := k2; exact DataW.trod_lt m _ _ _ hm
 obtain ⟨w2, rfl⟩ := okWide_int Tryd.underlying5 (hval 2 5 v2 rfl rfl)
 obtain ⟨s2, e2, o2⟩ := Opn.arg opn_5 _ (fun _ => rfl) rfl h2
 clear hA0 hval0
 have key := (l47_InterpreterRestored_spec (interpreterRestored_plain s0  s1  s2  o0 o1 o2)).2 W (cellsF W) _ (fun b o u q => ⟨cell_lt q, q⟩) (interpreterRestored_glob hL) (rels_cons e0 (rels_cons e1 (rels_cons e2 (rels_nil _))))
 refine key.mono ?_
 rintro e W' ⟨u, rfl, bel, hu⟩
 have hu' := inv_bool hu
 subst hu'
 exact ⟨_, rfl, _, _, _, [], _, [], hW', trodAll_mk1 (shut_bool Tryd.underlying4 _), (trodAll_cons_mk (Below.trod laidOut_ok (by kernel_rfl) (of_decide_eq_true (by kernel_rfl)) k0 bel.below lt0) (trodAll_cons_mk (Below.trod laidOut_ok (by kernel_rfl) (of_decide_eq_true (by kernel_rfl)) k1 bel.below lt1) (trodAll_cons_mk (Below.trod laidOut_ok (by kernel_rfl) (of_decide_eq_true (by kernel_rfl)) k2 bel.below lt2) trodAll_mk0))), rfl, bel.below.frame _, fun h => by cases h⟩

theorem interpreterRestored_holds : Rows.InterpreterRestoredSaid :=
 OpenClaim.holds_of_wide 3 Tryd.f3 rfl rfl rfl rfl rfl rfl rfl ⟨rfl, rfl, rfl, rfl, rfl⟩ rfl rfl rfl rfl rfl (by kernel_rfl) Tryd.func3 (by kernel_rfl)
  (of_decide_eq_true (by kernel_rfl)) (by unfold Func.isWrapper; first | (rw [if_pos (by decide +kernel)]; kernel_rfl) | (rw [if_neg (by decide +kernel)]; exact ⟨rfl, rfl⟩))
  (fun os started H enc _ => interpreterRestored_lifted os started H enc)

theorem interpreterRestored_card : Rows.InterpreterRestoredCardSaid :=
 Claim7.holds_tied_plain_at .later [] [.widerDeep] true (true, "0bdd618e82b1582f8b4093c8d209ec5ad14dbca41933d9c25ba07f9858825dea") false
  interpreterRestored_holds (fun _ h => by cases h) (by kernel_rfl) (fun _ h => by cases h) interpreterRestored_row_tie rfl ⟨rfl, rfl⟩ (by kernel_rfl) rfl
  (fun f fn hf hfn => by
   obtain rfl : f = 3 := Option.some.inj ((show Tryd.prog.funcNamed "swarf/swarflaw47.InterpreterRestored" = some 3 by kernel_rfl).symm.trans hf) |>.symm
   obtain rfl : fn = Tryd.f3 := (Option.some.inj (Tryd.func3.symm.trans hfn)).symm
   exact ⟨by kernel_rfl, fun j t ht => by
    rw [Tryd.params3] at ht
    have hm : t ∈ [22, 30, 5] := by simpa using Array.mem_of_getElem? ht
    have hall : ([22, 30, 5].all fun u => !Tryd.prog.wantsStandIn u) = true := by kernel_rfl
    exact (show Tryd.prog.wantsStandIn t = false by simpa using List.all_eq_true.1 hall t hm)⟩)
  (by kernel_rfl)
#print axioms interpreterRestored_card
end Go.Proofs.YtnnelopkjdgbgaaDoor
