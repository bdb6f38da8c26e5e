/-
  For every input the Go function BlockPrint returns true and leaves its arguments as they were; conditions: those of the given statement alone.
-/
import Derived.Test.YtijihbegfmkceaaGreatDoorRPrint
import Derived.Test.YtijihbegfmkceaaGreatDoorGp
import Derived.Test.YtijihbegfmkceaaGreatDoorRows
import Derived.Test.YtijihbegfmkceaaGreatDoorTie
import Derived.Test.YtijihbegfmkceaaGreatDoorCards
import Derived.ProofKit
import Derived.LaidMore
import Derived.OpenShut
import Derived.Stop.Joined
import Derived.SevenTiedAt
import Derived.Lay
import Derived.MakeChecks
namespace Go.Proofs.YtijihbegfmkceaaGreatDoor
open Go.ChangeShapes Go.WideShapes Go.ChangeAt Go.RowKit Go.Deep

def laidBlockPrint : List (String × DataW Unit) := [("math/bits.deBruijn32tab", Rows.laid_math_bits_deBruijn32tab), ("math/bits.deBruijn64tab", Rows.laid_math_bits_deBruijn64tab), ("internal/strconv.uint64pow10", Rows.laid_internal_strconv_uint64pow10), ("unicode/utf8.acceptRanges", Rows.laid_unicode_utf8_acceptRanges), ("strconv.ErrRange", Rows.laid_strconv_ErrRange), ("strconv.ErrSyntax", Rows.laid_strconv_ErrSyntax), ("unicode/utf8.first", Rows.laid_unicode_utf8_first)]
theorem blockPrint_glob {W : World} (h : laidMetH Tryz.prog laidBlockPrint W) : GlobOk W (cellsF W) := by
  rw [MakeChecks.laidMetH_plain _ _ _ (by kernel_rfl)] at h
  obtain ⟨ps, hps, _, _⟩ := h
  obtain ⟨_, _, _, _, _, _, _, _, _, _, hps, _⟩ := hps
  obtain ⟨_, _, _, _, _, _, _, _, _, _, hps, _⟩ := hps
  obtain ⟨g1, t1, cs1, f1, p1, q1, hg1, ht1, hv1, hd1, hps, _⟩ := hps
  have e0_1 : Tryz.prog.globalNamed "internal/strconv.uint64pow10" = some 1 := by kernel_rfl
  have e1_1 : (Tryz.prog.globals[(1 : Nat)]?).map (·.type) = some 108 := by kernel_rfl
  obtain rfl := Option.some.inj (e0_1.symm.trans hg1)
  obtain rfl := Option.some.inj (e1_1.symm.trans ht1)
  have hz1 := glob_tab (ns := [1, 10, 100, 1000, 10000, 100000, 1000000, 10000000, 100000000, 1000000000, 10000000000, 100000000000, 1000000000000, 10000000000000, 100000000000000, 1000000000000000, 10000000000000000, 100000000000000000, 1000000000000000000, 10000000000000000000]) (k := .u64) (show Tryz.prog.underlying 108 = some (.array 20 73) by kernel_rfl) (show Tryz.prog.underlying 73 = some (.int .u64) by kernel_rfl) (by kernel_rfl) (by kernel_rfl) rfl hd1
  obtain ⟨tt1, ff1, hr1⟩ := var_row e0_1 hv1
  obtain ⟨_, _, _, _, _, _, _, _, _, _, hps, _⟩ := hps
  obtain ⟨_, _, _, _, _, _, _, _, _, _, hps, _⟩ := hps
  obtain ⟨_, _, _, _, _, _, _, _, _, _, hps, _⟩ := hps
  obtain ⟨_, _, _, _, _, _, _, _, _, _, hps, _⟩ := hps
  refine ⟨fun b cs hb => ?_, fun b k zs hb => ?_⟩
  · cases hb
  · unfold tabT at hb
    split at hb
    · injection hb with hb
      injection hb with h1 h2
      subst h1 h2
      exact ⟨tt1, ff1, by rw [hr1, ← hz1]⟩
    · cases hb
theorem blockPrint_door (os : Os) (args : Array Value) : laidMetH Tryz.prog laidBlockPrint ((World.laidAll Tryz.prog os laidBlockPrint).forCall (fun _ _ => 0) ⟨#[], args, []⟩).memory := by
  rw [MakeChecks.laidMetH_plain _ _ _ (by kernel_rfl)]
  exact laidMet_laidAll _ (by kernel_rfl) (by kernel_rfl)

set_option maxRecDepth 100000 in
theorem blockPrint_lifted (os : Os) (started : os.Started) (H : Type) (enc : TypeId × Value → H) :
    ReturnsInHanded {} Tryz.checked os 4 .any (fun w args => (Rows.blockPrintSpec.pre enc Tryz.prog Tryz.f4 [] false w args ∧ laidMetH Tryz.prog laidBlockPrint w) ∧ sizedMet enc Tryz.prog Tryz.f4 (OpenSpec.ofChange Rows.blockPrintSpec) false w args)
      (Rows.blockPrintSpec.post enc Tryz.prog Tryz.f4 false true false false) := by
  refine returnsInHanded_of_change_and (C := Tryz.checked) (X := fun w _ => laidMetH Tryz.prog laidBlockPrint w) (fun _ _ _ hh h => h.of_heap hh) (show ownKnob Tryz.prog.godebug = none by kernel_rfl) started (by kernel_rfl) Tryz.func4
    (ChangeSpec.witness_shaped (enc := enc) (C := Tryz.checked) (os := os) (X := fun w _ => laidMetH Tryz.prog laidBlockPrint w) false (World.laidAll Tryz.prog os laidBlockPrint) #[.slice none 0 0] 8 (World.laidAll_os _ _ _) (World.shaped_of_ZipB (by kernel_rfl) (by kernel_rfl)) (by kernel_rfl) (by kernel_rfl) (by kernel_rfl) (blockPrint_door os _)) ?_
  intro W base args ds gs before hval0 hW _ _ hL _
  have hval : ∀ (j : Nat) t v, Tryz.f4.params[j]? = some t → args[j]? = some v → Value.okWide Tryz.prog W .any base t v := hval0
  have hW' := hW
  obtain ⟨p, q, hA0, hV, rfl, hfz, hnd⟩ := hW
  have hA : DataW.TrodAll enc Tryz.prog W 0 (fun _ => true) true Tryz.f4.params.toList args.toList ds p := hA0
  rw [Tryz.params4] at hA hval
  obtain ⟨v0, vs0, d0, ds0, p0, q0, hargs, rfl, rfl, h0, r0⟩ := trodAll_cons hA
  obtain ⟨rfl, rfl, rfl⟩ := trodAll_nil r0
  obtain rfl : args = #[v0] := by cases args; simp_all
  obtain ⟨rfl, rfl⟩ := trodVars_none hV
  have k0 := h0
  have lt0 : ∀ x ∈ p0, x.block < W.heap.size := by obtain ⟨m, hm⟩ := k0; exact DataW.trod_lt m _ _ _ hm
  obtain ⟨w0, x0, y0, rfl⟩ := okWide_slice Tryz.underlying23 (hval 0 23 v0 rfl rfl)
  obtain ⟨s0, e0, o0⟩ := Opn.arg opn_23 _ (fun _ => rfl) rfl h0
  clear hA0 hval0
  have key := (l41_BlockPrint_spec (blockPrint_plain s0  o0)).2 W (cellsF W) _ (fun b o u q => ⟨cell_lt q, q⟩) (blockPrint_glob hL) (rels_cons e0 (rels_nil _))
  refine key.mono ?_
  rintro e W' ⟨u, rfl, bel, hu⟩
  have hu' := inv_bool hu
  subst hu'
  exact ⟨_, rfl, _, _, _, [], _, [], hW', trodAll_mk1 (shut_bool Tryz.underlying4 _), (trodAll_cons_mk (Below.trod laidOut_ok (by kernel_rfl) (of_decide_eq_true (by kernel_rfl)) k0 bel.below lt0) trodAll_mk0), rfl, bel.below.frame _, fun h => by cases h⟩

theorem blockPrint_holds : Rows.BlockPrintSaid :=
  OpenClaim.holds_of_wide 4 Tryz.f4 rfl rfl rfl rfl rfl rfl rfl ⟨rfl, rfl, rfl, rfl, rfl⟩ rfl rfl rfl rfl rfl (by kernel_rfl) Tryz.func4 (by kernel_rfl)
    (of_decide_eq_true (by kernel_rfl)) (by unfold Func.isWrapper; first | (rw [if_pos (by decide +kernel)]; kernel_rfl) | (rw [if_neg (by decide +kernel)]; exact ⟨rfl, rfl⟩))
    (fun os started H enc _ => blockPrint_lifted os started H enc)

theorem blockPrint_card : Rows.BlockPrintCardSaid :=
  Claim7.holds_tied_plain_at .later [] [.data, .data, .data, .data, .sentinel, .sentinel, .pinned] true (true, "d0aee6bac4ae729abae49dedb56756c9a9588a9e05e1f1fc7b64f1635e3b6a2b") true
    blockPrint_holds (fun _ h => by cases h) (by kernel_rfl) (fun _ h => by cases h) blockPrint_row_tie rfl ⟨rfl, rfl⟩ (by kernel_rfl) rfl
    (fun f fn hf hfn => by
      obtain rfl : f = 4 := Option.some.inj ((show Tryz.prog.funcNamed "swarf/swarflaw41.BlockPrint" = some 4 by kernel_rfl).symm.trans hf) |>.symm
      obtain rfl : fn = Tryz.f4 := (Option.some.inj (Tryz.func4.symm.trans hfn)).symm
      exact ⟨by kernel_rfl, fun j t ht => by
        rw [Tryz.params4] at ht
        have hm : t ∈ [23] := by simpa using Array.mem_of_getElem? ht
        have hall : ([23].all fun u => !Tryz.prog.wantsStandIn u) = true := by kernel_rfl
        exact (show Tryz.prog.wantsStandIn t = false by simpa using List.all_eq_true.1 hall t hm)⟩)
    (by kernel_rfl)
#print axioms blockPrint_card
end Go.Proofs.YtijihbegfmkceaaGreatDoor
