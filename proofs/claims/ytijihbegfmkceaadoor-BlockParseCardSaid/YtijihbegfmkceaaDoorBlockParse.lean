/-
  For every input the Go function BlockParse returns true and leaves its arguments as they were; conditions: those of the given statement alone.
-/
import Derived.Test.YtijihbegfmkceaaDoorRParse
import Derived.Test.YtijihbegfmkceaaDoorGp
import Derived.Test.YtijihbegfmkceaaDoorRows
import Derived.Test.YtijihbegfmkceaaDoorTie
import Derived.Test.YtijihbegfmkceaaDoorCards
import Derived.ProofKit
import Derived.LaidMore
import Derived.OpenShut
import Derived.Stop.Joined
import Derived.SevenTiedAt
import Derived.Lay
import Derived.MakeChecks
namespace Go.Proofs.YtijihbegfmkceaaDoor
open Go.ChangeShapes Go.WideShapes Go.ChangeAt Go.RowKit Go.Deep

def laidBlockParse : List (String × DataW Unit) := [("math/bits.deBruijn32tab", Rows.laid_math_bits_deBruijn32tab), ("math/bits.deBruijn64tab", Rows.laid_math_bits_deBruijn64tab), ("internal/strconv.uint64pow10", Rows.laid_internal_strconv_uint64pow10), ("unicode/utf8.acceptRanges", Rows.laid_unicode_utf8_acceptRanges), ("strconv.ErrRange", Rows.laid_strconv_ErrRange), ("strconv.ErrSyntax", Rows.laid_strconv_ErrSyntax), ("unicode/utf8.first", Rows.laid_unicode_utf8_first)]
theorem blockParse_glob {W : World} (h : laidMetH Tryd.prog laidBlockParse W) : GlobOk W (cellsF W) := by
  rw [MakeChecks.laidMetH_plain _ _ _ (by kernel_rfl)] at h
  obtain ⟨ps, hps, _, _⟩ := h
  obtain ⟨_, _, _, _, _, _, _, _, _, _, hps, _⟩ := hps
  obtain ⟨_, _, _, _, _, _, _, _, _, _, hps, _⟩ := hps
  obtain ⟨g0, t0, cs0, f0, p0, q0, hg0, ht0, hv0, hd0, hps, _⟩ := hps
  have e0_0 : Tryd.prog.globalNamed "internal/strconv.uint64pow10" = some 0 := by kernel_rfl
  have e1_0 : (Tryd.prog.globals[(0 : Nat)]?).map (·.type) = some 113 := by kernel_rfl
  obtain rfl := Option.some.inj (e0_0.symm.trans hg0)
  obtain rfl := Option.some.inj (e1_0.symm.trans ht0)
  have hz0 := glob_tab (ns := [1, 10, 100, 1000, 10000, 100000, 1000000, 10000000, 100000000, 1000000000, 10000000000, 100000000000, 1000000000000, 10000000000000, 100000000000000, 1000000000000000, 10000000000000000, 100000000000000000, 1000000000000000000, 10000000000000000000]) (k := .u64) (show Tryd.prog.underlying 113 = some (.array 20 51) by kernel_rfl) (show Tryd.prog.underlying 51 = some (.int .u64) by kernel_rfl) (by kernel_rfl) (by kernel_rfl) rfl hd0
  obtain ⟨tt0, ff0, hr0⟩ := var_row e0_0 hv0
  obtain ⟨_, _, _, _, _, _, _, _, _, _, hps, _⟩ := hps
  obtain ⟨_, _, _, _, _, _, _, _, _, _, hps, _⟩ := hps
  obtain ⟨_, _, _, _, _, _, _, _, _, _, hps, _⟩ := hps
  obtain ⟨_, _, _, _, _, _, _, _, _, _, hps, _⟩ := hps
  refine ⟨fun b cs hb => ?_, fun b k zs hb => ?_⟩
  · cases hb
  · unfold tabT at hb
    split at hb
    · injection hb with hb
      injection hb with h1 h2
      subst h1 h2
      exact ⟨tt0, ff0, by rw [hr0, ← hz0]⟩
    · cases hb
theorem blockParse_door (os : Os) (args : Array Value) : laidMetH Tryd.prog laidBlockParse ((World.laidAll Tryd.prog os laidBlockParse).forCall (fun _ _ => 0) ⟨#[], args, []⟩).memory := by
  rw [MakeChecks.laidMetH_plain _ _ _ (by kernel_rfl)]
  exact laidMet_laidAll _ (by kernel_rfl) (by kernel_rfl)

set_option maxRecDepth 100000 in
theorem blockParse_lifted (os : Os) (started : os.Started) (H : Type) (enc : TypeId × Value → H) :
    ReturnsInHanded {} Tryd.checked os 6 .any (fun w args => (Rows.blockParseSpec.pre enc Tryd.prog Tryd.f6 [] false w args ∧ laidMetH Tryd.prog laidBlockParse w) ∧ sizedMet enc Tryd.prog Tryd.f6 (OpenSpec.ofChange Rows.blockParseSpec) false w args)
      (Rows.blockParseSpec.post enc Tryd.prog Tryd.f6 false true false false) := by
  refine returnsInHanded_of_change_and (C := Tryd.checked) (X := fun w _ => laidMetH Tryd.prog laidBlockParse w) (fun _ _ _ hh h => h.of_heap hh) (show ownKnob Tryd.prog.godebug = none by kernel_rfl) started (by kernel_rfl) Tryd.func6
    (ChangeSpec.witness_shaped (enc := enc) (C := Tryd.checked) (os := os) (X := fun w _ => laidMetH Tryd.prog laidBlockParse w) false (World.laidAll Tryd.prog os laidBlockParse) #[.string ⟨#[]⟩] 8 (World.laidAll_os _ _ _) (World.shaped_of_ZipB (by kernel_rfl) (by kernel_rfl)) (by kernel_rfl) (by kernel_rfl) (by kernel_rfl) (blockParse_door os _)) ?_
  intro W base args ds gs before hval0 hW _ _ hL _
  have hval : ∀ (j : Nat) t v, Tryd.f6.params[j]? = some t → args[j]? = some v → Value.okWide Tryd.prog W .any base t v := hval0
  have hW' := hW
  obtain ⟨p, q, hA0, hV, rfl, hfz, hnd⟩ := hW
  have hA : DataW.TrodAll enc Tryd.prog W 0 (fun _ => true) true Tryd.f6.params.toList args.toList ds p := hA0
  rw [Tryd.params6] at hA hval
  obtain ⟨v0, vs0, d0, ds0, p0, q0, hargs, rfl, rfl, h0, r0⟩ := trodAll_cons hA
  obtain ⟨rfl, rfl, rfl⟩ := trodAll_nil r0
  obtain rfl : args = #[v0] := by cases args; simp_all
  obtain ⟨rfl, rfl⟩ := trodVars_none hV
  have k0 := h0
  have lt0 : ∀ x ∈ p0, x.block < W.heap.size := by obtain ⟨m, hm⟩ := k0; exact DataW.trod_lt m _ _ _ hm
  obtain ⟨w0, rfl⟩ := okWide_string Tryd.underlying9 (hval 0 9 v0 rfl rfl)
  obtain ⟨s0, e0, o0⟩ := Opn.arg opn_9 _ (fun _ => rfl) rfl h0
  clear hA0 hval0
  have key := (l41_BlockParse_spec (blockParse_plain s0  o0)).2 W (cellsF W) _ (fun b o u q => ⟨cell_lt q, q⟩) (blockParse_glob hL) (rels_cons e0 (rels_nil _))
  refine key.mono ?_
  rintro e W' ⟨u, rfl, bel, hu⟩
  have hu' := inv_bool hu
  subst hu'
  exact ⟨_, rfl, _, _, _, [], _, [], hW', trodAll_mk1 (shut_bool Tryd.underlying4 _), (trodAll_cons_mk (Below.trod laidOut_ok (by kernel_rfl) (of_decide_eq_true (by kernel_rfl)) k0 bel.below lt0) trodAll_mk0), rfl, bel.below.frame _, fun h => by cases h⟩

theorem blockParse_holds : Rows.BlockParseSaid :=
  OpenClaim.holds_of_wide 6 Tryd.f6 rfl rfl rfl rfl rfl rfl rfl ⟨rfl, rfl, rfl, rfl, rfl⟩ rfl rfl rfl rfl rfl (by kernel_rfl) Tryd.func6 (by kernel_rfl)
    (of_decide_eq_true (by kernel_rfl)) (by unfold Func.isWrapper; first | (rw [if_pos (by decide +kernel)]; kernel_rfl) | (rw [if_neg (by decide +kernel)]; exact ⟨rfl, rfl⟩))
    (fun os started H enc _ => blockParse_lifted os started H enc)

theorem blockParse_card : Rows.BlockParseCardSaid :=
  Claim7.holds_tied_plain_at .later [] [.data, .data, .data, .data, .sentinel, .sentinel, .pinned] true (true, "f0fb65ec8e847660f557fdf4d8ed53d6f835d381835d257dc2d2ee91b94493e6") true
    blockParse_holds (fun _ h => by cases h) (by kernel_rfl) (fun _ h => by cases h) blockParse_row_tie rfl ⟨rfl, rfl⟩ (by kernel_rfl) rfl
    (fun f fn hf hfn => by
      obtain rfl : f = 6 := Option.some.inj ((show Tryd.prog.funcNamed "swarf/swarflaw41.BlockParse" = some 6 by kernel_rfl).symm.trans hf) |>.symm
      obtain rfl : fn = Tryd.f6 := (Option.some.inj (Tryd.func6.symm.trans hfn)).symm
      exact ⟨by kernel_rfl, fun j t ht => by
        rw [Tryd.params6] at ht
        have hm : t ∈ [9] := by simpa using Array.mem_of_getElem? ht
        have hall : ([9].all fun u => !Tryd.prog.wantsStandIn u) = true := by kernel_rfl
        exact (show Tryd.prog.wantsStandIn t = false by simpa using List.all_eq_true.1 hall t hm)⟩)
    (by kernel_rfl)
#print axioms blockParse_card
end Go.Proofs.YtijihbegfmkceaaDoor
