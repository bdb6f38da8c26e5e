/-
 For every input the Go function ToolParse returns true and leaves its arguments as they were; conditions: those of the given statement alone.
-/
import Derived.Test.YthljcnchaopncaaGreatDoorRTlP
import Derived.Test.YthljcnchaopncaaGreatDoorMLToolParse
import Derived.Test.YthljcnchaopncaaGreatDoorGp
import Derived.Test.YthljcnchaopncaaGreatDoorRows
import Derived.Test.YthljcnchaopncaaGreatDoorGm
import Derived.Test.YthljcnchaopncaaGreatDoorLkn
import Derived.Test.YthljcnchaopncaaGreatDoorTie
import Derived.Test.YthljcnchaopncaaGreatDoorCards
import Derived.ProofKit
import Derived.LaidMore
import Derived.OpenShut
import Derived.Stop.Joined
import Derived.SevenTiedAt
import Derived.Lay
import Derived.MakeChecks
namespace Go.Proofs.YthljcnchaopncaaGreatDoor
open Go.ChangeShapes Go.WideShapes Go.ChangeAt Go.RowKit Go.Deep

def laidToolParse : List (String × DataW Unit) := [("math/bits.deBruijn32tab", Rows.laid_math_bits_deBruijn32tab), ("math/bits.deBruijn64tab", Rows.laid_math_bits_deBruijn64tab), ("internal/strconv.uint64pow10", Rows.laid_internal_strconv_uint64pow10), ("unicode/utf8.acceptRanges", Rows.laid_unicode_utf8_acceptRanges), ("strconv.ErrRange", Rows.laid_strconv_ErrRange), ("strconv.ErrSyntax", Rows.laid_strconv_ErrSyntax), ("swarf/tool.names", Rows.laid_swarf_tool_names), ("unicode/utf8.first", Rows.laid_unicode_utf8_first)]
theorem toolParse_glob {W : World} (h : laidMetH Tryz.prog laidToolParse W) (hs : W.ShapedOpen Tryz.prog) : GlobOk W (cellsF W) := by
 rw [MakeChecks.laidMetH_plain _ _ _ (by kernel_rfl)] at h
 obtain ⟨ps, hps, _, _⟩ := h
 obtain ⟨_, _, _, _, _, _, _, _, _, _, hps, _⟩ := hps
 obtain ⟨_, _, _, _, _, _, _, _, _, _, hps, _⟩ := hps
 obtain ⟨g6, t6, cs6, f6, p6, q6, hg6, ht6, hv6, hd6, hps, _⟩ := hps
 have e0_6 : Tryz.prog.globalNamed "internal/strconv.uint64pow10" = some 6 := by kernel_rfl
 have e1_6 : (Tryz.prog.globals[(6 : Nat)]?).map (·.type) = some 186 := by kernel_rfl
 obtain rfl := Option.some.inj (e0_6.symm.trans hg6)
 obtain rfl := Option.some.inj (e1_6.symm.trans ht6)
 have hz6 := glob_tab (ns := [1, 10, 100, 1000, 10000, 100000, 1000000, 10000000, 100000000, 1000000000, 10000000000, 100000000000, 1000000000000, 10000000000000, 100000000000000, 1000000000000000, 10000000000000000, 100000000000000000, 1000000000000000000, 10000000000000000000]) (k := .u64) (show Tryz.prog.underlying 186 = some (.array 20 104) by kernel_rfl) (show Tryz.prog.underlying 104 = some (.int .u64) by kernel_rfl) (by kernel_rfl) (by kernel_rfl) rfl hd6
 obtain ⟨tt6, ff6, hr6⟩ := var_row e0_6 hv6
 obtain ⟨_, _, _, _, _, _, _, _, _, _, hps, _⟩ := hps
 obtain ⟨g5, t5, cs5, f5, p5, q5, hg5, ht5, hv5, hd5, hps, _⟩ := hps
 have e0_5 : Tryz.prog.globalNamed "strconv.ErrRange" = some 5 := by kernel_rfl
 have e1_5 : (Tryz.prog.globals[(5 : Nat)]?).map (·.type) = some 59 := by kernel_rfl
 obtain rfl := Option.some.inj (e0_5.symm.trans hg5)
 obtain rfl := Option.some.inj (e1_5.symm.trans ht5)
 obtain ⟨ue5, ce5, ve5⟩ := glob_err (show ifaceT Tryz.prog 59 = true by kernel_rfl) hd5
 have hcell5 := var_cell e0_5 hv5 ce5
 obtain ⟨g4, t4, cs4, f4, p4, q4, hg4, ht4, hv4, hd4, hps, _⟩ := hps
 have e0_4 : Tryz.prog.globalNamed "strconv.ErrSyntax" = some 4 := by kernel_rfl
 have e1_4 : (Tryz.prog.globals[(4 : Nat)]?).map (·.type) = some 59 := by kernel_rfl
 obtain rfl := Option.some.inj (e0_4.symm.trans hg4)
 obtain rfl := Option.some.inj (e1_4.symm.trans ht4)
 obtain ⟨ue4, ce4, ve4⟩ := glob_err (show ifaceT Tryz.prog 59 = true by kernel_rfl) hd4
 have hcell4 := var_cell e0_4 hv4 ce4
 obtain ⟨g0, t0, cs0, f0, p0, q0, hg0, ht0, hv0, hd0, hps, _⟩ := hps
 have e0_0 : Tryz.prog.globalNamed "swarf/tool.names" = some 0 := by kernel_rfl
 have e1_0 : (Tryz.prog.globals[(0 : Nat)]?).map (·.type) = some 65 := by kernel_rfl
 obtain rfl := Option.some.inj (e0_0.symm.trans hg0)
 obtain rfl := Option.some.inj (e1_0.symm.trans ht0)
 obtain ⟨bm0, es0, ck0, cm0, rm0⟩ := glob_map (kvs := [(1, [109, 105, 108, 108]), (2, [100, 114, 105, 108, 108]), (3, [99, 104, 97, 109, 102, 101, 114]), (4, [112, 114, 111, 98, 101])]) (show Tryz.prog.underlying 65 = some (.map 3 9) by kernel_rfl) (show Tryz.prog.underlying 3 = some (.int .i64) by kernel_rfl) (show Tryz.prog.underlying 9 = some .string by kernel_rfl) hd0
 have hcell0 := var_cell e0_0 hv0 cm0
 obtain ⟨_, _, _, _, _, _, _, _, _, _, hps, _⟩ := hps
 refine ⟨fun b cs hb => ?_, fun b k zs hb => ?_, fun b hb => ?_, fun b hb => ?_, fun b kvs hb => ?_⟩
 ·cases hb
 ·unfold tabT at hb
  split at hb
  ·injection hb with hb
   injection hb with h1 h2
   subst h1 h2
   exact ⟨tt6, ff6, by rw [hr6, ← hz6]⟩
  ·cases hb
 ·unfold errT at hb
  split at hb
  ·exact ⟨_, hcell5, ve5⟩
  ·exact ⟨_, hcell4, ve4⟩
  ·cases hb
 ·unfold intT at hb
  split at hb
  ·exact laysM154.s1_3 W hs
  ·cases hb
 ·unfold mapG at hb
  split at hb
  ·injection hb with hb
   subst hb
   exact ⟨_, _, _, hcell0, rm0⟩
  ·cases hb
set_option maxRecDepth 100000 in
theorem toolParse_door (os : Os) (args : Array Value) : laidMetH Tryz.prog laidToolParse ((laidMaps Tryz.prog os 0 #[⟨.int .i64 1, .string ⟨#[109, 105, 108, 108]⟩, 0⟩, ⟨.int .i64 2, .string ⟨#[100, 114, 105, 108, 108]⟩, 1⟩, ⟨.int .i64 3, .string ⟨#[99, 104, 97, 109, 102, 101, 114]⟩, 2⟩, ⟨.int .i64 4, .string ⟨#[112, 114, 111, 98, 101]⟩, 3⟩] laidToolParse "swarf/tool.names").forCall (fun _ _ => 0) ⟨#[], args, []⟩).memory := by
 rw [MakeChecks.laidMetH_plain _ _ _ (by kernel_rfl)]
 exact mapDoor args [0, (World.holding Tryz.prog os ⟨#[], #[], []⟩).heap.size] 8 (by kernel_rfl) (by kernel_rfl) (by kernel_rfl) (by kernel_rfl) (by kernel_rfl) (by kernel_rfl)

set_option maxRecDepth 100000 in
theorem toolParse_lifted (os : Os) (started : os.Started) (H : Type) (enc : TypeId × Value → H) :
  ReturnsInHanded {} Tryz.checked os 4 .any (fun w args => (Rows.toolParseSpec.pre enc Tryz.prog Tryz.f4 [] false w args ∧ laidMetH Tryz.prog laidToolParse w) ∧ sizedMet enc Tryz.prog Tryz.f4 (OpenSpec.ofChange Rows.toolParseSpec) false w args)
   (Rows.toolParseSpec.post enc Tryz.prog Tryz.f4 false true false false) := by
 refine handed_andS (C := Tryz.checked) (X := fun w _ => laidMetH Tryz.prog laidToolParse w) (fun _ _ _ hh h => h.of_heap hh) (show ownKnob Tryz.prog.godebug = none by kernel_rfl) started (by kernel_rfl) Tryz.func4
  (ChangeSpec.witness_shaped (enc := enc) (C := Tryz.checked) (os := os) (X := fun w _ => laidMetH Tryz.prog laidToolParse w) false (laidMaps Tryz.prog os 0 #[⟨.int .i64 1, .string ⟨#[109, 105, 108, 108]⟩, 0⟩, ⟨.int .i64 2, .string ⟨#[100, 114, 105, 108, 108]⟩, 1⟩, ⟨.int .i64 3, .string ⟨#[99, 104, 97, 109, 102, 101, 114]⟩, 2⟩, ⟨.int .i64 4, .string ⟨#[112, 114, 111, 98, 101]⟩, 3⟩] laidToolParse "swarf/tool.names") #[.string ⟨#[]⟩] 8 (laidMaps_os _ _ _ _ _ _) (World.shaped_of_ZipB (by kernel_rfl) (by kernel_rfl)) (by kernel_rfl) (by kernel_rfl) (by kernel_rfl) (toolParse_door os _)) ?_
 intro W base args ds gs before hval0 hW hL hS
 have hval : ∀ (j : Nat) t v, Tryz.f4.params[j]? = some t → args[j]? = some v → Value.okWide Tryz.prog W .any base t v := hval0
 have hW' := hW
 obtain ⟨p, q, hA0, hV, rfl, hfz, hnd⟩ := hW
 have hA : DataW.TrodAll enc Tryz.prog W 0 (fun _ => true) true Tryz.f4.params.toList args.toList ds p := hA0
 rw [Tryz.params4] at hA hval
 obtain ⟨v0, vs0, d0, ds0, p0, q0, hargs, rfl, rfl, h0, r0⟩ := trodAll_cons hA
 obtain ⟨rfl, rfl, rfl⟩ := trodAll_nil r0
 obtain rfl : args = #[v0] := by cases args; simp_all
 obtain ⟨rfl, rfl⟩ := trodVars_none hV
 have k0 := h0
 have lt0 : ∀ x ∈ p0, x.block < W.heap.size := by obtain ⟨m, hm⟩ := k0; exact DataW.trod_lt m _ _ _ hm
 obtain ⟨w0, rfl⟩ := okWide_string Tryz.underlying9 (hval 0 9 v0 rfl rfl)
 obtain ⟨s0, e0, o0⟩ := Opn.arg opn_9 _ (fun _ => rfl) rfl h0
 clear hA0 hval0
 have key := (l27_ToolParse_spec (toolParse_plain s0  o0)).2 W (cellsF W) _ (fun b o u q => ⟨cell_lt q, q⟩) (toolParse_glob hL hS) (rels_cons e0 (rels_nil _))
 refine key.mono ?_
 rintro e W' ⟨u, rfl, bel, hu⟩
 have hu' := inv_bool hu
 subst hu'
 exact ⟨_, rfl, _, _, _, [], _, [], hW', trodAll_mk1 (shut_bool Tryz.underlying4 _), (trodAll_cons_mk (Below.trod laidOut_ok (by kernel_rfl) (of_decide_eq_true (by kernel_rfl)) k0 bel.below lt0) trodAll_mk0), rfl, bel.below.frame _, fun h => by cases h⟩

theorem toolParse_holds : Rows.ToolParseSaid :=
 OpenClaim.holds_of_wide 4 Tryz.f4 rfl rfl rfl rfl rfl rfl rfl ⟨rfl, rfl, rfl, rfl, rfl⟩ rfl rfl rfl rfl rfl (by kernel_rfl) Tryz.func4 (by kernel_rfl)
  (of_decide_eq_true (by kernel_rfl)) (by unfold Func.isWrapper; first | (rw [if_pos (by decide +kernel)]; kernel_rfl) | (rw [if_neg (by decide +kernel)]; exact ⟨rfl, rfl⟩))
  (fun os started H enc _ => toolParse_lifted os started H enc)

theorem toolParse_card : Rows.ToolParseCardSaid :=
 Claim7.holds_tied_plain_at .later [] [.data, .data, .data, .data, .sentinel, .sentinel, .mapped, .pinned] true (true, "5919db19b4f40cd22313c8cc5636f27ba013ea4e1939815e30f5de270ca1f4d8") true
  toolParse_holds (fun _ h => by cases h) (by kernel_rfl) (fun _ h => by cases h) toolParse_row_tie rfl ⟨rfl, rfl⟩ (by kernel_rfl) rfl
  (fun f fn hf hfn => by
   obtain rfl : f = 4 := Option.some.inj ((show Tryz.prog.funcNamed "swarf/swarflaw27.ToolParse" = some 4 by kernel_rfl).symm.trans hf) |>.symm
   obtain rfl : fn = Tryz.f4 := (Option.some.inj (Tryz.func4.symm.trans hfn)).symm
   exact ⟨by kernel_rfl, fun j t ht => by
    rw [Tryz.params4] at ht
    have hm : t ∈ [9] := by simpa using Array.mem_of_getElem? ht
    have hall : ([9].all fun u => !Tryz.prog.wantsStandIn u) = true := by kernel_rfl
    exact (show Tryz.prog.wantsStandIn t = false by simpa using List.all_eq_true.1 hall t hm)⟩)
  (by kernel_rfl)
#print axioms toolParse_card
end Go.Proofs.YthljcnchaopncaaGreatDoor
