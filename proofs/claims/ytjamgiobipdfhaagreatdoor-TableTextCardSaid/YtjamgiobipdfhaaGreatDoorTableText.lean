/-
 For every input the Go function TableText returns true and leaves its arguments as they were; conditions: those of the given statement alone.
-/
import Derived.Test.YtjamgiobipdfhaaGreatDoorRTText
import Derived.Test.YtjamgiobipdfhaaGreatDoorGp
import Derived.Test.YtjamgiobipdfhaaGreatDoorRows
import Derived.Test.YtjamgiobipdfhaaGreatDoorTie
import Derived.Test.YtjamgiobipdfhaaGreatDoorCards
import Derived.ProofKit
import Derived.LaidMore
import Derived.OpenShut
import Derived.Stop.Joined
import Derived.SevenTiedAt
import Derived.Lay
import Derived.MakeChecks
namespace Go.Proofs.YtjamgiobipdfhaaGreatDoor
open Go.ChangeShapes Go.WideShapes Go.ChangeAt Go.RowKit Go.Deep

def laidTableText : List (String × DataW Unit) := [("math/bits.deBruijn32tab", Rows.laid_math_bits_deBruijn32tab), ("math/bits.deBruijn64tab", Rows.laid_math_bits_deBruijn64tab), ("internal/strconv.uint64pow10", Rows.laid_internal_strconv_uint64pow10), ("unicode/utf8.acceptRanges", Rows.laid_unicode_utf8_acceptRanges), ("strconv.ErrRange", Rows.laid_strconv_ErrRange), ("strconv.ErrSyntax", Rows.laid_strconv_ErrSyntax), ("unicode/utf8.first", Rows.laid_unicode_utf8_first)]
theorem tableText_glob {W : World} (h : laidMetH Tryz.prog laidTableText W) : GlobOk W (cellsF W) := by
 rw [MakeChecks.laidMetH_plain _ _ _ (by kernel_rfl)] at h
 obtain ⟨ps, hps, _, _⟩ := h
 obtain ⟨_, _, _, _, _, _, _, _, _, _, hps, _⟩ := hps
 obtain ⟨_, _, _, _, _, _, _, _, _, _, hps, _⟩ := hps
 obtain ⟨g0, t0, cs0, f0, p0, q0, hg0, ht0, hv0, hd0, hps, _⟩ := hps
 have e0_0 : Tryz.prog.globalNamed "internal/strconv.uint64pow10" = some 0 := by kernel_rfl
 have e1_0 : (Tryz.prog.globals[(0 : Nat)]?).map (·.type) = some 154 := by kernel_rfl
 obtain rfl := Option.some.inj (e0_0.symm.trans hg0)
 obtain rfl := Option.some.inj (e1_0.symm.trans ht0)
 have hz0 := glob_tab (ns := [1, 10, 100, 1000, 10000, 100000, 1000000, 10000000, 100000000, 1000000000, 10000000000, 100000000000, 1000000000000, 10000000000000, 100000000000000, 1000000000000000, 10000000000000000, 100000000000000000, 1000000000000000000, 10000000000000000000]) (k := .u64) (show Tryz.prog.underlying 154 = some (.array 20 89) by kernel_rfl) (show Tryz.prog.underlying 89 = some (.int .u64) by kernel_rfl) (by kernel_rfl) (by kernel_rfl) rfl hd0
 obtain ⟨tt0, ff0, hr0⟩ := var_row e0_0 hv0
 obtain ⟨_, _, _, _, _, _, _, _, _, _, hps, _⟩ := hps
 obtain ⟨g3, t3, cs3, f3, p3, q3, hg3, ht3, hv3, hd3, hps, _⟩ := hps
 have e0_3 : Tryz.prog.globalNamed "strconv.ErrRange" = some 3 := by kernel_rfl
 have e1_3 : (Tryz.prog.globals[(3 : Nat)]?).map (·.type) = some 57 := by kernel_rfl
 obtain rfl := Option.some.inj (e0_3.symm.trans hg3)
 obtain rfl := Option.some.inj (e1_3.symm.trans ht3)
 obtain ⟨ue3, ce3, ve3⟩ := glob_err (show ifaceT Tryz.prog 57 = true by kernel_rfl) hd3
 have hcell3 := var_cell e0_3 hv3 ce3
 obtain ⟨g2, t2, cs2, f2, p2, q2, hg2, ht2, hv2, hd2, hps, _⟩ := hps
 have e0_2 : Tryz.prog.globalNamed "strconv.ErrSyntax" = some 2 := by kernel_rfl
 have e1_2 : (Tryz.prog.globals[(2 : Nat)]?).map (·.type) = some 57 := by kernel_rfl
 obtain rfl := Option.some.inj (e0_2.symm.trans hg2)
 obtain rfl := Option.some.inj (e1_2.symm.trans ht2)
 obtain ⟨ue2, ce2, ve2⟩ := glob_err (show ifaceT Tryz.prog 57 = true by kernel_rfl) hd2
 have hcell2 := var_cell e0_2 hv2 ce2
 obtain ⟨_, _, _, _, _, _, _, _, _, _, hps, _⟩ := hps
 refine ⟨fun b cs hb => ?_, fun b k zs hb => ?_, fun b hb => ?_⟩
 ·cases hb
 ·unfold tabT at hb
  split at hb
  ·injection hb with hb
   injection hb with h1 h2
   subst h1 h2
   exact ⟨tt0, ff0, by rw [hr0, ← hz0]⟩
  ·cases hb
 ·unfold errT at hb
  split at hb
  ·exact ⟨_, hcell3, ve3⟩
  ·exact ⟨_, hcell2, ve2⟩
  ·cases hb
theorem tableText_door (os : Os) (args : Array Value) : laidMetH Tryz.prog laidTableText ((World.laidAll Tryz.prog os laidTableText).forCall (fun _ _ => 0) ⟨#[], args, []⟩).memory := by
 rw [MakeChecks.laidMetH_plain _ _ _ (by kernel_rfl)]
 exact laidMet_laidAll _ (by kernel_rfl) (by kernel_rfl)

set_option maxRecDepth 100000 in
theorem tableText_lifted (os : Os) (started : os.Started) (H : Type) (enc : TypeId × Value → H) :
  ReturnsInHanded {} Tryz.checked os 3 .any (fun w args => (Rows.tableTextSpec.pre enc Tryz.prog Tryz.f3 [] false w args ∧ laidMetH Tryz.prog laidTableText w) ∧ sizedMet enc Tryz.prog Tryz.f3 (OpenSpec.ofChange Rows.tableTextSpec) false w args)
   (Rows.tableTextSpec.post enc Tryz.prog Tryz.f3 false true false false) := by
 refine returnsInHanded_of_change_and (C := Tryz.checked) (X := fun w _ => laidMetH Tryz.prog laidTableText w) (fun _ _ _ hh h => h.of_heap hh) (show ownKnob Tryz.prog.godebug = none by kernel_rfl) started (by kernel_rfl) Tryz.func3
  (ChangeSpec.witness_shaped (enc := enc) (C := Tryz.checked) (os := os) (X := fun w _ => laidMetH Tryz.prog laidTableText w) false (World.laidAll Tryz.prog os laidTableText) #[.agg #[.int .i64 0, .int .i64 0, .int .i64 0, .int .i64 0, .int .i64 0, .int .i64 0, .int .i64 0, .int .i64 0, .int .i64 0, .int .i64 0, .int .i64 0, .int .i64 0, .int .i64 0, .int .i64 0, .int .i64 0, .int .i64 0, .int .i64 0, .int .i64 0, .slice none 0 0]] 8 (World.laidAll_os _ _ _) (World.shaped_of_ZipB (by kernel_rfl) (by kernel_rfl)) (by kernel_rfl) (by kernel_rfl) (by kernel_rfl) (tableText_door os _)) ?_
 intro W base args ds gs before hval0 hW _ _ hL _
 have hval : ∀ (j : Nat) t v, Tryz.f3.params[j]? = some t → args[j]? = some v → Value.okWide Tryz.prog W .any base t v := hval0
 have hW' := hW
 obtain ⟨p, q, hA0, hV, rfl, hfz, hnd⟩ := hW
 have hA : DataW.TrodAll enc Tryz.prog W 0 (fun _ => true) true Tryz.f3.params.toList args.toList ds p := hA0
 rw [Tryz.params3] at hA hval
 obtain ⟨v0, vs0, d0, ds0, p0, q0, hargs, rfl, rfl, h0, r0⟩ := trodAll_cons hA
 obtain ⟨rfl, rfl, rfl⟩ := trodAll_nil r0
 obtain rfl : args = #[v0] := by cases args; simp_all
 obtain ⟨rfl, rfl⟩ := trodVars_none hV
 have k0 := h0
 have lt0 : ∀ x ∈ p0, x.block < W.heap.size := by obtain ⟨m, hm⟩ := k0; exact DataW.trod_lt m _ _ _ hm
 obtain ⟨c0, rfl, _⟩ := okWide_struct Tryz.underlying27 (hval 0 27 v0 rfl rfl)
 obtain ⟨s0, e0, o0⟩ := Opn.argS opn_27 h0
 clear hA0 hval0
 have key := (l45_TableText_spec (tableText_plain s0  o0)).2 W (cellsF W) _ (fun b o u q => ⟨cell_lt q, q⟩) (tableText_glob hL) (rels_cons e0 (rels_nil _))
 refine key.mono ?_
 rintro e W' ⟨u, rfl, bel, hu⟩
 have hu' := inv_bool hu
 subst hu'
 exact ⟨_, rfl, _, _, _, [], _, [], hW', trodAll_mk1 (shut_bool Tryz.underlying4 _), (trodAll_cons_mk (Below.trod laidOut_ok (by kernel_rfl) (of_decide_eq_true (by kernel_rfl)) k0 bel.below lt0) trodAll_mk0), rfl, bel.below.frame _, fun h => by cases h⟩

theorem tableText_holds : Rows.TableTextSaid :=
 OpenClaim.holds_of_wide 3 Tryz.f3 rfl rfl rfl rfl rfl rfl rfl ⟨rfl, rfl, rfl, rfl, rfl⟩ rfl rfl rfl rfl rfl (by kernel_rfl) Tryz.func3 (by kernel_rfl)
  (of_decide_eq_true (by kernel_rfl)) (by unfold Func.isWrapper; first | (rw [if_pos (by decide +kernel)]; kernel_rfl) | (rw [if_neg (by decide +kernel)]; exact ⟨rfl, rfl⟩))
  (fun os started H enc _ => tableText_lifted os started H enc)

theorem tableText_card : Rows.TableTextCardSaid :=
 Claim7.holds_tied_plain_at .later [] [.data, .data, .data, .data, .sentinel, .sentinel, .pinned] true (true, "14ec94059d955295b1caf03428469f14b3750d8f8fed69f656b719af4125ebbd") true
  tableText_holds (fun _ h => by cases h) (by kernel_rfl) (fun _ h => by cases h) tableText_row_tie rfl ⟨rfl, rfl⟩ (by kernel_rfl) rfl
  (fun f fn hf hfn => by
   obtain rfl : f = 3 := Option.some.inj ((show Tryz.prog.funcNamed "swarf/swarflaw45.TableText" = some 3 by kernel_rfl).symm.trans hf) |>.symm
   obtain rfl : fn = Tryz.f3 := (Option.some.inj (Tryz.func3.symm.trans hfn)).symm
   exact ⟨by kernel_rfl, fun j t ht => by
    rw [Tryz.params3] at ht
    have hm : t ∈ [27] := by simpa using Array.mem_of_getElem? ht
    have hall : ([27].all fun u => !Tryz.prog.wantsStandIn u) = true := by kernel_rfl
    exact (show Tryz.prog.wantsStandIn t = false by simpa using List.all_eq_true.1 hall t hm)⟩)
  (by kernel_rfl)
#print axioms tableText_card
end Go.Proofs.YtjamgiobipdfhaaGreatDoor
