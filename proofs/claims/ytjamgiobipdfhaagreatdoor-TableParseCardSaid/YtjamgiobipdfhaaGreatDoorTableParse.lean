/-
 For every input the Go function TableParse returns true and leaves its arguments as they were; conditions: those of the given statement alone.
-/
import Derived.Test.YtjamgiobipdfhaaGreatDoorRTParse
import Derived.Test.YtjamgiobipdfhaaGreatDoorGp
import Derived.Test.YtjamgiobipdfhaaGreatDoorRows
import Derived.Test.YtjamgiobipdfhaaGreatDoorTie
import Derived.Test.YtjamgiobipdfhaaGreatDoorCards
import Derived.ProofKit
import Derived.LaidMore
import Derived.OpenShut
import Derived.Stop.Joined
import Derived.SevenTiedAt
import Derived.Lay
import Derived.MakeChecks
namespace Go.Proofs.YtjamgiobipdfhaaGreatDoor
open Go.ChangeShapes Go.WideShapes Go.ChangeAt Go.RowKit Go.Deep

def laidTableParse : List (String × DataW Unit) := [("math/bits.deBruijn32tab", Rows.laid_math_bits_deBruijn32tab), ("math/bits.deBruijn64tab", Rows.laid_math_bits_deBruijn64tab), ("internal/strconv.uint64pow10", Rows.laid_internal_strconv_uint64pow10), ("unicode/utf8.acceptRanges", Rows.laid_unicode_utf8_acceptRanges), ("strconv.ErrRange", Rows.laid_strconv_ErrRange), ("strconv.ErrSyntax", Rows.laid_strconv_ErrSyntax), ("unicode/utf8.first", Rows.laid_unicode_utf8_first)]
theorem tableParse_glob {W : World} (h : laidMetH Tryz.prog laidTableParse W) : GlobOk W (cellsF W) := by
 rw [MakeChecks.laidMetH_plain _ _ _ (by kernel_rfl)] at h
 obtain ⟨ps, hps, _, _⟩ := h
 obtain ⟨_, _, _, _, _, _, _, _, _, _, hps, _⟩ := hps
 obtain ⟨_, _, _, _, _, _, _, _, _, _, hps, _⟩ := hps
 obtain ⟨g0, t0, cs0, f0, p0, q0, hg0, ht0, hv0, hd0, hps, _⟩ := hps
 have e0_0 : Tryz.prog.globalNamed "internal/strconv.uint64pow10" = some 0 := by kernel_rfl
 have e1_0 : (Tryz.prog.globals[(0 : Nat)]?).map (·.type) = some 154 := by kernel_rfl
 obtain rfl := Option.some.inj (e0_0.symm.trans hg0)
 obtain rfl := Option.some.inj (e1_0.symm.trans ht0)
 have hz0 := glob_tab (ns := [1, 10, 100, 1000, 10000, 100000, 1000000, 10000000, 100000000, 1000000000, 10000000000, 100000000000, 1000000000000, 10000000000000, 100000000000000, 1000000000000000, 10000000000000000, 100000000000000000, 1000000000000000000, 10000000000000000000]) (k := .u64) (show Tryz.prog.underlying 154 = some (.array 20 89) by kernel_rfl) (show Tryz.prog.underlying 89 = some (.int .u64) by kernel_rfl) (by kernel_rfl) (by kernel_rfl) rfl hd0
 obtain ⟨tt0, ff0, hr0⟩ := var_row e0_0 hv0
 obtain ⟨_, _, _, _, _, _, _, _, _, _, hps, _⟩ := hps
 obtain ⟨g3, t3, cs3, f3, p3, q3, hg3, ht3, hv3, hd3, hps, _⟩ := hps
 have e0_3 : Tryz.prog.globalNamed "strconv.ErrRange" = some 3 := by kernel_rfl
 have e1_3 : (Tryz.prog.globals[(3 : Nat)]?).map (·.type) = some 57 := by kernel_rfl
 obtain rfl := Option.some.inj (e0_3.symm.trans hg3)
 obtain rfl := Option.some.inj (e1_3.symm.trans ht3)
 obtain ⟨ue3, ce3, ve3⟩ := glob_err (show ifaceT Tryz.prog 57 = true by kernel_rfl) hd3
 have hcell3 := var_cell e0_3 hv3 ce3
 obtain ⟨g2, t2, cs2, f2, p2, q2, hg2, ht2, hv2, hd2, hps, _⟩ := hps
 have e0_2 : Tryz.prog.globalNamed "strconv.ErrSyntax" = some 2 := by kernel_rfl
 have e1_2 : (Tryz.prog.globals[(2 : Nat)]?).map (·.type) = some 57 := by kernel_rfl
 obtain rfl := Option.some.inj (e0_2.symm.trans hg2)
 obtain rfl := Option.some.inj (e1_2.symm.trans ht2)
 obtain ⟨ue2, ce2, ve2⟩ := glob_err (show ifaceT Tryz.prog 57 = true by kernel_rfl) hd2
 have hcell2 := var_cell e0_2 hv2 ce2
 obtain ⟨_, _, _, _, _, _, _, _, _, _, hps, _⟩ := hps
 refine ⟨λb cs hb => ?_, λb k zs hb => ?_, λb hb => ?_⟩
 ·cases hb
 ·unfold tabT at hb
  split at hb
  ·injection hb with hb
   injection hb with h1 h2
   subst h1 h2
   exact ⟨tt0, ff0, by rw [hr0, ← hz0]⟩
  ·cases hb
 ·unfold errT at hb
  split at hb
  ·exact ⟨_, hcell3, ve3⟩
  ·exact ⟨_, hcell2, ve2⟩
  ·cases hb
theorem tableParse_door (os : Os) (args : Array Value) : laidMetH Tryz.prog laidTableParse ((World.laidAll Tryz.prog os laidTableParse).forCall (λ_ _ => 0) ⟨#[], args, []⟩).memory := by
 rw [MakeChecks.laidMetH_plain _ _ _ (by kernel_rfl)]
 exact laidMet_laidAll _ (by kernel_rfl) (by kernel_rfl)

set_option maxRecDepth 100000 in
theorem tableParse_lifted (os : Os) (started : os.Started) (H : Type) (enc : TypeId × Value → H) :
  ReturnsInHanded {} Tryz.checked os 4 .any (λw args => (Rows.tableParseSpec.pre enc Tryz.prog Tryz.f4 [] false w args ∧ laidMetH Tryz.prog laidTableParse w) ∧ sizedMet enc Tryz.prog Tryz.f4 (OpenSpec.ofChange Rows.tableParseSpec) false w args)
   (Rows.tableParseSpec.post enc Tryz.prog Tryz.f4 false true false false) := by
 refine returnsInHanded_of_change_and (C := Tryz.checked) (X := λw _ => laidMetH Tryz.prog laidTableParse w) (λ_ _ _ hh h => h.of_heap hh) (show ownKnob Tryz.prog.godebug = none by kernel_rfl) started (by kernel_rfl) Tryz.func4
  (ChangeSpec.witness_shaped (enc := enc) (C := Tryz.checked) (os := os) (X := λw _ => laidMetH Tryz.prog laidTableParse w) false (World.laidAll Tryz.prog os laidTableParse) #[.string ⟨#[]⟩] 8 (World.laidAll_os _ _ _) (World.shaped_of_ZipB (by kernel_rfl) (by kernel_rfl)) (by kernel_rfl) (by kernel_rfl) (by kernel_rfl) (tableParse_door os _)) ?_
 intro W base args ds gs before hval0 hW _ _ hL _
 have hval : ∀ (j : Nat) t v, Tryz.f4.params[j]? = some t → args[j]? = some v → Value.okWide Tryz.prog W .any base t v := hval0
 have hW' := hW
 obtain ⟨p, q, hA0, hV, rfl, hfz, hnd⟩ := hW
 have hA : DataW.TrodAll enc Tryz.prog W 0 (λ_ => true) true Tryz.f4.params.toList args.toList ds p := hA0
 rw [Tryz.params4] at hA hval
 obtain ⟨v0, vs0, d0, ds0, p0, q0, hargs, rfl, rfl, h0, r0⟩ := trodAll_cons hA
 obtain ⟨rfl, rfl, rfl⟩ := trodAll_nil r0
 obtain rfl : args = #[v0] := by cases args; simp_all
 obtain ⟨rfl, rfl⟩ := trodVars_none hV
 have k0 := h0
 have lt0 : ∀ x ∈ p0, x.block < W.heap.size := by obtain ⟨m, hm⟩ := k0; exact DataW.trod_lt m _ _ _ hm
 obtain ⟨w0, rfl⟩ := okWide_string Tryz.underlying9 (hval 0 9 v0 rfl rfl)
 obtain ⟨s0, e0, o0⟩ := Opn.arg opn_9 _ (λ_ => rfl) rfl h0
 clear hA0 hval0
 have key := (l45_TableParse_spec (tableParse_plain s0  o0)).2 W (cellsF W) _ (λb o u q => ⟨cell_lt q, q⟩) (tableParse_glob hL) (rels_cons e0 (rels_nil _))
 refine key.mono ?_
 rintro e W' ⟨u, rfl, bel, hu⟩
 have hu' := inv_bool hu
 subst hu'
 exact ⟨_, rfl, _, _, _, [], _, [], hW', trodAll_mk1 (shut_bool Tryz.underlying4 _), (trodAll_cons_mk (Below.trod laidOut_ok (by kernel_rfl) (of_decide_eq_true (by kernel_rfl)) k0 bel.below lt0) trodAll_mk0), rfl, bel.below.frame _, λh => by cases h⟩

theorem tableParse_holds : Rows.TableParseSaid :=
 OpenClaim.holds_of_wide 4 Tryz.f4 rfl rfl rfl rfl rfl rfl rfl ⟨rfl, rfl, rfl, rfl, rfl⟩ rfl rfl rfl rfl rfl (by kernel_rfl) Tryz.func4 (by kernel_rfl)
  (of_decide_eq_true (by kernel_rfl)) (by unfold Func.isWrapper; first | (rw [if_pos (by decide +kernel)]; kernel_rfl) | (rw [if_neg (by decide +kernel)]; exact ⟨rfl, rfl⟩))
  (λos started H enc _ => tableParse_lifted os started H enc)

theorem tableParse_card : Rows.TableParseCardSaid :=
 Claim7.holds_tied_plain_at .later [] [.data, .data, .data, .data, .sentinel, .sentinel, .pinned] true (true, "14ec94059d955295b1caf03428469f14b3750d8f8fed69f656b719af4125ebbd") true
  tableParse_holds (λ_ h => by cases h) (by kernel_rfl) (λ_ h => by cases h) tableParse_row_tie rfl ⟨rfl, rfl⟩ (by kernel_rfl) rfl
  (λf fn hf hfn => by
   obtain rfl : f = 4 := Option.some.inj ((show Tryz.prog.funcNamed "swarf/swarflaw45.TableParse" = some 4 by kernel_rfl).symm.trans hf) |>.symm
   obtain rfl : fn = Tryz.f4 := (Option.some.inj (Tryz.func4.symm.trans hfn)).symm
   exact ⟨by kernel_rfl, λj t ht => by
    rw [Tryz.params4] at ht
    have hm : t ∈ [9] := by simpa using Array.mem_of_getElem? ht
    have hall : ([9].all λu => !Tryz.prog.wantsStandIn u) = true := by kernel_rfl
    exact (show Tryz.prog.wantsStandIn t = false by simpa using List.all_eq_true.1 hall t hm)⟩)
  (by kernel_rfl)
#print axioms tableParse_card
end Go.Proofs.YtjamgiobipdfhaaGreatDoor
