/-
 For every input the Go function PostExpand returns true and leaves its arguments as they were; conditions: those of the given statement alone.
-/
import Derived.Test.YtjgngikiglhleaaGreatDoorRExpand
import Derived.Test.YtjgngikiglhleaaGreatDoorMLPostExpand
import Derived.Test.YtjgngikiglhleaaGreatDoorGp
import Derived.Test.YtjgngikiglhleaaGreatDoorRows
import Derived.Test.YtjgngikiglhleaaGreatDoorTie
import Derived.Test.YtjgngikiglhleaaGreatDoorCards
import Derived.ProofKit
import Derived.LaidMore
import Derived.OpenShut
import Derived.Stop.Joined
import Derived.SevenTiedAt
import Derived.Lay
import Derived.MakeChecks
namespace Go.Proofs.YtjgngikiglhleaaGreatDoor
open Go.ChangeShapes Go.WideShapes Go.ChangeAt Go.RowKit Go.Deep

def laidPostExpand : List (String × DataW Unit) := [("math/bits.deBruijn32tab", Rows.laid_math_bits_deBruijn32tab), ("math/bits.deBruijn64tab", Rows.laid_math_bits_deBruijn64tab), ("internal/strconv.uint64pow10", Rows.laid_internal_strconv_uint64pow10), ("unicode/utf8.acceptRanges", Rows.laid_unicode_utf8_acceptRanges), ("swarf/post.codes", Rows.laid_swarf_post_codes), ("unicode/utf8.first", Rows.laid_unicode_utf8_first)]
theorem postExpand_glob {W : World} (h : laidMetH Tryz.prog laidPostExpand W) : GlobOk W (cellsF W) := by
 rw [MakeChecks.laidMetH_plain _ _ _ (by kernel_rfl)] at h
 obtain ⟨ps, hps, _, _⟩ := h
 obtain ⟨_, _, _, _, _, _, _, _, _, _, hps, _⟩ := hps
 obtain ⟨_, _, _, _, _, _, _, _, _, _, hps, _⟩ := hps
 obtain ⟨g1, t1, cs1, f1, p1, q1, hg1, ht1, hv1, hd1, hps, _⟩ := hps
 have e0_1 : Tryz.prog.globalNamed "internal/strconv.uint64pow10" = some 1 := by kernel_rfl
 have e1_1 : (Tryz.prog.globals[(1 : Nat)]?).map (·.type) = some 178 := by kernel_rfl
 obtain rfl := Option.some.inj (e0_1.symm.trans hg1)
 obtain rfl := Option.some.inj (e1_1.symm.trans ht1)
 have hz1 := glob_tab (ns := [1, 10, 100, 1000, 10000, 100000, 1000000, 10000000, 100000000, 1000000000, 10000000000, 100000000000, 1000000000000, 10000000000000, 100000000000000, 1000000000000000, 10000000000000000, 100000000000000000, 1000000000000000000, 10000000000000000000]) (k := .u64) (show Tryz.prog.underlying 178 = some (.array 20 125) by kernel_rfl) (show Tryz.prog.underlying 125 = some (.int .u64) by kernel_rfl) (by kernel_rfl) (by kernel_rfl) rfl hd1
 obtain ⟨tt1, ff1, hr1⟩ := var_row e0_1 hv1
 obtain ⟨_, _, _, _, _, _, _, _, _, _, hps, _⟩ := hps
 obtain ⟨g0, t0, cs0, f0, p0, q0, hg0, ht0, hv0, hd0, hps, _⟩ := hps
 have e0_0 : Tryz.prog.globalNamed "swarf/post.codes" = some 0 := by kernel_rfl
 have e1_0 : (Tryz.prog.globals[(0 : Nat)]?).map (·.type) = some 90 := by kernel_rfl
 obtain rfl := Option.some.inj (e0_0.symm.trans hg0)
 obtain rfl := Option.some.inj (e1_0.symm.trans ht0)
 have hz0 := glob_tab (ns := [0, 0, 1, 2, 3]) (k := .i64) (show Tryz.prog.underlying 90 = some (.array 5 2) by kernel_rfl) (show Tryz.prog.underlying 2 = some (.int .i64) by kernel_rfl) (by kernel_rfl) (by kernel_rfl) rfl hd0
 obtain ⟨_, _, _, _, _, _, _, _, _, _, hps, _⟩ := hps
 refine ⟨fun b cs hb => ?_, fun b k zs hb => ?_, fun b hb => ?_, fun b hb => ?_, fun b kvs hb => ?_⟩
 ·unfold glT at hb
  split at hb
  ·injection hb with hb
   subst hb
   exact glob_arr e0_0 hv0 hz0
  ·cases hb
 ·unfold tabT at hb
  split at hb
  ·injection hb with hb
   injection hb with h1 h2
   subst h1 h2
   exact ⟨tt1, ff1, by rw [hr1, ← hz1]⟩
  ·cases hb
 ·cases hb
 ·cases hb
 ·cases hb
theorem postExpand_door (os : Os) (args : Array Value) : laidMetH Tryz.prog laidPostExpand ((World.laidAll Tryz.prog os laidPostExpand).forCall (fun _ _ => 0) ⟨#[], args, []⟩).memory := by
 rw [MakeChecks.laidMetH_plain _ _ _ (by kernel_rfl)]
 exact laidMet_laidAll _ (by kernel_rfl) (by kernel_rfl)

set_option maxRecDepth 100000 in
theorem postExpand_lifted (os : Os) (started : os.Started) (H : Type) (enc : TypeId × Value → H) :
  ReturnsInHanded {} Tryz.checked os 3 .any (fun w args => (Rows.postExpandSpec.pre enc Tryz.prog Tryz.f3 [] false w args ∧ laidMetH Tryz.prog laidPostExpand w) ∧ sizedMet enc Tryz.prog Tryz.f3 (OpenSpec.ofChange Rows.postExpandSpec) false w args)
   (Rows.postExpandSpec.post enc Tryz.prog Tryz.f3 false true false false) := by
 refine returnsInHanded_of_change_and (C := Tryz.checked) (X := fun w _ => laidMetH Tryz.prog laidPostExpand w) (fun _ _ _ hh h => h.of_heap hh) (show ownKnob Tryz.prog.godebug = none by kernel_rfl) started (by kernel_rfl) Tryz.func3
  (ChangeSpec.witness_shaped (enc := enc) (C := Tryz.checked) (os := os) (X := fun w _ => laidMetH Tryz.prog laidPostExpand w) false (World.laidAll Tryz.prog os laidPostExpand) #[.agg #[.slice none 0 0, .int .i64 0, .int .i64 0, .int .i64 0], .agg #[.int .i64 0, .bool false, .int .i64 0, .int .i64 0]] 8 (World.laidAll_os _ _ _) (World.shaped_of_ZipB (by kernel_rfl) (by kernel_rfl)) (by kernel_rfl) (by kernel_rfl) (by kernel_rfl) (postExpand_door os _)) ?_
 intro W base args ds gs before hval0 hW _ _ hL _
 have hval : ∀ (j : Nat) t v, Tryz.f3.params[j]? = some t → args[j]? = some v → Value.okWide Tryz.prog W .any base t v := hval0
 have hW' := hW
 obtain ⟨p, q, hA0, hV, rfl, hfz, hnd⟩ := hW
 have hA : DataW.TrodAll enc Tryz.prog W 0 (fun _ => true) true Tryz.f3.params.toList args.toList ds p := hA0
 rw [Tryz.params3] at hA hval
 obtain ⟨v0, vs0, d0, ds0, p0, q0, hargs, rfl, rfl, h0, r0⟩ := trodAll_cons hA
 obtain ⟨v1, vs1, d1, ds1, p1, q1, rfl, rfl, rfl, h1, r1⟩ := trodAll_cons r0
 obtain ⟨rfl, rfl, rfl⟩ := trodAll_nil r1
 obtain rfl : args = #[v0, v1] := by cases args; simp_all
 obtain ⟨rfl, rfl⟩ := trodVars_none hV
 have k0 := h0
 have lt0 : ∀ x ∈ p0, x.block < W.heap.size := by obtain ⟨m, hm⟩ := k0; exact DataW.trod_lt m _ _ _ hm
 obtain ⟨c0, rfl, _⟩ := okWide_struct Tryz.underlying26 (hval 0 26 v0 rfl rfl)
 obtain ⟨s0, e0, o0⟩ := Opn.argS opn_26 h0
 have k1 := h1
 have lt1 : ∀ x ∈ p1, x.block < W.heap.size := by obtain ⟨m, hm⟩ := k1; exact DataW.trod_lt m _ _ _ hm
 obtain ⟨c1, rfl, _⟩ := okWide_struct Tryz.underlying28 (hval 1 28 v1 rfl rfl)
 obtain ⟨s1, e1, o1⟩ := Opn.argS opn_28 h1
 clear hA0 hval0
 have key := (l46_PostExpand_spec (postExpand_plain s0  s1  o0 o1)).2 W (cellsF W) _ (fun b o u q => ⟨cell_lt q, q⟩) (postExpand_glob hL) (rels_cons e0 (rels_cons e1 (rels_nil _)))
 refine key.mono ?_
 rintro e W' ⟨u, rfl, bel, hu⟩
 have hu' := inv_bool hu
 subst hu'
 exact ⟨_, rfl, _, _, _, [], _, [], hW', trodAll_mk1 (shut_bool Tryz.underlying4 _), (trodAll_cons_mk (Below.trod laidOut_ok (by kernel_rfl) (of_decide_eq_true (by kernel_rfl)) k0 bel.below lt0) (trodAll_cons_mk (Below.trod laidOut_ok (by kernel_rfl) (of_decide_eq_true (by kernel_rfl)) k1 bel.below lt1) trodAll_mk0)), rfl, bel.below.frame _, fun h => by cases h⟩

theorem postExpand_holds : Rows.PostExpandSaid :=
 OpenClaim.holds_of_wide 3 Tryz.f3 rfl rfl rfl rfl rfl rfl rfl ⟨rfl, rfl, rfl, rfl, rfl⟩ rfl rfl rfl rfl rfl (by kernel_rfl) Tryz.func3 (by kernel_rfl)
  (of_decide_eq_true (by kernel_rfl)) (by unfold Func.isWrapper; first | (rw [if_pos (by decide +kernel)]; kernel_rfl) | (rw [if_neg (by decide +kernel)]; exact ⟨rfl, rfl⟩))
  (fun os started H enc _ => postExpand_lifted os started H enc)

theorem postExpand_card : Rows.PostExpandCardSaid :=
 Claim7.holds_tied_plain_at .later [] [.data, .data, .data, .data, .data, .pinned] true (true, "5c64b58f267bd40cdbfeb67148946736ccfeadfe95f1105906e56d81d39ca741") false
  postExpand_holds (fun _ h => by cases h) (by kernel_rfl) (fun _ h => by cases h) postExpand_row_tie rfl ⟨rfl, rfl⟩ (by kernel_rfl) rfl
  (fun f fn hf hfn => by
   obtain rfl : f = 3 := Option.some.inj ((show Tryz.prog.funcNamed "swarf/swarflaw46.PostExpand" = some 3 by kernel_rfl).symm.trans hf) |>.symm
   obtain rfl : fn = Tryz.f3 := (Option.some.inj (Tryz.func3.symm.trans hfn)).symm
   exact ⟨by kernel_rfl, fun j t ht => by
    rw [Tryz.params3] at ht
    have hm : t ∈ [26, 28] := by simpa using Array.mem_of_getElem? ht
    have hall : ([26, 28].all fun u => !Tryz.prog.wantsStandIn u) = true := by kernel_rfl
    exact (show Tryz.prog.wantsStandIn t = false by simpa using List.all_eq_true.1 hall t hm)⟩)
  (by kernel_rfl)
#print axioms postExpand_card
end Go.Proofs.YtjgngikiglhleaaGreatDoor
