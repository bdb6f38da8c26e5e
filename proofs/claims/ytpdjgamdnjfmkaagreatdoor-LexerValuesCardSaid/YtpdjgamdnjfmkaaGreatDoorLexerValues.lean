/-
 For every input the Go function LexerValues returns true and leaves its arguments as they were; conditions: those of the given statement alone.
-/
import Derived.Test.YtpdjgamdnjfmkaaGreatDoorRValues
import Derived.Test.YtpdjgamdnjfmkaaGreatDoorGp
import Derived.Test.YtpdjgamdnjfmkaaGreatDoorRows
import Derived.Test.YtpdjgamdnjfmkaaGreatDoorTie
import Derived.Test.YtpdjgamdnjfmkaaGreatDoorCards
import Derived.ProofKit
import Derived.LaidMore
import Derived.OpenShut
import Derived.Stop.Joined
import Derived.SevenTiedAt
import Derived.Lay
import Derived.MakeChecks
namespace Go.Proofs.YtpdjgamdnjfmkaaGreatDoor
open Go.ChangeShapes Go.WideShapes Go.ChangeAt Go.RowKit Go.Deep

def laidLexerValues : List (String × DataW Unit) := [("math/bits.deBruijn32tab", Rows.laid_math_bits_deBruijn32tab), ("math/bits.deBruijn64tab", Rows.laid_math_bits_deBruijn64tab), ("internal/strconv.uint64pow10", Rows.laid_internal_strconv_uint64pow10), ("unicode/utf8.acceptRanges", Rows.laid_unicode_utf8_acceptRanges), ("strconv.ErrRange", Rows.laid_strconv_ErrRange), ("strconv.ErrSyntax", Rows.laid_strconv_ErrSyntax), ("unicode/utf8.first", Rows.laid_unicode_utf8_first)]
theorem lexerValues_glob {W : World} (h : laidMetH Tryz.prog laidLexerValues W) : GlobOk W (cellsF W) := by
 rw [MakeChecks.laidMetH_plain _ _ _ (by kernel_rfl)] at h
 obtain ⟨ps, hps, _, _⟩ := h
 obtain ⟨_, _, _, _, _, _, _, _, _, _, hps, _⟩ := hps
 obtain ⟨_, _, _, _, _, _, _, _, _, _, hps, _⟩ := hps
 obtain ⟨g5, t5, cs5, f5, p5, q5, hg5, ht5, hv5, hd5, hps, _⟩ := hps
 have e0_5 : Tryz.prog.globalNamed "internal/strconv.uint64pow10" = some 5 := by kernel_rfl
 have e1_5 : (Tryz.prog.globals[(5 : Nat)]?).map (·.type) = some 176 := by kernel_rfl
 obtain rfl := Option.some.inj (e0_5.symm.trans hg5)
 obtain rfl := Option.some.inj (e1_5.symm.trans ht5)
 have hz5 := glob_tab (ns := [1, 10, 100, 1000, 10000, 100000, 1000000, 10000000, 100000000, 1000000000, 10000000000, 100000000000, 1000000000000, 10000000000000, 100000000000000, 1000000000000000, 10000000000000000, 100000000000000000, 1000000000000000000, 10000000000000000000]) (k := .u64) (show Tryz.prog.underlying 176 = some (.array 20 104) by kernel_rfl) (show Tryz.prog.underlying 104 = some (.int .u64) by kernel_rfl) (by kernel_rfl) (by kernel_rfl) rfl hd5
 obtain ⟨tt5, ff5, hr5⟩ := var_row e0_5 hv5
 obtain ⟨_, _, _, _, _, _, _, _, _, _, hps, _⟩ := hps
 obtain ⟨g2, t2, cs2, f2, p2, q2, hg2, ht2, hv2, hd2, hps, _⟩ := hps
 have e0_2 : Tryz.prog.globalNamed "strconv.ErrRange" = some 2 := by kernel_rfl
 have e1_2 : (Tryz.prog.globals[(2 : Nat)]?).map (·.type) = some 74 := by kernel_rfl
 obtain rfl := Option.some.inj (e0_2.symm.trans hg2)
 obtain rfl := Option.some.inj (e1_2.symm.trans ht2)
 obtain ⟨ue2, ce2, ve2⟩ := glob_err (show ifaceT Tryz.prog 74 = true by kernel_rfl) hd2
 have hcell2 := var_cell e0_2 hv2 ce2
 obtain ⟨g1, t1, cs1, f1, p1, q1, hg1, ht1, hv1, hd1, hps, _⟩ := hps
 have e0_1 : Tryz.prog.globalNamed "strconv.ErrSyntax" = some 1 := by kernel_rfl
 have e1_1 : (Tryz.prog.globals[(1 : Nat)]?).map (·.type) = some 74 := by kernel_rfl
 obtain rfl := Option.some.inj (e0_1.symm.trans hg1)
 obtain rfl := Option.some.inj (e1_1.symm.trans ht1)
 obtain ⟨ue1, ce1, ve1⟩ := glob_err (show ifaceT Tryz.prog 74 = true by kernel_rfl) hd1
 have hcell1 := var_cell e0_1 hv1 ce1
 obtain ⟨_, _, _, _, _, _, _, _, _, _, hps, _⟩ := hps
 refine ⟨fun b cs hb => ?_, fun b k zs hb => ?_, fun b hb => ?_⟩
 ·cases hb
 ·unfold tabT at hb
  split at hb
  ·injection hb with hb
   injection hb with h1 h2
   subst h1 h2
   exact ⟨tt5, ff5, by rw [hr5, ← hz5]⟩
  ·cases hb
 ·unfold errT at hb
  split at hb
  ·exact ⟨_, hcell2, ve2⟩
  ·exact ⟨_, hcell1, ve1⟩
  ·cases hb
theorem lexerValues_door (os : Os) (args : Array Value) : laidMetH Tryz.prog laidLexerValues ((World.laidAll Tryz.prog os laidLexerValues).forCall (fun _ _ => 0) ⟨#[], args, []⟩).memory := by
 rw [MakeChecks.laidMetH_plain _ _ _ (by kernel_rfl)]
 exact laidMet_laidAll _ (by kernel_rfl) (by kernel_rfl)

set_option maxRecDepth 100000 in
theorem lexerValues_lifted (os : Os) (started : os.Started) (H : Type) (enc : TypeId × Value → H) :
  ReturnsInHanded {} Tryz.checked os 5 .any (fun w args => (Rows.lexerValuesSpec.pre enc Tryz.prog Tryz.f5 [] false w args ∧ laidMetH Tryz.prog laidLexerValues w) ∧ sizedMet enc Tryz.prog Tryz.f5 (OpenSpec.ofChange Rows.lexerValuesSpec) false w args)
   (Rows.lexerValuesSpec.post enc Tryz.prog Tryz.f5 false true false false) := by
 refine returnsInHanded_of_change_and (C := Tryz.checked) (X := fun w _ => laidMetH Tryz.prog laidLexerValues w) (fun _ _ _ hh h => h.of_heap hh) (show ownKnob Tryz.prog.godebug = none by kernel_rfl) started (by kernel_rfl) Tryz.func5
  (ChangeSpec.witness_shaped (enc := enc) (C := Tryz.checked) (os := os) (X := fun w _ => laidMetH Tryz.prog laidLexerValues w) false (World.laidAll Tryz.prog os laidLexerValues) #[.int .i64 0, .string ⟨#[]⟩] 8 (World.laidAll_os _ _ _) (World.shaped_of_ZipB (by kernel_rfl) (by kernel_rfl)) (by kernel_rfl) (by kernel_rfl) (by kernel_rfl) (lexerValues_door os _)) ?_
 intro W base args ds gs before hval0 hW _ _ hL _
 have hval : ∀ (j : Nat) t v, Tryz.f5.params[j]? = some t → args[j]? = some v → Value.okWide Tryz.prog W .any base t v := hval0
 have hW' := hW
 obtain ⟨p, q, hA0, hV, rfl, hfz, hnd⟩ := hW
 have hA : DataW.TrodAll enc Tryz.prog W 0 (fun _ => true) true Tryz.f5.params.toList args.toList ds p := hA0
 rw [Tryz.params5] at hA hval
 obtain ⟨v0, vs0, d0, ds0, p0, q0, hargs, rfl, rfl, h0, r0⟩ := trodAll_cons hA
 obtain ⟨v1, vs1, d1, ds1, p1, q1, rfl, rfl, rfl, h1, r1⟩ := trodAll_cons r0
 obtain ⟨rfl, rfl, rfl⟩ := trodAll_nil r1
 obtain rfl : args = #[v0, v1] := by cases args; simp_all
 obtain ⟨rfl, rfl⟩ := trodVars_none hV
 have k0 := h0
 have lt0 : ∀ x ∈ p0, x.block < W.heap.size := by obtain ⟨m, hm⟩ := k0; exact DataW.trod_lt m _ _ _ hm
 obtain ⟨w0, rfl⟩ := okWide_int Tryz.underlying3 (hval 0 3 v0 rfl rfl)
 obtain ⟨s0, e0, o0⟩ := Opn.arg opn_3 _ (fun _ => rfl) rfl h0
 have k1 := h1
 have lt1 : ∀ x ∈ p1, x.block < W.heap.size := by obtain ⟨m, hm⟩ := k1; exact DataW.trod_lt m _ _ _ hm
 obtain ⟨w1, rfl⟩ := okWide_string Tryz.underlying9 (hval 1 9 v1 rfl rfl)
 obtain ⟨s1, e1, o1⟩ := Opn.arg opn_9 _ (fun _ => rfl) rfl h1
 clear hA0 hval0
 have key := (l21_LexerValues_spec (lexerValues_plain s0  s1  o0 o1)).2 W (cellsF W) _ (fun b o u q => ⟨cell_lt q, q⟩) (lexerValues_glob hL) (rels_cons e0 (rels_cons e1 (rels_nil _)))
 refine key.mono ?_
 rintro e W' ⟨u, rfl, bel, hu⟩
 have hu' := inv_bool hu
 subst hu'
 exact ⟨_, rfl, _, _, _, [], _, [], hW', trodAll_mk1 (shut_bool Tryz.underlying4 _), (trodAll_cons_mk (Below.trod laidOut_ok (by kernel_rfl) (of_decide_eq_true (by kernel_rfl)) k0 bel.below lt0) (trodAll_cons_mk (Below.trod laidOut_ok (by kernel_rfl) (of_decide_eq_true (by kernel_rfl)) k1 bel.below lt1) trodAll_mk0)), rfl, bel.below.frame _, fun h => by cases h⟩

theorem lexerValues_holds : Rows.LexerValuesSaid :=
 OpenClaim.holds_of_wide 5 Tryz.f5 rfl rfl rfl rfl rfl rfl rfl ⟨rfl, rfl, rfl, rfl, rfl⟩ rfl rfl rfl rfl rfl (by kernel_rfl) Tryz.func5 (by kernel_rfl)
  (of_decide_eq_true (by kernel_rfl)) (by unfold Func.isWrapper; first | (rw [if_pos (by decide +kernel)]; kernel_rfl) | (rw [if_neg (by decide +kernel)]; exact ⟨rfl, rfl⟩))
  (fun os started H enc _ => lexerValues_lifted os started H enc)

theorem lexerValues_card : Rows.LexerValuesCardSaid :=
 Claim7.holds_tied_plain_at .later [] [.data, .data, .data, .data, .sentinel, .sentinel, .pinned] true (true, "d9ec08a36951128a2ef9b159b2b6f2c2dbbbf795a7aff87b4af7fac638881670") true
  lexerValues_holds (fun _ h => by cases h) (by kernel_rfl) (fun _ h => by cases h) lexerValues_row_tie rfl ⟨rfl, rfl⟩ (by kernel_rfl) rfl
  (fun f fn hf hfn => by
   obtain rfl : f = 5 := Option.some.inj ((show Tryz.prog.funcNamed "swarf/swarflaw21.LexerValues" = some 5 by kernel_rfl).symm.trans hf) |>.symm
   obtain rfl : fn = Tryz.f5 := (Option.some.inj (Tryz.func5.symm.trans hfn)).symm
   exact ⟨by kernel_rfl, fun j t ht => by
    rw [Tryz.params5] at ht
    have hm : t ∈ [3, 9] := by simpa using Array.mem_of_getElem? ht
    have hall : ([3, 9].all fun u => !Tryz.prog.wantsStandIn u) = true := by kernel_rfl
    exact (show Tryz.prog.wantsStandIn t = false by simpa using List.all_eq_true.1 hall t hm)⟩)
  (by kernel_rfl)
#print axioms lexerValues_card
end Go.Proofs.YtpdjgamdnjfmkaaGreatDoor
