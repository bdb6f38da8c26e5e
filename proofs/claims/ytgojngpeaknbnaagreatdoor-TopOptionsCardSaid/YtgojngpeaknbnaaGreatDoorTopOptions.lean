/-
 For every input the Go function TopOptions returns true and leaves its arguments as they were;conditions: those of the given statement alone.
-/
import Derived.Test.YtgojngpeaknbnaaGreatDoorRTopO
import Derived.Test.YtgojngpeaknbnaaGreatDoorMLTopOptions
import Derived.Test.YtgojngpeaknbnaaGreatDoorGog
import Derived.Test.YtgojngpeaknbnaaGreatDoorRows
import Derived.Test.YtgojngpeaknbnaaGreatDoorTie
import Derived.Test.YtgojngpeaknbnaaGreatDoorCards
import Derived.ProofKit
import Derived.LaidMore
import Derived.OpenShut
import Derived.Stop.Joined
import Derived.SevenTiedAt
import Derived.Lay
import Derived.MakeChecks
namespace Go.Proofs.YtgojngpeaknbnaaGreatDoor
open Go.ChangeShapes Go.WideShapes Go.ChangeAt Go.RowKit Go.Deep

def cb : List (String × DataW Unit) := [("math/bits.deBruijn32tab", Rows.laid_math_bits_deBruijn32tab), ("math/bits.deBruijn64tab", Rows.laid_math_bits_deBruijn64tab), ("internal/strconv.uint64pow10", Rows.laid_internal_strconv_uint64pow10), ("unicode/utf8.acceptRanges", Rows.laid_unicode_utf8_acceptRanges), ("strconv.ErrRange", Rows.laid_strconv_ErrRange), ("strconv.ErrSyntax", Rows.laid_strconv_ErrSyntax), ("swarf/post.codes", Rows.laid_swarf_post_codes), ("swarf/interpreter.machineCodes", Rows.laid_swarf_interpreter_machineCodes), ("unicode/utf8.first", Rows.laid_unicode_utf8_first)]
theorem topOptions_glob{W:World}(h:laidMetH Tryz.prog cb W):gI W (eJ W):=by
 rw[MakeChecks.laidMetH_plain _ _ _ (by kernel_rfl)]at h
 obtain⟨ps, hps, _, _⟩:=h
 obtain⟨_, _, _, _, _, _, _, _, _, _, hps, _⟩:=hps
 obtain⟨_, _, _, _, _, _, _, _, _, _, hps, _⟩:=hps
 obtain⟨g3, t3, cs3, f3, p3, q3, hg3, ht3, hv3, hd3, hps, _⟩:=hps
 have e0_3 : Tryz.prog.globalNamed "internal/strconv.uint64pow10" = some 3 := by kernel_rfl
 have e1_3:(Tryz.prog.globals[(3:Nat)]?).map (·.type)=some 279:=by kernel_rfl
 obtain rfl:=Option.some.inj (e0_3.symm.trans hg3)
 obtain rfl:=Option.some.inj (e1_3.symm.trans ht3)
 have hz3:=glob_tab (ns:=[1, 10, 100, 1000, 10000, 100000, 1000000, 10000000, 100000000, 1000000000, 10000000000, 100000000000, 1000000000000, 10000000000000, 100000000000000, 1000000000000000, 10000000000000000, 100000000000000000, 1000000000000000000, 10000000000000000000]) (k:=.u64) (show Tryz.prog.underlying 279=some (.array 20 192) by kernel_rfl) (show Tryz.prog.underlying 192=some (.int .u64) by kernel_rfl) (by kernel_rfl) (by kernel_rfl) rfl hd3
 obtain⟨tt3, ff3, hr3⟩:=var_row e0_3 hv3
 obtain⟨_, _, _, _, _, _, _, _, _, _, hps, _⟩:=hps
 obtain⟨_, _, _, _, _, _, _, _, _, _, hps, _⟩:=hps
 obtain⟨_, _, _, _, _, _, _, _, _, _, hps, _⟩:=hps
 obtain⟨g0, t0, cs0, f0, p0, q0, hg0, ht0, hv0, hd0, hps, _⟩:=hps
 have e0_0 : Tryz.prog.globalNamed "swarf/post.codes" = some 0 := by kernel_rfl
 have e1_0:(Tryz.prog.globals[(0:Nat)]?).map (·.type)=some 194:=by kernel_rfl
 obtain rfl:=Option.some.inj (e0_0.symm.trans hg0)
 obtain rfl:=Option.some.inj (e1_0.symm.trans ht0)
 have hz0:=glob_tab (ns:=[0, 0, 1, 2, 3]) (k:=.i64) (show Tryz.prog.underlying 194=some (.array 5 2) by kernel_rfl) (show Tryz.prog.underlying 2=some (.int .i64) by kernel_rfl) (by kernel_rfl) (by kernel_rfl) rfl hd0
 obtain⟨g2, t2, cs2, f2, p2, q2, hg2, ht2, hv2, hd2, hps, _⟩:=hps
 have e0_2 : Tryz.prog.globalNamed "swarf/interpreter.machineCodes" = some 2 := by kernel_rfl
 have e1_2:(Tryz.prog.globals[(2:Nat)]?).map (·.type)=some 60:=by kernel_rfl
 obtain rfl:=Option.some.inj (e0_2.symm.trans hg2)
 obtain rfl:=Option.some.inj (e1_2.symm.trans ht2)
 obtain⟨u2, hu2, hr2⟩:=glob_ints (ns:=[0, 1000, 3000, 4000, 5000, 6000, 8000, 9000, 30000]) (k:=.i64) Tryz.underlying60 Tryz.underlying2 (by kernel_rfl) hd2
 have hcell2:=var_cell e0_2 hv2 hu2
 obtain⟨_, _, _, _, _, _, _, _, _, _, hps, _⟩:=hps
 refine⟨λb cs hb => ?_, λb k zs hb => ?_, λb hb => ?_, λb hb => ?_, λb kvs hb => ?_⟩
 ·unfold glT at hb
  split at hb
  ·injection hb with hb
   subst hb
   refine⟨λ_ => u2, λj x hx => ?_⟩
   cases j with
   | zero => simp at hx;subst hx;exact⟨hcell2, hr2⟩
   | succ j => simp at hx
  ·injection hb with hb
   subst hb
   exact glob_arr e0_0 hv0 hz0
  ·cases hb
 ·unfold tabT at hb
  split at hb
  ·injection hb with hb
   injection hb with h1 h2
   subst h1 h2
   exact⟨tt3, ff3, by rw[hr3, ←hz3]⟩
  ·cases hb
 ·cases hb
 ·cases hb
 ·cases hb
theorem topOptions_door(os:Os)(args:Array Value):laidMetH Tryz.prog cb ((World.laidAll Tryz.prog os cb).forCall (λ_ _ => 0) ⟨#[], args, []⟩).memory:=by
 rw[MakeChecks.laidMetH_plain _ _ _ (by kernel_rfl)]
 exact laidMet_laidAll _ (by kernel_rfl) (by kernel_rfl)

set_option maxRecDepth 100000 in
theorem topOptions_lifted(os:Os)(started:os.Started)(H:Type)(enc:TypeId×Value→H) :
  ReturnsInHanded {} Tryz.checked os 3 .any (λw args => (Rows.topOptionsSpec.pre enc Tryz.prog Tryz.f3 [] false w args∧laidMetH Tryz.prog cb w)∧sizedMet enc Tryz.prog Tryz.f3 (OpenSpec.ofChange Rows.topOptionsSpec) false w args)
   (Rows.topOptionsSpec.post enc Tryz.prog Tryz.f3 false true false false):=by
 refine returnsInHanded_of_change_and (C:=Tryz.checked) (X:=λw _ => laidMetH Tryz.prog cb w) (λ_ _ _ hh h => h.of_heap hh) (show ownKnob Tryz.prog.godebug=none by kernel_rfl) started (by kernel_rfl) Tryz.func3
  (ChangeSpec.witness_shaped (enc:=enc) (C:=Tryz.checked) (os:=os) (X:=λw _ => laidMetH Tryz.prog cb w) false (World.laidAll Tryz.prog os cb) #[.agg #[.slice none 0 0, .int .i64 0, .int .i64 0, .int .i64 0, .int .i64 0, .int .i64 0, .int .i64 0], .int .u8 0, .int .u8 0] 8 (World.laidAll_os _ _ _) (World.shaped_of_ZipB (by kernel_rfl) (by kernel_rfl)) (by kernel_rfl) (by kernel_rfl) (by kernel_rfl) (topOptions_door os _)) ?_
 intro W base args ds gs before hval0 hW _ _ hL _
 have hval:∀(j:Nat) t v, Tryz.f3.params[j]? = some t→args[j]? = some v→Value.okWide Tryz.prog W .any base t v:=hval0
 have hW':=hW
 obtain⟨p, q, hA0, hV, rfl, hfz, hnd⟩:=hW
 have hA:DataW.TrodAll enc Tryz.prog W 0 (λ_ => true) true Tryz.f3.params.toList args.toList ds p:=hA0
 rw[Tryz.params3]at hA hval
 obtain⟨v0, vs0, d0, ds0, p0, q0, hargs, rfl, rfl, h0, r0⟩:=trodAll_cons hA
 obtain⟨v1, vs1, d1, ds1, p1, q1, rfl, rfl, rfl, h1, r1⟩:=trodAll_cons r0
 obtain⟨v2, vs2, d2, ds2, p2, q2, rfl, rfl, rfl, h2, r2⟩:=trodAll_cons r1
 obtain⟨rfl, rfl, rfl⟩:=trodAll_nil r2
 obtain rfl:args=#[v0, v1, v2]:=by cases args;simp_all
 obtain⟨rfl, rfl⟩:=trodVars_none hV
 have k0:=h0
 have lt0:∀x∈p0, x.block<W.heap.size:=by obtain⟨m, hm⟩:=k0;exact DataW.trod_lt m _ _ _ hm
 obtain⟨c0, rfl, _⟩:=okWide_struct Tryz.underlying26 (hval 0 26 v0 rfl rfl)
 obtain⟨s0, e0, o0⟩:=Opn.argS opn_26 h0
 have k1:=h1
 have lt1:∀x∈p1, x.block<W.heap.size:=by obtain⟨m, hm⟩:=k1;exact DataW.trod_lt m _ _ _ hm
 obtain⟨w1, rfl⟩:=okWide_int Tryz.underlying5 (hval 1 5 v1 rfl rfl)
 obtain⟨s1, e1, o1⟩:=Opn.arg opn_5 _ (λ_ => rfl) rfl h1
 have k2:=h2
 have lt2:∀x∈p2, x.block<W.heap.size:=by obtain⟨m, hm⟩:=k2;exact DataW.trod_lt m _ _ _ hm
 obtain⟨w2, rfl⟩:=okWide_int Tryz.underlying5 (hval 2 5 v2 rfl rfl)
 obtain⟨s2, e2, o2⟩:=Opn.arg opn_5 _ (λ_ => rfl) rfl h2
 clear hA0 hval0
 have key:=(km (topOptions_plain s0  s1  s2  o0 o1 o2)).2 W (eJ W) _ (λb o u q => ⟨cell_lt q, q⟩) (topOptions_glob hL) (bD e0 (bD e1 (bD e2 (ey _))))
 refine key.mono ?_
 rintro e W' ⟨u, rfl, bel, hu⟩
 have hu':=inv_bool hu
 subst hu'
 exact⟨_, rfl, _, _, _, [], _, [], hW', trodAll_mk1 (shut_bool Tryz.underlying4 _), (trodAll_cons_mk (Below.trod laidOut_ok (by kernel_rfl) (of_decide_eq_true (by kernel_rfl)) k0 bel.below lt0) (trodAll_cons_mk (Below.trod laidOut_ok (by kernel_rfl) (of_decide_eq_true (by kernel_rfl)) k1 bel.below lt1) (trodAll_cons_mk (Below.trod laidOut_ok (by kernel_rfl) (of_decide_eq_true (by kernel_rfl)) k2 bel.below lt2) trodAll_mk0))), rfl, bel.below.frame _, λh => by cases h⟩

theorem topOptions_holds:Rows.TopOptionsSaid :=
 OpenClaim.holds_of_wide 3 Tryz.f3 rfl rfl rfl rfl rfl rfl rfl ⟨rfl, rfl, rfl, rfl, rfl⟩ rfl rfl rfl rfl rfl (by kernel_rfl) Tryz.func3 (by kernel_rfl)
  (of_decide_eq_true (by kernel_rfl)) (by unfold Func.isWrapper;first | (rw[if_pos (by decide +kernel)];kernel_rfl)|(rw[if_neg (by decide +kernel)];exact⟨rfl, rfl⟩))
  (λos started H enc _ => topOptions_lifted os started H enc)

theorem topOptions_card:Rows.TopOptionsCardSaid :=
 Claim7.holds_tied_plain_at .later [] [.data, .data, .data, .data, .sentinel, .sentinel, .data, .widerDeep, .pinned] true (true, "bb3ec3d5b978a0f339f3dcd72ec345c6bbe704fd10aba2b595a156d8565a9f51") true
  topOptions_holds (λ_ h => by cases h) (by kernel_rfl) (λ_ h => by cases h) topOptions_row_tie rfl ⟨rfl, rfl⟩ (by kernel_rfl) rfl
  (λf fn hf hfn => by
   obtain rfl : f = 3 := Option.some.inj ((show Tryz.prog.funcNamed "swarf/swarftop.TopOptions" = some 3 by kernel_rfl).symm.trans hf) |>.symm
   obtain rfl:fn=Tryz.f3:=(Option.some.inj (Tryz.func3.symm.trans hfn)).symm
   exact⟨by kernel_rfl, λj t ht => by
    rw[Tryz.params3]at ht
    have hm:t∈[26, 5, 5]:=by simpa using Array.mem_of_getElem? ht
    have hall:([26, 5, 5].all λu => !Tryz.prog.wantsStandIn u)=true:=by kernel_rfl
    exact (show Tryz.prog.wantsStandIn t=false by simpa using List.all_eq_true.1 hall t hm)⟩)
  (by kernel_rfl)
#print axioms topOptions_card
end Go.Proofs.YtgojngpeaknbnaaGreatDoor
