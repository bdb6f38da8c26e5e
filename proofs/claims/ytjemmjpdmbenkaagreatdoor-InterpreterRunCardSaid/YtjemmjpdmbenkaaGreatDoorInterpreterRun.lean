/-
 For every input the Go function InterpreterRun returns true and leaves its arguments as they were;conditions: those of the given statement alone.
-/
import Derived.Test.YtjemmjpdmbenkaaGreatDoorRRun
import Derived.Test.YtjemmjpdmbenkaaGreatDoorMLInterpreterRun
import Derived.Test.YtjemmjpdmbenkaaGreatDoorGog
import Derived.Test.YtjemmjpdmbenkaaGreatDoorRows
import Derived.Test.YtjemmjpdmbenkaaGreatDoorTie
import Derived.Test.YtjemmjpdmbenkaaGreatDoorCards
import Derived.ProofKit
import Derived.LaidMore
import Derived.OpenShut
import Derived.Stop.Joined
import Derived.SevenTiedAt
import Derived.Lay
import Derived.MakeChecks
namespace Go.Proofs.YtjemmjpdmbenkaaGreatDoor
open Go.ChangeShapes Go.WideShapes Go.ChangeAt Go.RowKit Go.Deep

def bI : List (String × DataW Unit) := [("math/bits.deBruijn32tab", Rows.laid_math_bits_deBruijn32tab), ("math/bits.deBruijn64tab", Rows.laid_math_bits_deBruijn64tab), ("internal/strconv.uint64pow10", Rows.laid_internal_strconv_uint64pow10), ("unicode/utf8.acceptRanges", Rows.laid_unicode_utf8_acceptRanges), ("strconv.ErrRange", Rows.laid_strconv_ErrRange), ("strconv.ErrSyntax", Rows.laid_strconv_ErrSyntax), ("swarf/interpreter.machineCodes", Rows.laid_swarf_interpreter_machineCodes), ("unicode/utf8.first", Rows.laid_unicode_utf8_first)]
theorem nP{W:World}(h:laidMetH Tryz.prog bI W):jj W (ia W):=by
 rw[MakeChecks.laidMetH_plain _ _ _ (by kernel_rfl)]at h
 obtain⟨ps, hps, _, _⟩:=h
 obtain⟨_, _, _, _, _, _, _, _, _, _, hps, _⟩:=hps
 obtain⟨_, _, _, _, _, _, _, _, _, _, hps, _⟩:=hps
 obtain⟨g6, t6, cs6, f6, p6, q6, hg6, ht6, hv6, hd6, hps, _⟩:=hps
 have e0_6 : Tryz.prog.globalNamed "internal/strconv.uint64pow10" = some 6 := by kernel_rfl
 have e1_6:(Tryz.prog.globals[(6:Nat)]?).map (·.type)=some 321:=by kernel_rfl
 obtain rfl:=Option.some.inj (e0_6.symm.trans hg6)
 obtain rfl:=Option.some.inj (e1_6.symm.trans ht6)
 have hz6:=glob_tab (ns:=[1, 10, 100, 1000, 10000, 100000, 1000000, 10000000, 100000000, 1000000000, 10000000000, 100000000000, 1000000000000, 10000000000000, 100000000000000, 1000000000000000, 10000000000000000, 100000000000000000, 1000000000000000000, 10000000000000000000]) (k:=.u64) (show Tryz.prog.underlying 321=some (.array 20 208) by kernel_rfl) (show Tryz.prog.underlying 208=some (.int .u64) by kernel_rfl) (by kernel_rfl) (by kernel_rfl) rfl hd6
 obtain⟨tt6, ff6, hr6⟩:=var_row e0_6 hv6
 obtain⟨_, _, _, _, _, _, _, _, _, _, hps, _⟩:=hps
 obtain⟨_, _, _, _, _, _, _, _, _, _, hps, _⟩:=hps
 obtain⟨_, _, _, _, _, _, _, _, _, _, hps, _⟩:=hps
 obtain⟨g0, t0, cs0, f0, p0, q0, hg0, ht0, hv0, hd0, hps, _⟩:=hps
 have e0_0 : Tryz.prog.globalNamed "swarf/interpreter.machineCodes" = some 0 := by kernel_rfl
 have e1_0:(Tryz.prog.globals[(0:Nat)]?).map (·.type)=some 92:=by kernel_rfl
 obtain rfl:=Option.some.inj (e0_0.symm.trans hg0)
 obtain rfl:=Option.some.inj (e1_0.symm.trans ht0)
 obtain⟨u0, hu0, hr0⟩:=glob_ints (ns:=[0, 1000, 3000, 4000, 5000, 6000, 8000, 9000, 30000]) (k:=.i64) Tryz.underlying92 Tryz.underlying2 (by kernel_rfl) hd0
 have hcell0:=var_cell e0_0 hv0 hu0
 obtain⟨_, _, _, _, _, _, _, _, _, _, hps, _⟩:=hps
 refine⟨λb cs hb => ?_, λb k zs hb => ?_, λb hb => ?_, λb hb => ?_, λb kvs hb => ?_⟩
 ·unfold glT at hb
  split at hb
  ·injection hb with hb
   subst hb
   refine⟨λ_ => u0, λj x hx => ?_⟩
   cases j with
   | zero => simp at hx;subst hx;exact⟨hcell0, hr0⟩
   | succ j => simp at hx
  ·cases hb
 ·unfold tabT at hb
  split at hb
  ·injection hb with hb
   injection hb with h1 h2
   subst h1 h2
   exact⟨tt6, ff6, by rw[hr6, ←hz6]⟩
  ·cases hb
 ·cases hb
 ·cases hb
 ·cases hb
theorem nR(os:Os)(args:Array Value):laidMetH Tryz.prog bI ((World.laidAll Tryz.prog os bI).forCall (λ_ _ => 0) ⟨#[], args, []⟩).memory:=by
 rw[MakeChecks.laidMetH_plain _ _ _ (by kernel_rfl)]
 exact laidMet_laidAll _ (by kernel_rfl) (by kernel_rfl)

set_option maxRecDepth 100000 in
theorem lW(os:Os)(started:os.Started)(H:Type)(enc:TypeId×Value→H) :
  ReturnsInHanded {} Tryz.checked os 3 .any (λw args => (Rows.interpreterRunSpec.pre enc Tryz.prog Tryz.f3 [] false w args∧laidMetH Tryz.prog bI w)∧sizedMet enc Tryz.prog Tryz.f3 (OpenSpec.ofChange Rows.interpreterRunSpec) false w args)
   (Rows.interpreterRunSpec.post enc Tryz.prog Tryz.f3 false true false false):=by
 refine returnsInHanded_of_change_and (C:=Tryz.checked) (X:=λw _ => laidMetH Tryz.prog bI w) (λ_ _ _ hh h => h.of_heap hh) (show ownKnob Tryz.prog.godebug=none by kernel_rfl) started (by kernel_rfl) Tryz.func3
  (ChangeSpec.witness_shaped (enc:=enc) (C:=Tryz.checked) (os:=os) (X:=λw _ => laidMetH Tryz.prog bI w) false (World.laidAll Tryz.prog os bI) #[.string ⟨#[]⟩, .agg #[.int .i64 0, .int .i64 0, .int .i64 0, .int .i64 0, .int .i64 0, .int .i64 0, .int .i64 0, .int .i64 0, .int .i64 0, .int .i64 0, .int .i64 0, .int .i64 0, .int .i64 0, .int .i64 0, .int .i64 0, .int .i64 0, .int .i64 0, .int .i64 0, .slice none 0 0, .int .i64 0, .int .i64 0, .int .i64 0]] 8 (World.laidAll_os _ _ _) (World.shaped_of_ZipB (by kernel_rfl) (by kernel_rfl)) (by kernel_rfl) (by kernel_rfl) (by kernel_rfl) (nR os _)) ?_
 intro W base args ds gs before hval0 hW _ _ hL _
 have hval:∀(j:Nat) t v, Tryz.f3.params[j]? = some t→args[j]? = some v→Value.okWide Tryz.prog W .any base t v:=hval0
 have hW':=hW
 obtain⟨p, q, hA0, hV, rfl, hfz, hnd⟩:=hW
 have hA:DataW.TrodAll enc Tryz.prog W 0 (λ_ => true) true Tryz.f3.params.toList args.toList ds p:=hA0
 rw[Tryz.params3]at hA hval
 obtain⟨v0, vs0, d0, ds0, p0, q0, hargs, rfl, rfl, h0, r0⟩:=trodAll_cons hA
 obtain⟨v1, vs1, d1, ds1, p1, q1, rfl, rfl, rfl, h1, r1⟩:=trodAll_cons r0
 obtain⟨rfl, rfl, rfl⟩:=trodAll_nil r1
 obtain rfl:args=#[v0, v1]:=by cases args;simp_all
 obtain⟨rfl, rfl⟩:=trodVars_none hV
 have k0:=h0
 have lt0:∀x∈p0, x.block<W.heap.size:=by obtain⟨m, hm⟩:=k0;exact DataW.trod_lt m _ _ _ hm
 obtain⟨w0, rfl⟩:=okWide_string Tryz.underlying9 (hval 0 9 v0 rfl rfl)
 obtain⟨s0, e0, o0⟩:=Opn.arg opn_9 _ (λ_ => rfl) rfl h0
 have k1:=h1
 have lt1:∀x∈p1, x.block<W.heap.size:=by obtain⟨m, hm⟩:=k1;exact DataW.trod_lt m _ _ _ hm
 obtain⟨c1, rfl, _⟩:=okWide_struct Tryz.underlying29 (hval 1 29 v1 rfl rfl)
 obtain⟨s1, e1, o1⟩:=Opn.argS opn_29 h1
 clear hA0 hval0
 have key:=(dn (mP s0  s1  o0 o1)).2 W (ia W) _ (λb o u q => ⟨cell_lt q, q⟩) (nP hL) (ey e0 (ey e1 (kG _)))
 refine key.mono ?_
 rintro e W' ⟨u, rfl, bel, hu⟩
 have hu':=inv_bool hu
 subst hu'
 exact⟨_, rfl, _, _, _, [], _, [], hW', trodAll_mk1 (shut_bool Tryz.underlying4 _), (trodAll_cons_mk (Below.trod laidOut_ok (by kernel_rfl) (oj (by kernel_rfl)) k0 bel.below lt0) (trodAll_cons_mk (Below.trod laidOut_ok (by kernel_rfl) (oj (by kernel_rfl)) k1 bel.below lt1) trodAll_mk0)), rfl, bel.below.frame _, λh => by cases h⟩

theorem mQ:Rows.InterpreterRunSaid :=
 OpenClaim.holds_of_wide 3 Tryz.f3 rfl rfl rfl rfl rfl rfl rfl ⟨rfl, rfl, rfl, rfl, rfl⟩ rfl rfl rfl rfl rfl (by kernel_rfl) Tryz.func3 (by kernel_rfl)
  (oj (by kernel_rfl)) (by unfold Func.isWrapper;first | (rw[od (by decide +kernel)];kernel_rfl)|(rw[oc (by decide +kernel)];exact⟨rfl, rfl⟩))
  (λos started H enc _ => lW os started H enc)

theorem interpreterRun_card:Rows.InterpreterRunCardSaid :=
 Claim7.holds_tied_plain_at .later [] [.data, .data, .data, .data, .sentinel, .sentinel, .widerDeep, .pinned] true (true, "dde77ec8e0fa5b419e6412dcfc438525650010818732df3afac3379a4446b3e7") true
  mQ (λ_ h => by cases h) (by kernel_rfl) (λ_ h => by cases h) interpreterRun_row_tie rfl ⟨rfl, rfl⟩ (by kernel_rfl) rfl
  (λf fn hf hfn => by
   obtain rfl : f = 3 := Option.some.inj ((show Tryz.prog.funcNamed "swarf/swarflaw47.InterpreterRun" = some 3 by kernel_rfl).symm.trans hf) |>.symm
   obtain rfl:fn=Tryz.f3:=(Option.some.inj (Tryz.func3.symm.trans hfn)).symm
   exact⟨by kernel_rfl, λj t ht => by
    rw[Tryz.params3]at ht
    have hm:t∈[9, 29]:=by simpa using Array.mem_of_getElem? ht
    have hall:([9, 29].all λu => !Tryz.prog.wantsStandIn u)=true:=by kernel_rfl
    exact (show Tryz.prog.wantsStandIn t=false by simpa using List.all_eq_true.1 hall t hm)⟩)
  (by kernel_rfl)
#print axioms interpreterRun_card
end Go.Proofs.YtjemmjpdmbenkaaGreatDoor
