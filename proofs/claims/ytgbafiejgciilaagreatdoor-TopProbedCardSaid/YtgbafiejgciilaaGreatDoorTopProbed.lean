/-
 For every input the Go function TopProbed returns true and leaves its arguments as they were;conditions: those of the given statement alone.
-/
import Derived.Test.YtgbafiejgciilaaGreatDoorRProbed
import Derived.Test.YtgbafiejgciilaaGreatDoorMLTopProbed
import Derived.Test.YtgbafiejgciilaaGreatDoorGog
import Derived.Test.YtgbafiejgciilaaGreatDoorRows
import Derived.Test.YtgbafiejgciilaaGreatDoorTie
import Derived.Test.YtgbafiejgciilaaGreatDoorCards
import Derived.ProofKit
import Derived.LaidMore
import Derived.OpenShut
import Derived.Stop.Joined
import Derived.SevenTiedAt
import Derived.Lay
import Derived.MakeChecks
namespace Go.Proofs.YtgbafiejgciilaaGreatDoor
open Go.ChangeShapes Go.WideShapes Go.ChangeAt Go.RowKit Go.Deep

def cU : List (String × DataW Unit) := [("swarf/interpreter.machineCodes", Rows.laid_swarf_interpreter_machineCodes)]
theorem topProbed_glob{W:World}(h:laidMetH Tryz.prog cU W):iv W (fA W):=by
 rw[MakeChecks.laidMetH_plain _ _ _ (by kernel_rfl)]at h
 obtain⟨ps, hps, _, _⟩:=h
 obtain⟨g0, t0, cs0, f0, p0, q0, hg0, ht0, hv0, hd0, hps, _⟩:=hps
 have e0_0 : Tryz.prog.globalNamed "swarf/interpreter.machineCodes" = some 0 := by kernel_rfl
 have e1_0:(Tryz.prog.globals[(0:Nat)]?).map (·.type)=some 115:=by kernel_rfl
 obtain rfl:=Option.some.inj (e0_0.symm.trans hg0)
 obtain rfl:=Option.some.inj (e1_0.symm.trans ht0)
 obtain⟨u0, hu0, hr0⟩:=glob_ints (ns:=[0, 1000, 3000, 4000, 5000, 6000, 8000, 9000, 30000]) (k:=.i64) Tryz.underlying115 Tryz.underlying2 (by kernel_rfl) hd0
 have hcell0:=var_cell e0_0 hv0 hu0
 refine⟨λb cs hb => ?_, λb k zs hb => ?_, λb hb => ?_, λb hb => ?_, λb kvs hb => ?_⟩
 ·unfold glT at hb
  split at hb
  ·injection hb with hb
   subst hb
   refine⟨λ_ => u0, λj x hx => ?_⟩
   cases j with
   | zero => simp at hx;subst hx;exact⟨hcell0, hr0⟩
   | succ j => simp at hx
  ·cases hb
 ·cases hb
 ·cases hb
 ·cases hb
 ·cases hb
theorem topProbed_door(os:Os)(args:Array Value):laidMetH Tryz.prog cU ((World.laidAll Tryz.prog os cU).forCall (λ_ _ => 0) ⟨#[], args, []⟩).memory:=by
 rw[MakeChecks.laidMetH_plain _ _ _ (by kernel_rfl)]
 exact laidMet_laidAll _ (by kernel_rfl) (by kernel_rfl)

set_option maxRecDepth 100000 in
theorem topProbed_lifted(os:Os)(started:os.Started)(H:Type)(enc:TypeId×Value→H) :
  ReturnsInHanded {} Tryz.checked os 3 .any (λw args => (Rows.topProbedSpec.pre enc Tryz.prog Tryz.f3 [] false w args∧laidMetH Tryz.prog cU w)∧sizedMet enc Tryz.prog Tryz.f3 (OpenSpec.ofChange Rows.topProbedSpec) false w args)
   (Rows.topProbedSpec.post enc Tryz.prog Tryz.f3 false true false false):=by
 refine returnsInHanded_of_change_and (C:=Tryz.checked) (X:=λw _ => laidMetH Tryz.prog cU w) (λ_ _ _ hh h => h.of_heap hh) (show ownKnob Tryz.prog.godebug=none by kernel_rfl) started (by kernel_rfl) Tryz.func3
  (ChangeSpec.witness_shaped (enc:=enc) (C:=Tryz.checked) (os:=os) (X:=λw _ => laidMetH Tryz.prog cU w) false (World.laidAll Tryz.prog os cU) #[.agg #[.int .i64 0, .int .i64 0, .int .i64 0, .int .i64 0, .int .i64 0, .int .i64 0, .int .i64 0, .int .i64 0, .int .i64 0, .int .i64 0, .int .i64 0, .int .i64 0, .int .i64 0, .int .i64 0, .int .i64 0, .int .i64 0, .int .i64 0, .int .i64 0, .slice none 0 0], .int .u8 0, .agg #[.int .i16 0, .int .i16 0, .int .i16 0, .int .i16 0, .int .i16 0, .int .u8 0, .slice none 0 0]] 8 (World.laidAll_os _ _ _) (World.shaped_of_ZipB (by kernel_rfl) (by kernel_rfl)) (by kernel_rfl) (by kernel_rfl) (by kernel_rfl) (topProbed_door os _)) ?_
 intro W base args ds gs before hval0 hW _ _ hL _
 have hval:∀(j:Nat) t v, Tryz.f3.params[j]? = some t→args[j]? = some v→Value.okWide Tryz.prog W .any base t v:=hval0
 have hW':=hW
 obtain⟨p, q, hA0, hV, rfl, hfz, hnd⟩:=hW
 have hA:DataW.TrodAll enc Tryz.prog W 0 (λ_ => true) true Tryz.f3.params.toList args.toList ds p:=hA0
 rw[Tryz.params3]at hA hval
 obtain⟨v0, vs0, d0, ds0, p0, q0, hargs, rfl, rfl, h0, r0⟩:=trodAll_cons hA
 obtain⟨v1, vs1, d1, ds1, p1, q1, rfl, rfl, rfl, h1, r1⟩:=trodAll_cons r0
 obtain⟨v2, vs2, d2, ds2, p2, q2, rfl, rfl, rfl, h2, r2⟩:=trodAll_cons r1
 obtain⟨rfl, rfl, rfl⟩:=trodAll_nil r2
 obtain rfl:args=#[v0, v1, v2]:=by cases args;simp_all
 obtain⟨rfl, rfl⟩:=trodVars_none hV
 have k0:=h0
 have lt0:∀x∈p0, x.block<W.heap.size:=by obtain⟨m, hm⟩:=k0;exact DataW.trod_lt m _ _ _ hm
 obtain⟨c0, rfl, _⟩:=okWide_struct Tryz.underlying27 (hval 0 27 v0 rfl rfl)
 obtain⟨s0, e0, o0⟩:=Opn.argS opn_27 h0
 have k1:=h1
 have lt1:∀x∈p1, x.block<W.heap.size:=by obtain⟨m, hm⟩:=k1;exact DataW.trod_lt m _ _ _ hm
 obtain⟨w1, rfl⟩:=okWide_int Tryz.underlying5 (hval 1 5 v1 rfl rfl)
 obtain⟨s1, e1, o1⟩:=Opn.arg opn_5 _ (λ_ => rfl) rfl h1
 have k2:=h2
 have lt2:∀x∈p2, x.block<W.heap.size:=by obtain⟨m, hm⟩:=k2;exact DataW.trod_lt m _ _ _ hm
 obtain⟨c2, rfl, _⟩:=okWide_struct Tryz.underlying32 (hval 2 32 v2 rfl rfl)
 obtain⟨s2, e2, o2⟩:=Opn.argS opn_32 h2
 clear hA0 hval0
 have key:=(top_TopProbed_spec (topProbed_plain s0  s1  s2  o0 o1 o2)).2 W (fA W) _ (λb o u q => ⟨lg q, q⟩) (topProbed_glob hL) (eA e0 (eA e1 (eA e2 (jP _))))
 refine key.mono ?_
 rintro e W' ⟨u, rfl, bel, hu⟩
 have hu':=jY hu
 subst hu'
 exact⟨_, rfl, _, _, _, [], _, [], hW', trodAll_mk1 (shut_bool Tryz.underlying4 _), (trodAll_cons_mk (Below.trod laidOut_ok (by kernel_rfl) (of_decide_eq_true (by kernel_rfl)) k0 bel.below lt0) (trodAll_cons_mk (Below.trod laidOut_ok (by kernel_rfl) (of_decide_eq_true (by kernel_rfl)) k1 bel.below lt1) (trodAll_cons_mk (Below.trod laidOut_ok (by kernel_rfl) (of_decide_eq_true (by kernel_rfl)) k2 bel.below lt2) trodAll_mk0))), rfl, bel.below.frame _, λh => by cases h⟩

theorem topProbed_holds:Rows.TopProbedSaid :=
 OpenClaim.holds_of_wide 3 Tryz.f3 rfl rfl rfl rfl rfl rfl rfl ⟨rfl, rfl, rfl, rfl, rfl⟩ rfl rfl rfl rfl rfl (by kernel_rfl) Tryz.func3 (by kernel_rfl)
  (of_decide_eq_true (by kernel_rfl)) (by unfold Func.isWrapper;first | (rw[if_pos (by decide +kernel)];kernel_rfl)|(rw[if_neg (by decide +kernel)];exact⟨rfl, rfl⟩))
  (λos started H enc _ => topProbed_lifted os started H enc)

theorem topProbed_card:Rows.TopProbedCardSaid :=
 Claim7.holds_tied_plain_at .later [] [.widerDeep] true (true, "114c2a5c665e953a65e1c3e59e1be40cd4045fed8bc44b32c0ac99da77714bbd") false
  topProbed_holds (λ_ h => by cases h) (by kernel_rfl) (λ_ h => by cases h) topProbed_row_tie rfl ⟨rfl, rfl⟩ (by kernel_rfl) rfl
  (λf fn hf hfn => by
   obtain rfl : f = 3 := Option.some.inj ((show Tryz.prog.funcNamed "swarf/swarftop.TopProbed" = some 3 by kernel_rfl).symm.trans hf) |>.symm
   obtain rfl:fn=Tryz.f3:=(Option.some.inj (Tryz.func3.symm.trans hfn)).symm
   exact⟨by kernel_rfl, λj t ht => by
    rw[Tryz.params3]at ht
    have hm:t∈[27, 5, 32]:=by simpa using Array.mem_of_getElem? ht
    have hall:([27, 5, 32].all λu => !Tryz.prog.wantsStandIn u)=true:=by kernel_rfl
    exact (show Tryz.prog.wantsStandIn t=false by simpa using List.all_eq_true.1 hall t hm)⟩)
  (by kernel_rfl)
#print axioms topProbed_card
end Go.Proofs.YtgbafiejgciilaaGreatDoor
