/-
 For every input the Go function TopDisplaced returns true and leaves its arguments as they were;conditions: those of the given statement alone.
-/
import Derived.Test.YtphbhdoljnokkaaGreatDoorRTopD
import Derived.Test.YtphbhdoljnokkaaGreatDoorMLTopDisplaced
import Derived.Test.YtphbhdoljnokkaaGreatDoorJf
import Derived.Test.YtphbhdoljnokkaaGreatDoorJg
import Derived.Test.YtphbhdoljnokkaaGreatDoorGog
import Derived.Test.YtphbhdoljnokkaaGreatDoorRows
import Derived.Test.YtphbhdoljnokkaaGreatDoorGm
import Derived.Test.YtphbhdoljnokkaaGreatDoorLn
import Derived.Test.YtphbhdoljnokkaaGreatDoorTie
import Derived.Test.YtphbhdoljnokkaaGreatDoorCards
import Derived.ProofKit
import Derived.LaidMore
import Derived.OpenShut
import Derived.Stop.Joined
import Derived.SevenTiedAt
import Derived.Lay
import Derived.MakeChecks
namespace Go.Proofs.YtphbhdoljnokkaaGreatDoor
open Go.ChangeShapes Go.WideShapes Go.ChangeAt Go.RowKit Go.Deep
set_option linter.unusedVariables false

def eS : List (String × DataW Unit) := [("math/bits.deBruijn32tab", Rows.laid_math_bits_deBruijn32tab), ("math/bits.deBruijn64tab", Rows.laid_math_bits_deBruijn64tab), ("internal/strconv.uint64pow10", Rows.laid_internal_strconv_uint64pow10), ("unicode/utf8.acceptRanges", Rows.laid_unicode_utf8_acceptRanges), ("strconv.ErrRange", Rows.laid_strconv_ErrRange), ("strconv.ErrSyntax", Rows.laid_strconv_ErrSyntax), ("swarf/post.codes", Rows.laid_swarf_post_codes), ("swarf/interpreter.machineCodes", Rows.laid_swarf_interpreter_machineCodes), ("swarf/tool.names", Rows.laid_swarf_tool_names), ("unicode/utf8.first", Rows.laid_unicode_utf8_first)]
theorem topDisplaced_glob{W:World}(h:laidMetH Tryz.prog eS W)(hs:W.ShapedOpen Tryz.prog):lP W (kz W):=by
 rw[MakeChecks.laidMetH_plain _ _ _ (by kernel_rfl)]at h
 obtain⟨ps, hps, _, _⟩:=h
 obtain⟨_, _, _, _, _, _, _, _, _, _, hps, _⟩:=hps
 obtain⟨_, _, _, _, _, _, _, _, _, _, hps, _⟩:=hps
 obtain⟨g4, t4, cs4, f4, p4, q4, hg4, ht4, hv4, hd4, hps, _⟩:=hps
 have e0_4 : Tryz.prog.globalNamed "internal/strconv.uint64pow10" = some 4 := by kernel_rfl
 have e1_4:(Tryz.prog.globals[(4:Nat)]?).map (·.type)=some 391:=by kernel_rfl
 obtain rfl:=Option.some.inj (e0_4.symm.trans hg4)
 obtain rfl:=Option.some.inj (e1_4.symm.trans ht4)
 have hz4:=glob_tab (ns:=[1, 10, 100, 1000, 10000, 100000, 1000000, 10000000, 100000000, 1000000000, 10000000000, 100000000000, 1000000000000, 10000000000000, 100000000000000, 1000000000000000, 10000000000000000, 100000000000000000, 1000000000000000000, 10000000000000000000]) (k:=.u64) (show Tryz.prog.underlying 391=some (.array 20 187) by kernel_rfl) (show Tryz.prog.underlying 187=some (.int .u64) by kernel_rfl) (by kernel_rfl) (by kernel_rfl) rfl hd4
 obtain⟨tt4, ff4, hr4⟩:=var_row e0_4 hv4
 obtain⟨_, _, _, _, _, _, _, _, _, _, hps, _⟩:=hps
 obtain⟨_, _, _, _, _, _, _, _, _, _, hps, _⟩:=hps
 obtain⟨_, _, _, _, _, _, _, _, _, _, hps, _⟩:=hps
 obtain⟨g0, t0, cs0, f0, p0, q0, hg0, ht0, hv0, hd0, hps, _⟩:=hps
 have e0_0 : Tryz.prog.globalNamed "swarf/post.codes" = some 0 := by kernel_rfl
 have e1_0:(Tryz.prog.globals[(0:Nat)]?).map (·.type)=some 279:=by kernel_rfl
 obtain rfl:=Option.some.inj (e0_0.symm.trans hg0)
 obtain rfl:=Option.some.inj (e1_0.symm.trans ht0)
 have hz0:=glob_tab (ns:=[0, 0, 1, 2, 3]) (k:=.i64) (show Tryz.prog.underlying 279=some (.array 5 2) by kernel_rfl) (show Tryz.prog.underlying 2=some (.int .i64) by kernel_rfl) (by kernel_rfl) (by kernel_rfl) rfl hd0
 obtain⟨g2, t2, cs2, f2, p2, q2, hg2, ht2, hv2, hd2, hps, _⟩:=hps
 have e0_2 : Tryz.prog.globalNamed "swarf/interpreter.machineCodes" = some 2 := by kernel_rfl
 have e1_2:(Tryz.prog.globals[(2:Nat)]?).map (·.type)=some 85:=by kernel_rfl
 obtain rfl:=Option.some.inj (e0_2.symm.trans hg2)
 obtain rfl:=Option.some.inj (e1_2.symm.trans ht2)
 obtain⟨u2, hu2, hr2⟩:=glob_ints (ns:=[0, 1000, 3000, 4000, 5000, 6000, 8000, 9000, 30000]) (k:=.i64) Tryz.underlying85 Tryz.underlying2 (by kernel_rfl) hd2
 have hcell2:=var_cell e0_2 hv2 hu2
 obtain⟨g3, t3, cs3, f3, p3, q3, hg3, ht3, hv3, hd3, hps, _⟩:=hps
 have e0_3 : Tryz.prog.globalNamed "swarf/tool.names" = some 3 := by kernel_rfl
 have e1_3:(Tryz.prog.globals[(3:Nat)]?).map (·.type)=some 304:=by kernel_rfl
 obtain rfl:=Option.some.inj (e0_3.symm.trans hg3)
 obtain rfl:=Option.some.inj (e1_3.symm.trans ht3)
 obtain⟨bm3, es3, ck3, cm3, rm3⟩:=glob_map (kvs:=[(1, [109, 105, 108, 108]), (2, [100, 114, 105, 108, 108]), (3, [99, 104, 97, 109, 102, 101, 114]), (4, [112, 114, 111, 98, 101])]) (show Tryz.prog.underlying 304=some (.map 3 9) by kernel_rfl) (show Tryz.prog.underlying 3=some (.int .i64) by kernel_rfl) (show Tryz.prog.underlying 9=some .string by kernel_rfl) hd3
 have hcell3:=var_cell e0_3 hv3 cm3
 obtain⟨_, _, _, _, _, _, _, _, _, _, hps, _⟩:=hps
 refine⟨λb cs hb => ?_, λb k zs hb => ?_, λb hb => ?_, λb hb => ?_, λb kvs hb => ?_⟩
 ·unfold glT at hb
  split at hb
  ·injection hb with hb
   subst hb
   refine⟨λ_ => u2, λj x hx => ?_⟩
   cases j with
   | zero => simp at hx;subst hx;exact⟨hcell2, hr2⟩
   | succ j => simp at hx
  ·injection hb with hb
   subst hb
   exact glob_arr e0_0 hv0 hz0
  ·cases hb
 ·unfold tabT at hb
  split at hb
  ·injection hb with hb
   injection hb with h1 h2
   subst h1 h2
   exact⟨tt4, ff4, by rw[hr4, ←hz4]⟩
  ·cases hb
 ·cases hb
 ·cases hb
 ·unfold mapG at hb
  split at hb
  ·injection hb with hb
   subst hb
   exact⟨_, _, _, hcell3, rm3⟩
  ·cases hb
set_option maxRecDepth 100000 in
theorem topDisplaced_door (os : Os) (args : Array Value) : laidMetH Tryz.prog eS ((je Tryz.prog os 3 #[⟨.int .i64 1, .string ⟨#[109, 105, 108, 108]⟩, 0⟩, ⟨.int .i64 2, .string ⟨#[100, 114, 105, 108, 108]⟩, 1⟩, ⟨.int .i64 3, .string ⟨#[99, 104, 97, 109, 102, 101, 114]⟩, 2⟩, ⟨.int .i64 4, .string ⟨#[112, 114, 111, 98, 101]⟩, 3⟩] eS "swarf/tool.names").forCall (λ_ _ => 0) ⟨#[], args, []⟩).memory := by
 rw[MakeChecks.laidMetH_plain _ _ _ (by kernel_rfl)]
 exact mapDoor args [3, (World.holding Tryz.prog os ⟨#[], #[], []⟩).heap.size] 8 (by kernel_rfl) (by kernel_rfl) (by kernel_rfl) (by kernel_rfl) (by kernel_rfl) (by kernel_rfl)

set_option maxRecDepth 100000 in
theorem qw(os:Os)(started:os.Started)(H:Type)(enc:TypeId×Value→H) :
  ReturnsInHanded {} Tryz.checked os 3 .any (λw args => (Rows.topDisplacedSpec.pre enc Tryz.prog Tryz.f3 [] false w args∧laidMetH Tryz.prog eS w)∧sizedMet enc Tryz.prog Tryz.f3 (OpenSpec.ofChange Rows.topDisplacedSpec) false w args)
   (Rows.topDisplacedSpec.post enc Tryz.prog Tryz.f3 false true false false):=by
 refine handed_andS (C:=Tryz.checked) (X:=λw _ => laidMetH Tryz.prog eS w) (λ_ _ _ hh h => h.of_heap hh) (show ownKnob Tryz.prog.godebug=none by kernel_rfl) started (by kernel_rfl) Tryz.func3
  (ChangeSpec.witness_shaped (enc := enc) (C := Tryz.checked) (os := os) (X := λw _ => laidMetH Tryz.prog eS w) false (je Tryz.prog os 3 #[⟨.int .i64 1, .string ⟨#[109, 105, 108, 108]⟩, 0⟩, ⟨.int .i64 2, .string ⟨#[100, 114, 105, 108, 108]⟩, 1⟩, ⟨.int .i64 3, .string ⟨#[99, 104, 97, 109, 102, 101, 114]⟩, 2⟩, ⟨.int .i64 4, .string ⟨#[112, 114, 111, 98, 101]⟩, 3⟩] eS "swarf/tool.names") #[.agg #[.slice none 0 0, .int .i64 0, .int .i64 0, .int .i64 0, .int .i64 0, .int .i64 0, .int .i64 0], .agg #[.int .i64 0, .int .i64 0, .int .i64 0], .agg #[.int .i16 0, .int .i16 0, .int .u8 0]] 8 (laidMaps_os _ _ _ _ _ _) (World.shaped_of_ZipB (by kernel_rfl) (by kernel_rfl)) (by kernel_rfl) (by kernel_rfl) (by kernel_rfl) (topDisplaced_door os _)) ?_
 intro W base args ds gs before hval0 hW hL hS
 have hval:∀(j:Nat) t v, Tryz.f3.params[j]? = some t→args[j]? = some v→Value.okWide Tryz.prog W .any base t v:=hval0
 have hW':=hW
 obtain⟨p, q, hA0, hV, rfl, hfz, hnd⟩:=hW
 have hA:DataW.TrodAll enc Tryz.prog W 0 (λ_ => true) true Tryz.f3.params.toList args.toList ds p:=hA0
 rw[Tryz.params3]at hA hval
 obtain⟨v0, vs0, d0, ds0, p0, q0, hargs, rfl, rfl, h0, r0⟩:=trodAll_cons hA
 obtain⟨v1, vs1, d1, ds1, p1, q1, rfl, rfl, rfl, h1, r1⟩:=trodAll_cons r0
 obtain⟨v2, vs2, d2, ds2, p2, q2, rfl, rfl, rfl, h2, r2⟩:=trodAll_cons r1
 obtain⟨rfl, rfl, rfl⟩:=trodAll_nil r2
 obtain rfl:args=#[v0, v1, v2]:=by cases args;simp_all
 obtain⟨rfl, rfl⟩:=trodVars_none hV
 have k0:=h0
 have lt0:∀x∈p0, x.block<W.heap.size:=by obtain⟨m, hm⟩:=k0;exact DataW.trod_lt m _ _ _ hm
 obtain⟨c0, rfl, _⟩:=okWide_struct Tryz.underlying26 (hval 0 26 v0 rfl rfl)
 obtain⟨s0, e0, o0⟩:=Opn.argS opn_26 h0
 have k1:=h1
 have lt1:∀x∈p1, x.block<W.heap.size:=by obtain⟨m, hm⟩:=k1;exact DataW.trod_lt m _ _ _ hm
 obtain⟨c1, rfl, _⟩:=okWide_struct Tryz.underlying24 (hval 1 24 v1 rfl rfl)
 obtain⟨s1, e1, o1⟩:=Opn.argS opn_24 h1
 have k2:=h2
 have lt2:∀x∈p2, x.block<W.heap.size:=by obtain⟨m, hm⟩:=k2;exact DataW.trod_lt m _ _ _ hm
 obtain⟨c2, rfl, _⟩:=okWide_struct Tryz.underlying29 (hval 2 29 v2 rfl rfl)
 obtain⟨s2, e2, o2⟩:=Opn.argS opn_29 h2
 clear hA0 hval0
 have key:=(gB (topDisplaced_plain s0  s1  s2  o0 o1 o2)).2 W (kz W) _ (λb o u q => ⟨cell_lt q, q⟩) (topDisplaced_glob hL hS) (dM e0 (dM e1 (dM e2 (i6 _))))
 refine key.mono ?_
 rintro e W' ⟨u, rfl, bel, hu⟩
 have hu':=inv_bool hu
 subst hu'
 exact⟨_, rfl, _, _, _, [], _, [], hW', trodAll_mk1 (shut_bool Tryz.underlying4 _), (trodAll_cons_mk (Below.trod laidOut_ok (by kernel_rfl) (ra (by kernel_rfl)) k0 bel.below lt0) (trodAll_cons_mk (Below.trod laidOut_ok (by kernel_rfl) (ra (by kernel_rfl)) k1 bel.below lt1) (trodAll_cons_mk (Below.trod laidOut_ok (by kernel_rfl) (ra (by kernel_rfl)) k2 bel.below lt2) trodAll_mk0))), rfl, bel.below.frame _, λh => by cases h⟩

theorem topDisplaced_holds:Rows.TopDisplacedSaid :=
 OpenClaim.holds_of_wide 3 Tryz.f3 rfl rfl rfl rfl rfl rfl rfl ⟨rfl, rfl, rfl, rfl, rfl⟩ rfl rfl rfl rfl rfl (by kernel_rfl) Tryz.func3 jfs
  (ra (by kernel_rfl)) (by unfold Func.isWrapper;first | (rw[qV (by decide +kernel)];kernel_rfl)|(rw[qU (by decide +kernel)];exact⟨rfl, rfl⟩))
  (λos started H enc _ => qw os started H enc)

theorem topDisplaced_card:Rows.TopDisplacedCardSaid :=
 Claim7.holds_tied_plain_at .later [] [.data, .data, .data, .data, .sentinel, .sentinel, .data, .widerDeep, .mapped, .pinned] true (true, "9d7c678b0a85d268c00faa6617b09753573dbde874abd2d27878644775f4e009") true
  topDisplaced_holds (λ_ h => by cases h) (by kernel_rfl) (λ_ h => by cases h) topDisplaced_row_tie rfl ⟨rfl, rfl⟩ (by kernel_rfl) rfl
  (λf fn hf hfn => by
   obtain rfl : f = 3 := Option.some.inj ((show Tryz.prog.funcNamed "swarf/swarftop.TopDisplaced" = some 3 by kernel_rfl).symm.trans hf) |>.symm
   obtain rfl:fn=Tryz.f3:=(Option.some.inj (Tryz.func3.symm.trans hfn)).symm
   exact⟨jg3, λj t ht => by
    rw[Tryz.params3]at ht
    have hm:t∈[26, 24, 29]:=by simpa using Array.mem_of_getElem? ht
    have hall:([26, 24, 29].all λu => !Tryz.prog.wantsStandIn u)=true:=by kernel_rfl
    exact (show Tryz.prog.wantsStandIn t=false by simpa using List.all_eq_true.1 hall t hm)⟩)
  jg5
#print axioms topDisplaced_card
end Go.Proofs.YtphbhdoljnokkaaGreatDoor
