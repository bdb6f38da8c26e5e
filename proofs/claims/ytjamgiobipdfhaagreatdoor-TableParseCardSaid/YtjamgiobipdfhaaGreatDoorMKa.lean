import Derived.Test.YtjamgiobipdfhaaGreatDoorGx
import Derived.Test.YtjamgiobipdfhaaGreatDoorTy
import Derived.Test.YtjamgiobipdfhaaGreatDoorBu
import Derived.Test.YtjamgiobipdfhaaGreatDoorGz
import Derived.Test.YtjamgiobipdfhaaGreatDoorInx
import Derived.Test.YtjamgiobipdfhaaGreatDoorLbe
import Derived.Test.YtjamgiobipdfhaaGreatDoorSzz
import Derived.Test.YtjamgiobipdfhaaGreatDoorMI
import Derived.Test.YtjamgiobipdfhaaGreatDoorMQ
import Derived.Test.YtjamgiobipdfhaaGreatDoorMB
import Derived.Test.YtjamgiobipdfhaaGreatDoorMT
import Derived.Test.YtjamgiobipdfhaaGreatDoorMX
open List renaming length_append → zC,length_cons → zD,length_map → zE,length_nil → zF,map → zG,map_cons → zH,map_nil → zI,replicate → zK,length → zM,all_eq_true → zT
open Nat renaming zero_add → zJ,sub_zero → zR
open Bool renaming eq_false_or_eq_true → zL
open Int renaming toNat_natCast → zN,reduceToNat → zO,reduceLT → zQ,tmod → zS,toNat → zU
open And renaming intro → zP
open Go.IntKind renaming i64 → zV
namespace Go.Proofs.YtjamgiobipdfhaaGreatDoor
open Go.RowKit
open Nat renaming reduceAdd → nA,reduceSub → nS,reduceMul → nM,reduceEqDiff → nE,reduceLeDiff → nL,reduceLT → nT,reduceBEq → nB
open Int renaming reduceLT → iT,reduceToNat → iN,reduceEq → iE
set_option linter.unusedVariables false
set_option linter.unusedSimpArgs false
set_option maxRecDepth 100000
set_option maxHeartbeats 8000000
structure TableLength where
 Number : Int
 Length : Int
 deriving DecidableEq
def encTableLength (x : TableLength) : List D := [.int .i64 x.Number,.int .i64 x.Length]
theorem al_TableLength {l : List TableLength} : (zG encTableLength l).all (λx=>x.length == 2) = true := by simp [zT,encTableLength]
structure ApiPos where
 X : Int
 Y : Int
 Z : Int
 deriving DecidableEq
def encApiPos (x : ApiPos) : List D := [.int .i64 x.X,.int .i64 x.Y,.int .i64 x.Z]
structure Arr6ApiPos where
 e0 : ApiPos
 e1 : ApiPos
 e2 : ApiPos
 e3 : ApiPos
 e4 : ApiPos
 e5 : ApiPos
 deriving DecidableEq
abbrev w6 (W : Arr6ApiPos) (r : List V) : List V := .d (.int .i64 W.e0.X) :: .d (.int .i64 W.e0.Y) :: .d (.int .i64 W.e0.Z) :: .d (.int .i64 W.e1.X) :: .d (.int .i64 W.e1.Y) :: .d (.int .i64 W.e1.Z) :: .d (.int .i64 W.e2.X) :: .d (.int .i64 W.e2.Y) :: .d (.int .i64 W.e2.Z) :: .d (.int .i64 W.e3.X) :: .d (.int .i64 W.e3.Y) :: .d (.int .i64 W.e3.Z) :: .d (.int .i64 W.e4.X) :: .d (.int .i64 W.e4.Y) :: .d (.int .i64 W.e4.Z) :: .d (.int .i64 W.e5.X) :: .d (.int .i64 W.e5.Y) :: .d (.int .i64 W.e5.Z) :: r
def encArr6ApiPos (x : Arr6ApiPos) : List D := [.int .i64 x.e0.X,.int .i64 x.e0.Y,.int .i64 x.e0.Z,.int .i64 x.e1.X,.int .i64 x.e1.Y,.int .i64 x.e1.Z,.int .i64 x.e2.X,.int .i64 x.e2.Y,.int .i64 x.e2.Z,.int .i64 x.e3.X,.int .i64 x.e3.Y,.int .i64 x.e3.Z,.int .i64 x.e4.X,.int .i64 x.e4.Y,.int .i64 x.e4.Z,.int .i64 x.e5.X,.int .i64 x.e5.Y,.int .i64 x.e5.Z]
structure TableTable where
 Work : Arr6ApiPos
 Lengths : (List TableLength)
 deriving DecidableEq
def encTableTable (x : TableTable) : List D := [.int .i64 x.Work.e0.X,.int .i64 x.Work.e0.Y,.int .i64 x.Work.e0.Z,.int .i64 x.Work.e1.X,.int .i64 x.Work.e1.Y,.int .i64 x.Work.e1.Z,.int .i64 x.Work.e2.X,.int .i64 x.Work.e2.Y,.int .i64 x.Work.e2.Z,.int .i64 x.Work.e3.X,.int .i64 x.Work.e3.Y,.int .i64 x.Work.e3.Z,.int .i64 x.Work.e4.X,.int .i64 x.Work.e4.Y,.int .i64 x.Work.e4.Z,.int .i64 x.Work.e5.X,.int .i64 x.Work.e5.Y,.int .i64 x.Work.e5.Z,.list (zG encTableLength x.Lengths)]
structure R45Length where
 Number : Int
 Length : Int
 deriving DecidableEq
def encR45Length (x : R45Length) : List D := [.int .i64 x.Number,.int .i64 x.Length]
theorem al_R45Length {l : List R45Length} : (zG encR45Length l).all (λx=>x.length == 2) = true := by simp [zT,encR45Length]
structure R45Table where
 Work : Arr6ApiPos
 Lengths : (List R45Length)
 deriving DecidableEq
def encR45Table (x : R45Table) : List D := [.int .i64 x.Work.e0.X,.int .i64 x.Work.e0.Y,.int .i64 x.Work.e0.Z,.int .i64 x.Work.e1.X,.int .i64 x.Work.e1.Y,.int .i64 x.Work.e1.Z,.int .i64 x.Work.e2.X,.int .i64 x.Work.e2.Y,.int .i64 x.Work.e2.Z,.int .i64 x.Work.e3.X,.int .i64 x.Work.e3.Y,.int .i64 x.Work.e3.Z,.int .i64 x.Work.e4.X,.int .i64 x.Work.e4.Y,.int .i64 x.Work.e4.Z,.int .i64 x.Work.e5.X,.int .i64 x.Work.e5.Y,.int .i64 x.Work.e5.Z,.list (zG encR45Length x.Lengths)]
theorem ENMK : type_of% (zP @encTableLength.eq_1 <| zP @encApiPos.eq_1 <| zP @encArr6ApiPos.eq_1 <| zP @encTableTable.eq_1 <| zP @encR45Length.eq_1 <| @encR45Table.eq_1) := zP @encTableLength.eq_1 <| zP @encApiPos.eq_1 <| zP @encArr6ApiPos.eq_1 <| zP @encTableTable.eq_1 <| zP @encR45Length.eq_1 <| @encR45Table.eq_1
theorem EMK : type_of% (zP @SE <| @ENMK) := zP @SE <| @ENMK
theorem FMK : type_of% (zP @SF <| @ENMK) := zP @SF <| @ENMK
def tb_far (a0 : ApiPos) : Option Bool := some ((decide ((mmI true (mmI true a0.X a0.Y) a0.Z) > 10000000)) || (decide ((mmI false (mmI false a0.X a0.Y) a0.Z) < (-10000000))))
theorem tb_far_spec {a0 : ApiPos} {y : Bool} (h : tb_far a0 = some y) : Spec gP 30 [.agg [.d (.int .i64 a0.X),.d (.int .i64 a0.Y),.d (.int .i64 a0.Z)]] (.d (.bool y)) := by
 refine spec_mir Tryz.func30 rfl (by kernel_rfl) (by kernel_rfl) (λy : Bool=>.d (.bool y)) ?_ h
 unfold tb_far
 simp only [zK,zM,nS,nA,Tryz.ntmps30,SV]
 refine .sR λe h=>?_
 simp only [seval,EMK]
 refine mU e (.sR λe h=>?_) h
 simp only [seval,EMK,fld_23_0,sz_2,ag_2,fld_23_1,fld_23_2]
 refine mU e (.sR λe h=>?_) h
 simp only [seval,EMK,fld_23_0,sz_2,ag_2,fld_23_1,fld_23_2]
 refine mU e (.seqK (.joinV ([U,U,.d (.bool ((decide ((mmI true (mmI true a0.X a0.Y) a0.Z) > 10000000)) || (decide ((mmI false (mmI false a0.X a0.Y) a0.Z) < (-10000000)))))] ++ us 22) ⟨[[.d (.int .i64 a0.X),.d (.int .i64 a0.Y),.d (.int .i64 a0.Z)]],[]⟩ rfl ?_ ?_)) h
 refine SWs.region ?_
 rcases zL (decide ((mmI true (mmI true a0.X a0.Y) a0.Z) > 10000000)) with hb1 | hb1
 simp only [seval,EMK,SL,PB,hb1]
 simp only [seval,EMK,SL,PB,hb1]
 refine Mir.toK (.ret λe h=>?_)
 cases h
 simp only [seval,FMK,Tryz.results30]
def tb_entry (a0 : TableLength) : Option Bool := some ((decide (a0.Number ≥ 1)) && ((decide (a0.Number ≤ 999)) && ((decide (a0.Length ≥ 0)) && (decide (a0.Length ≤ 10000000)))))
theorem tb_entry_spec {a0 : TableLength} {y : Bool} (h : tb_entry a0 = some y) : Spec gP 32 [.agg [.d (.int .i64 a0.Number),.d (.int .i64 a0.Length)]] (.d (.bool y)) := by
 refine spec_mir Tryz.func32 rfl (by kernel_rfl) (by kernel_rfl) (λy : Bool=>.d (.bool y)) ?_ h
 unfold tb_entry
 simp only [zK,zM,nS,nA,Tryz.ntmps32,SV]
 refine .sR λe h=>?_
 simp only [seval,EMK]
 refine mU e (.seqK (.joinV ([U,U,.d (.bool ((decide (a0.Number ≥ 1)) && ((decide (a0.Number ≤ 999)) && ((decide (a0.Length ≥ 0)) && (decide (a0.Length ≤ 10000000))))))] ++ us 18) ⟨[[.d (.int .i64 a0.Number),.d (.int .i64 a0.Length)]],[]⟩ rfl ?_ ?_)) h
 refine SWs.region ?_
 rcases zL (decide (a0.Number ≥ 1)) with hb1 | hb1
 rcases zL (decide (a0.Number ≤ 999)) with hb2 | hb2
 rcases zL (decide (a0.Length ≥ 0)) with hb3 | hb3
 simp only [seval,EMK,SL,PB,fld_65_0,sz_2,ag_2,fld_65_1,hb1,hb2,hb3]
 simp only [seval,EMK,SL,PB,fld_65_0,sz_2,ag_2,fld_65_1,hb1,hb2,hb3]
 simp only [seval,EMK,SL,PB,fld_65_0,sz_2,ag_2,hb1,hb2]
 simp only [seval,EMK,SL,PB,fld_65_0,sz_2,ag_2,hb1]
 refine Mir.toK (.ret λe h=>?_)
 cases h
 simp only [seval,FMK,Tryz.results32]
def tb_Valid (a0 : TableTable) : Option Int := bindO (bindO (bindX (bindO (tb_far a0.Work.e0) λ(y1 : Bool)=>if y1 = true then some (.ret 0) else bindO (tb_far a0.Work.e1) λ(y2 : Bool)=>if y2 = true then some (.ret 1) else bindO (tb_far a0.Work.e2) λ(y3 : Bool)=>if y3 = true then some (.ret 2) else bindO (tb_far a0.Work.e3) λ(y4 : Bool)=>if y4 = true then some (.ret 3) else bindO (tb_far a0.Work.e4) λ(y5 : Bool)=>if y5 = true then some (.ret 4) else bindO (tb_far a0.Work.e5) λ(y6 : Bool)=>if y6 = true then some (.ret 5) else some (.go ())) λ(v1 : Unit)=>some (-1)) λ(v2 : Int)=>some (decide (v2 ≥ 0))) λ(v3 : Bool)=>if v3 = true then some 1 else bindX (guardO (okIdx a0.Lengths) ( rangeX (λ(i1 : Nat) (e1 : TableLength) (v4 : Unit)=>bindO (bindO (tb_entry e1) λ(y7 : Bool)=>if y7 = true then if (decide ((i1 : Int) > 0)) = true then bindO (gt a0.Lengths (zV.wrap ((i1 : Int) - 1))) λ(e2 : TableLength)=>some (decide (e2.Number ≥ e1.Number)) else some false else some true) λ(v5 : Bool)=>if v5 = true then some (.ret (.ret 1)) else some (.go ())) (λ(v4 : Unit)=>some (.go ())) a0.Lengths 0 ())) λ(v6 : Unit)=>some 0
theorem tb_Valid_spec {a0 : TableTable} {y : Int} (h : tb_Valid a0 = some y) : Spec gP 17 [.agg (w6 a0.Work [.d (.list (zG encTableLength a0.Lengths))])] (.d (.int .i64 y)) := by
 refine spec_mir Tryz.func17 rfl (by kernel_rfl) (by kernel_rfl) (λy : Int=>.d (.int .i64 y)) ?_ h
 unfold tb_Valid
 simp only [zK,zM,nS,nA,Tryz.ntmps17,SV]
 refine .sR λe h=>?_
 simp only [seval,EMK]
 refine mU e (.seqK (.seqK (.bind λv3 hv62=>.region λe h=>?_))) h
 simp only [seval,EMK,fld_34_0,sz_24,und_24,sz_23]
 refine SpecS.inl Tryz.func37 rfl (by kernel_rfl) (by kernel_rfl) (λv3 : Bool=>.d (.bool v3)) (λv3=>⟨[(w6 a0.Work [.d (.list (zG encTableLength a0.Lengths))])],[]⟩) hv62 rfl ?_ ?_
 simp only [zK,zM,nS,nA,Tryz.ntmps37,SV]
 refine .sR λe h=>?_
 simp only [seval,EMK]
 refine mU e (.seqK (.bind λv2 h1=>.region λe h=>?_)) h
 simp only [seval,EMK]
 refine SpecS.inl Tryz.func63 rfl (by kernel_rfl) (by kernel_rfl) (λv2 : Int=>.d (.int .i64 v2)) (λv2=>⟨[(w6 a0.Work [.d (.list (zG encTableLength a0.Lengths))])],[]⟩) h1 rfl ?_ ?_
 simp only [zK,zM,nS,nA,Tryz.ntmps63,SV]
 refine .sR λe h=>?_
 simp only [seval,EMK]
 refine mU e (.seqK (.sR λe h=>?_)) h
 simp only [seval,EMK,und_88,(nr rfl : ((6 : Nat) : Int) = 6)]
 refine mU e (Mir.join (λv1 : Unit=>(us 19)) (λv1=>⟨[(w6 a0.Work [.d (.list (zG encTableLength a0.Lengths))])],[]⟩) (λ_=>rfl) ?_ ?_) h
 refine .block (.loopR 15 (.sR λe h=>?_))
 simp only [seval,EMK]
 refine mU e (.seqK (.condT rfl (.skip (Mir.toK (.seqK (.block (.sR λe h=>?_))))))) h
 simp only [seval,EMK]
 refine mU e (.seqK (.bind λy1 h2=>.region λe h=>?_)) h
 simp only [seval,EMK,und_88,sz_23,ag_23]
 refine SpecS.by (tb_far_spec h2) (by simp only [seval,FMK]) ?_
 simp only [seval,EMK]
 refine mU e (.cond rfl (λh3=>?_) (λh3=>?_)) h
 refine .sR λe h=>?_
 simp only [seval,EMK]
 refine mU e (.ret λe h=>?_) h
 cases h
 simp only [seval,FMK,Tryz.results63]
 refine .skip (Mir.toB (Mir.toK (.region λe h=>?_)))
 simp only [seval,EMK,(nr rfl : zV.wrap 1 = 1)]
 refine Mir.useN (e := e) ?_ h
 refine .sR λe h=>?_
 simp only [seval,EMK]
 refine mU e (.seqK (.condT rfl (.skip (Mir.toK (.seqK (.block (.sR λe h=>?_))))))) h
 simp only [seval,EMK]
 refine mU e (.seqK (.bind λy2 h4=>.region λe h=>?_)) h
 simp only [seval,EMK,und_88,sz_23,ag_23]
 refine SpecS.by (tb_far_spec h4) (by simp only [seval,FMK]) ?_
 simp only [seval,EMK]
 refine mU e (.cond rfl (λh5=>?_) (λh5=>?_)) h
 refine .sR λe h=>?_
 simp only [seval,EMK]
 refine mU e (.ret λe h=>?_) h
 cases h
 simp only [seval,FMK,Tryz.results63]
 refine .skip (Mir.toB (Mir.toK (.region λe h=>?_)))
 simp only [seval,EMK,(nr rfl : zV.wrap 2 = 2)]
 refine Mir.useN (e := e) ?_ h
 refine .sR λe h=>?_
 simp only [seval,EMK]
 refine mU e (.seqK (.condT rfl (.skip (Mir.toK (.seqK (.block (.sR λe h=>?_))))))) h
 simp only [seval,EMK]
 refine mU e (.seqK (.bind λy3 h6=>.region λe h=>?_)) h
 simp only [seval,EMK,und_88,sz_23,ag_23]
 refine SpecS.by (tb_far_spec h6) (by simp only [seval,FMK]) ?_
 simp only [seval,EMK]
 refine mU e (.cond rfl (λh7=>?_) (λh7=>?_)) h
 refine .sR λe h=>?_
 simp only [seval,EMK]
 refine mU e (.ret λe h=>?_) h
 cases h
 simp only [seval,FMK,Tryz.results63]
 refine .skip (Mir.toB (Mir.toK (.region λe h=>?_)))
 simp only [seval,EMK,(nr rfl : zV.wrap 3 = 3)]
 refine Mir.useN (e := e) ?_ h
 refine .sR λe h=>?_
 simp only [seval,EMK]
 refine mU e (.seqK (.condT rfl (.skip (Mir.toK (.seqK (.block (.sR λe h=>?_))))))) h
 simp only [seval,EMK]
 refine mU e (.seqK (.bind λy4 h8=>.region λe h=>?_)) h
 simp only [seval,EMK,und_88,sz_23,ag_23]
 refine SpecS.by (tb_far_spec h8) (by simp only [seval,FMK]) ?_
 simp only [seval,EMK]
 refine mU e (.cond rfl (λh9=>?_) (λh9=>?_)) h
 refine .sR λe h=>?_
 simp only [seval,EMK]
 refine mU e (.ret λe h=>?_) h
 cases h
 simp only [seval,FMK,Tryz.results63]
 refine .skip (Mir.toB (Mir.toK (.region λe h=>?_)))
 simp only [seval,EMK,(nr rfl : zV.wrap 4 = 4)]
 refine Mir.useN (e := e) ?_ h
 refine .sR λe h=>?_
 simp only [seval,EMK]
 refine mU e (.seqK (.condT rfl (.skip (Mir.toK (.seqK (.block (.sR λe h=>?_))))))) h
 simp only [seval,EMK]
 refine mU e (.seqK (.bind λy5 h10=>.region λe h=>?_)) h
 simp only [seval,EMK,und_88,sz_23,ag_23]
 refine SpecS.by (tb_far_spec h10) (by simp only [seval,FMK]) ?_
 simp only [seval,EMK]
 refine mU e (.cond rfl (λh11=>?_) (λh11=>?_)) h
 refine .sR λe h=>?_
 simp only [seval,EMK]
 refine mU e (.ret λe h=>?_) h
 cases h
 simp only [seval,FMK,Tryz.results63]
 refine .skip (Mir.toB (Mir.toK (.region λe h=>?_)))
 simp only [seval,EMK,(nr rfl : zV.wrap 5 = 5)]
 refine Mir.useN (e := e) ?_ h
 refine .sR λe h=>?_
 simp only [seval,EMK]
 refine mU e (.seqK (.condT rfl (.skip (Mir.toK (.seqK (.block (.sR λe h=>?_))))))) h
 simp only [seval,EMK]
 refine mU e (.seqK (.bind λy6 h12=>.region λe h=>?_)) h
 simp only [seval,EMK,und_88,sz_23,ag_23]
 refine SpecS.by (tb_far_spec h12) (by simp only [seval,FMK]) ?_
 simp only [seval,EMK]
 refine mU e (.cond rfl (λh13=>?_) (λh13=>?_)) h
 refine .sR λe h=>?_
 simp only [seval,EMK]
 refine mU e (.ret λe h=>?_) h
 cases h
 simp only [seval,FMK,Tryz.results63]
 refine .skip (Mir.toB (Mir.toK (.region λe h=>?_)))
 simp only [seval,EMK,(nr rfl : zV.wrap 6 = 6)]
 refine Mir.useN (e := e) ?_ h
 refine .sR λe h=>?_
 simp only [seval,EMK]
 refine mU e (.seqK (.condF rfl (.exit λe h=>?_))) h
 cases h
 simp only [seval,FMK,Tryz.results63]
 intro v1
 refine Mir.toK (.sR λe h=>?_)
 simp only [seval,EMK]
 refine mU e (.ret λe h=>?_) h
 cases h
 simp only [seval,FMK,Tryz.results63]
 simp only [seval,EMK]
 refine mU e (.ret λe h=>?_) h
 cases h
 simp only [seval,FMK,Tryz.results37]
 simp only [seval,EMK]
 refine mU e (.cond rfl (λh14=>?_) (λh14=>?_)) h
 refine .sR λe h=>?_
 simp only [seval,EMK]
 refine mU e (.ret λe h=>?_) h
 cases h
 simp only [seval,FMK,Tryz.results17]
 refine .skip (Mir.toK (.seqK (.sR λe h=>?_)))
 simp only [seval,EMK,fld_34_1,sz_32,ag_32,und_32]
 refine mU e (Mir.join (λv6 : Unit=>(us 36)) (λv6=>⟨[(w6 a0.Work [.d (.list (zG encTableLength a0.Lengths))])],[]⟩) (λ_=>rfl) ?_ ?_) h
 refine .block (.guard λq1=>Mir.range (λ(i1 : Nat) (v4 : Unit)=>([U,.ptr 0 0,U,U,U,U,U,U,U,.d (.list (zG encTableLength a0.Lengths)),.d (.int .i64 (a0.Lengths.length : Int)),.d (.int .i64 (i1 : Int))] ++ us 24)) (λi1 v4=>⟨[(w6 a0.Work [.d (.list (zG encTableLength a0.Lengths))])],[]⟩) q1 (λ_ _=>rfl) (by simp only [seval,FMK,zNI]) (by simp only [seval,FMK,zNI]) ?_ ?_)
 intro i1 e1 v4 q2
 refine .sR λe h=>?_
 simp only [seval,EMK,q2]
 refine mU e (.seqK (.condT rfl (.skip (Mir.toK (.seqK (.block (.sR λe h=>?_))))))) h
 simp only [seval,EMK,und_32,sz_65,q2,zN,ag_65,zero_65]
 refine mU e (.seqK (Mir.joinO (λv5 : Bool=>[U,.ptr 0 0,U,U,U,U,U,U,U,.d (.list (zG encTableLength a0.Lengths)),.d (.int .i64 (a0.Lengths.length : Int)),.d (.int .i64 (i1 : Int)),U,U,U,U,U,U,U,U,U,U,U,U,U,U,U,U,U,U,U,U,U,U,.d (.bool v5),U]) (λv5=>⟨[(w6 a0.Work [.d (.list (zG encTableLength a0.Lengths))]),[.d (.int .i64 e1.Number),.d (.int .i64 e1.Length)]],[]⟩) (λ_=>rfl) ?_ ?_)) h
 refine .bind λy7 h15=>.ite (λh16=>?_) (λh16=>?_)
 refine .ite (λh17=>?_) (λh17=>?_)
 refine .bind λe2 q3=>?_
 replace q3 := gt_ok q3
 refine .regionD [] (by kernel_rfl) λe h=>?_
 simp only [seval,EMK,SB,ag_65,sz_65,h16,h17]
 refine Spec.by (tb_entry_spec h15) (by simp only [seval,FMK,h16,h17]) ?_
 simp only [seval,EMK,SB,fld_34_1,sz_32,ag_32,und_32,sz_65,q3,fld_65_0,sz_2,ag_2,h16,h17]
 cases h
 simp only [seval,FMK,h16,h17]
 refine .regionD [] (by kernel_rfl) λe h=>?_
 simp only [seval,EMK,SB,ag_65,sz_65,h16,h17]
 refine Spec.by (tb_entry_spec h15) (by simp only [seval,FMK,h16,h17]) ?_
 simp only [seval,EMK,SB,h16,h17]
 cases h
 simp only [seval,FMK,h16,h17]
 refine .regionD [] (by kernel_rfl) λe h=>?_
 simp only [seval,EMK,SB,ag_65,sz_65,h16]
 refine Spec.by (tb_entry_spec h15) (by simp only [seval,FMK,h16]) ?_
 simp only [seval,EMK,SB,h16]
 cases h
 simp only [seval,FMK,h16]
 intro v5
 refine Mir.toK (.cond rfl (λh18=>?_) (λh18=>?_))
 refine .sR λe h=>?_
 simp only [seval,EMK]
 refine mU e (.ret λe h=>?_) h
 cases h
 simp only [seval,FMK,Tryz.results17]
 refine .skip (Mir.toB (Mir.toK (.region λe h=>?_)))
 simp only [seval,EMK]
 cases h
 simp only [seval,FMK,Tryz.results17,q2]
 intro v4 q4
 refine .sR λe h=>?_
 simp only [seval,EMK,q4]
 refine mU e (.seqK (.condF rfl (.exit λe h=>?_))) h
 cases h
 simp only [seval,FMK,Tryz.results17]
 intro v6
 refine Mir.toK (.sR λe h=>?_)
 simp only [seval,EMK]
 refine mU e (.ret λe h=>?_) h
 cases h
 simp only [seval,FMK,Tryz.results17]
def tb_slot (a0 : Int) : Option (Int × Int) := if (((zS a0 1000) != 0) || ((decide (a0 < 54000)) || (decide (a0 > 59000)))) = true then some (0,4) else some (zV.wrap ((zV.wrap (Int.tdiv a0 1000)) - 54),0)
theorem tb_slot_spec {a0 : Int} {y : Int × Int} (h : tb_slot a0 = some y) : Spec gP 29 [.d (.int .i64 a0)] (.tuple [.d (.int .i64 y.1),.d (.int .i64 y.2)]) := by
 refine spec_mir Tryz.func29 rfl (by kernel_rfl) (by kernel_rfl) (λy : Int × Int=>.tuple [.d (.int .i64 y.1),.d (.int .i64 y.2)]) ?_ h
 unfold tb_slot
 simp only [zK,zM,nS,nA,Tryz.ntmps29,SV]
 refine .sR λe h=>?_
 simp only [seval,EMK]
 refine mU e (.seqK (.seqK (.joinV [.d (.int .i64 a0),U,U,U,U,U,U,U,U,U,U,U,U,U,.d (.bool (((zS a0 1000) != 0) || ((decide (a0 < 54000)) || (decide (a0 > 59000))))),U,U,U] ⟨[],[]⟩ rfl ?_ ?_))) h
 refine SWs.region ?_
 rcases zL ((zS a0 1000) != 0) with hb1 | hb1
 simp only [seval,EMK,SL,PB,hb1]
 rcases zL (decide (a0 < 54000)) with hb2 | hb2
 simp only [seval,EMK,SL,PB,hb1,hb2]
 simp only [seval,EMK,SL,PB,hb1,hb2]
 refine Mir.toK (.cond rfl (λhb4=>?_) (λhb4=>?_))
 refine .sR λe h=>?_
 simp only [seval,EMK]
 refine mU e (.ret λe h=>?_) h
 cases h
 simp only [seval,FMK,Tryz.results29]
 refine .skip (Mir.toK (.sR λe h=>?_))
 simp only [seval,EMK]
 refine mU e (.ret λe h=>?_) h
 cases h
 simp only [seval,FMK,Tryz.results29]
def slices_Clone_table_Length_table_Length (a0 : List TableLength) : Option (List TableLength) := guardO (okLen a0.length) (some a0)
theorem slices_Clone_table_Length_table_Length_n {c0 : Nat} {y : List TableLength} (h : (some []) = some y) : Spec gP 56 [.d (.other (.slice none 0 c0))] (.d (.list (zG encTableLength y))) := by
 refine spec_mir Tryz.func56 rfl (by kernel_rfl) (by kernel_rfl) (λy : List TableLength=>.d (.list (zG encTableLength y))) ?_ h
 simp only [zK,zM,nS,nA,Tryz.ntmps56,SV]
 refine .sR λe h=>?_
 simp only [seval,EMK]
 refine mU e (.seqK (.sR λe h=>?_)) h
 simp only [seval,EMK,und_32]
 refine mU e (.condT rfl (.sR λe h=>?_)) h
 simp only [seval,EMK]
 refine mU e (.ret λe h=>?_) h
 cases h
 simp only [seval,FMK,Tryz.results56]
theorem slices_Clone_table_Length_table_Length_o {p0 : Addr} {c0 : Nat} {y : List TableLength} (h : (some []) = some y) : Spec gP 56 [.d (.other (.slice (some p0) 0 c0))] (.d (.list (zG encTableLength y))) := by
 refine spec_mir Tryz.func56 rfl (by kernel_rfl) (by kernel_rfl) (λy : List TableLength=>.d (.list (zG encTableLength y))) ?_ h
 simp only [zK,zM,nS,nA,Tryz.ntmps56,SV]
 refine .sR λe h=>?_
 simp only [seval,EMK]
 refine mU e (.seqK (.sR λe h=>?_)) h
 simp only [seval,EMK,und_32]
 refine mU e (.condF rfl (.skip (Mir.toK (.sR λe h=>?_)))) h
 simp only [seval,EMK,und_32,sz_65,zero_65,(oL 0),app_32,al_TableLength,List.all_cons,List.all_nil]
 refine mU e (.ret λe h=>?_) h
 cases h
 simp only [seval,FMK,Tryz.results56]
theorem slices_Clone_table_Length_table_Length_c {x0 : TableLength} {l0 : List TableLength} {y : List TableLength} (h : (guardO (okLen ((x0 :: l0).length)) (   some (x0 :: l0))) = some y) : Spec gP 56 [.d (.list (zG encTableLength (x0 :: l0)))] (.d (.list (zG encTableLength y))) := by
 refine spec_mir Tryz.func56 rfl (by kernel_rfl) (by kernel_rfl) (λy : List TableLength=>.d (.list (zG encTableLength y))) ?_ h
 simp only [zK,zM,nS,nA,Tryz.ntmps56,SV]
 refine .sR λe h=>?_
 simp only [seval,EMK]
 refine mU e (.seqK (.sR λe h=>?_)) h
 simp only [seval,EMK,und_32]
 refine mU e (.condF rfl (.skip (Mir.toK (.seqK (.guard λq1=>.region λe h=>?_))))) h
 simp only [seval,EMK,und_32,sz_65,zero_65,(oL 0),app_32,al_TableLength,q1]
 refine mU e (.ret λe h=>?_) h
 cases h
 simp only [seval,FMK,Tryz.results56]
theorem slices_Clone_table_Length_table_Length_spec {a0 : List TableLength} {y : List TableLength} (h : slices_Clone_table_Length_table_Length a0 = some y) : Spec gP 56 [.d (.list (zG encTableLength a0))] (.d (.list (zG encTableLength y))) := by
 obtain ⟨hl,h⟩ := guardO_some h
 cases h
 cases a0 with
 | nil =>
  refine Spec.nilcase λA c=>?_
  cases A with
  | none=>exact slices_Clone_table_Length_table_Length_n rfl
  | some p=>exact slices_Clone_table_Length_table_Length_o rfl
 | cons x l=>exact slices_Clone_table_Length_table_Length_c (by simp only [guardO,hl])
theorem slices_Clone_table_Length_table_Length_Yn {c0 : Nat} {y : List TableLength} (h : (some []) = some y) : SpecY gP 56 [.d (.other (.slice none 0 c0))] 65 (zG encTableLength y) := by
 refine specY_mir Tryz.func56 rfl (by kernel_rfl) (by kernel_rfl) (λy : List TableLength=>zG encTableLength y) (sc_map (λ_=>rfl) _) ?_ h
 simp only [zK,zM,nS,nA,Tryz.ntmps56,SV]
 refine .sR λe h=>?_
 simp only [seval,EMK]
 refine mU e (.seqK (.sR λe h=>?_)) h
 simp only [seval,EMK,und_32]
 refine mU e (.condT rfl (.sR λe h=>?_)) h
 simp only [seval,EMK]
 refine mU e (.ret λe h=>?_) h
 cases h
 simp only [seval,FMK,Tryz.results56,fy_r,fy_n,yr_o,yr_n]
theorem slices_Clone_table_Length_table_Length_Yo {p0 : Addr} {c0 : Nat} {y : List TableLength} (h : (some []) = some y) : SpecY gP 56 [.d (.other (.slice (some p0) 0 c0))] 65 (zG encTableLength y) := by
 refine specY_mir Tryz.func56 rfl (by kernel_rfl) (by kernel_rfl) (λy : List TableLength=>zG encTableLength y) (sc_map (λ_=>rfl) _) ?_ h
 simp only [zK,zM,nS,nA,Tryz.ntmps56,SV]
 refine .sR λe h=>?_
 simp only [seval,EMK]
 refine mU e (.seqK (.sR λe h=>?_)) h
 simp only [seval,EMK,und_32]
 refine mU e (.condF rfl (.skip (Mir.toK (.seqK (.regionW λe h=>regW.alt 0 rfl ?_))))) h
 simp only [seval,EMK,w_none,w_eq]
 refine alt_emptyOwn app_32 (regW.of ?_)
 simp only [seval,EMK,w_none,w_eq,und_32,sz_65,zero_65,(oL 0),app_32,al_TableLength]
 refine mU e (.ret λe h=>?_) h
 cases h
 simp only [seval,FMK,Tryz.results56,fy_r,fy_n,yr_o,yr_n]
theorem slices_Clone_table_Length_table_Length_Yc {x0 : TableLength} {l0 : List TableLength} {y : List TableLength} (h : (guardO (okLen (0 + (x0 :: l0).length)) (   some ([] ++ (x0 :: l0)))) = some y) : SpecY gP 56 [.d (.list (zG encTableLength (x0 :: l0)))] 65 (zG encTableLength y) := by
 refine specY_mir Tryz.func56 rfl (by kernel_rfl) (by kernel_rfl) (λy : List TableLength=>zG encTableLength y) (sc_map (λ_=>rfl) _) ?_ h
 simp only [zK,zM,nS,nA,Tryz.ntmps56,SV]
 refine .sR λe h=>?_
 simp only [seval,EMK]
 refine mU e (.seqK (.sR λe h=>?_)) h
 simp only [seval,EMK,und_32]
 refine mU e (.condF rfl (.skip (Mir.toK (.seqK (.guard λq1=>.regionW λe h=>regW.alt 0 rfl ?_))))) h
 simp only [seval,EMK,w_none,w_eq]
 refine alt_emptyOwn app_32 (regW.of ?_)
 simp only [seval,EMK,w_none,w_eq,und_32,sz_65,zero_65,(oL 0),app_32,al_TableLength,q1]
 refine mU e (.ret λe h=>?_) h
 cases h
 simp only [seval,FMK,Tryz.results56,fy_r,fy_n,yr_o,yr_n]
theorem slices_Clone_table_Length_table_Length_specY {a0 : List TableLength} {y : List TableLength} (h : slices_Clone_table_Length_table_Length a0 = some y) : SpecY gP 56 [.d (.list (zG encTableLength a0))] 65 (zG encTableLength y) := by
 obtain ⟨hl,h⟩ := guardO_some h
 cases h
 cases a0 with
 | nil =>
  refine SpecY.nilcase λA c=>?_
  cases A with
  | none=>exact slices_Clone_table_Length_table_Length_Yn rfl
  | some p=>exact slices_Clone_table_Length_table_Length_Yo rfl
 | cons x l=>exact slices_Clone_table_Length_table_Length_Yc (by simp only [guardO,zJ,List.nil_append,hl])
def tb_clone (a0 : TableTable) : Option TableTable := bindO (slices_Clone_table_Length_table_Length a0.Lengths) λ(y1 : (List TableLength))=>some (TableTable.mk a0.Work y1)
theorem tb_clone_spec {a0 : TableTable} {y : TableTable} (h : tb_clone a0 = some y) : Spec gP 31 [.agg (w6 a0.Work [.d (.list (zG encTableLength a0.Lengths))])] (.agg (w6 y.Work [.d (.list (zG encTableLength y.Lengths))])) := by
 refine spec_mir Tryz.func31 rfl (by kernel_rfl) (by kernel_rfl) (λy : TableTable=>.agg (w6 y.Work [.d (.list (zG encTableLength y.Lengths))])) ?_ h
 unfold tb_clone
 simp only [zK,zM,nS,nA,Tryz.ntmps31,SV]
 refine .sR λe h=>?_
 simp only [seval,EMK,zero_34]
 refine mU e (.seqK (.bind λy1 hy1=>.region λe h=>?_)) h
 simp only [seval,EMK,fld_34_1,sz_32,ag_32]
 refine SpecS.by (slices_Clone_table_Length_table_Length_spec hy1) (by simp only [seval,FMK]) ?_
 simp only [seval,EMK,fld_34_1,sz_32]
 refine mU e (.sR λe h=>?_) h
 simp only [seval,EMK,ag_34,sz_34]
 refine mU e (.ret λe h=>?_) h
 cases h
 simp only [seval,FMK,Tryz.results31,ag_34,sz_34]
def tb_SetWork (a0 : TableTable) (a1 : Int) (a2 : ApiPos) : Option (TableTable × Int) := bindO (tb_Valid (TableTable.mk a0.Work a0.Lengths)) λ(y1 : Int)=>if (y1 != 0) = true then some (TableTable.mk (Arr6ApiPos.mk (ApiPos.mk 0 0 0) (ApiPos.mk 0 0 0) (ApiPos.mk 0 0 0) (ApiPos.mk 0 0 0) (ApiPos.mk 0 0 0) (ApiPos.mk 0 0 0)) [],y1) else bindO (tb_slot a1) λ(y2 : Int × Int)=>if (y2.2 != 0) = true then some (TableTable.mk (Arr6ApiPos.mk (ApiPos.mk 0 0 0) (ApiPos.mk 0 0 0) (ApiPos.mk 0 0 0) (ApiPos.mk 0 0 0) (ApiPos.mk 0 0 0) (ApiPos.mk 0 0 0)) [],y2.2) else bindO (tb_far a2) λ(y3 : Bool)=>if y3 = true then some (TableTable.mk (Arr6ApiPos.mk (ApiPos.mk 0 0 0) (ApiPos.mk 0 0 0) (ApiPos.mk 0 0 0) (ApiPos.mk 0 0 0) (ApiPos.mk 0 0 0) (ApiPos.mk 0 0 0)) [],11) else bindO (tb_clone a0) λ(y4 : TableTable)=>bindO (guardO (decide (0 ≤ y2.1 ∧ y2.1 < 6)) ( if (y2.1 == 0) = true then some (TableTable.mk (Arr6ApiPos.mk a2 y4.Work.e1 y4.Work.e2 y4.Work.e3 y4.Work.e4 y4.Work.e5) y4.Lengths) else if (y2.1 == 1) = true then some (TableTable.mk (Arr6ApiPos.mk y4.Work.e0 a2 y4.Work.e2 y4.Work.e3 y4.Work.e4 y4.Work.e5) y4.Lengths) else if (y2.1 == 2) = true then some (TableTable.mk (Arr6ApiPos.mk y4.Work.e0 y4.Work.e1 a2 y4.Work.e3 y4.Work.e4 y4.Work.e5) y4.Lengths) else if (y2.1 == 3) = true then some (TableTable.mk (Arr6ApiPos.mk y4.Work.e0 y4.Work.e1 y4.Work.e2 a2 y4.Work.e4 y4.Work.e5) y4.Lengths) else if (y2.1 == 4) = true then some (TableTable.mk (Arr6ApiPos.mk y4.Work.e0 y4.Work.e1 y4.Work.e2 y4.Work.e3 a2 y4.Work.e5) y4.Lengths) else some (TableTable.mk (Arr6ApiPos.mk y4.Work.e0 y4.Work.e1 y4.Work.e2 y4.Work.e3 y4.Work.e4 a2) y4.Lengths))) λ(v1 : TableTable)=>some (v1,0)
theorem tb_SetWork_spec {a0 : TableTable} {a1 : Int} {a2 : ApiPos} {y : TableTable × Int} (h : tb_SetWork a0 a1 a2 = some y) : Spec gP 14 [.agg (w6 a0.Work [.d (.list (zG encTableLength a0.Lengths))]),.d (.int .i64 a1),.agg [.d (.int .i64 a2.X),.d (.int .i64 a2.Y),.d (.int .i64 a2.Z)]] (.tuple [.agg (w6 y.1.Work [.d (.list (zG encTableLength y.1.Lengths))]),.d (.int .i64 y.2)]) := by
 refine spec_mir Tryz.func14 rfl (by kernel_rfl) (by kernel_rfl) (λy : TableTable × Int=>.tuple [.agg (w6 y.1.Work [.d (.list (zG encTableLength y.1.Lengths))]),.d (.int .i64 y.2)]) ?_ h
 unfold tb_SetWork
 simp only [zK,zM,nS,nA,Tryz.ntmps14,SV]
 refine .sR λe h=>?_
 simp only [seval,EMK,zero_34]
 refine mU e (.seqK (.seqK (.bind λy1 hy1=>.region λe h=>?_))) h
 simp only [seval,EMK,ag_34,sz_34]
 refine SpecS.by (tb_Valid_spec hy1) (by simp only [seval,FMK]) ?_
 simp only [seval,EMK]
 refine mU e (.sR λe h=>?_) h
 simp only [seval,EMK]
 refine mU e (.cond rfl (λhb3=>?_) (λhb3=>?_)) h
 refine .sR λe h=>?_
 simp only [seval,EMK,zero_34,pl_34,sz_34]
 refine mU e (.ret λe h=>?_) h
 cases h
 simp only [seval,FMK,Tryz.results14,ag_34,sz_34]
 refine .skip (Mir.toK (.seqK (.bind λy2 hy4=>.region λe h=>?_)))
 simp only [seval,EMK]
 refine SpecS.by (tb_slot_spec hy4) (by simp only [seval,FMK]) ?_
 simp only [seval,EMK]
 refine mU e (.seqK (.sR λe h=>?_)) h
 simp only [seval,EMK]
 refine mU e (.cond rfl (λhb6=>?_) (λhb6=>?_)) h
 refine .sR λe h=>?_
 simp only [seval,EMK,zero_34,pl_34,sz_34]
 refine mU e (.ret λe h=>?_) h
 cases h
 simp only [seval,FMK,Tryz.results14,ag_34,sz_34]
 refine .skip (Mir.toK (.seqK (.seqK (.bind λy3 hy7=>.region λe h=>?_))))
 simp only [seval,EMK,ag_23,sz_23]
 refine SpecS.by (tb_far_spec hy7) (by simp only [seval,FMK]) ?_
 simp only [seval,EMK]
 refine mU e (.cond rfl (λhb9=>?_) (λhb9=>?_)) h
 refine .sR λe h=>?_
 simp only [seval,EMK,zero_34,pl_34,sz_34]
 refine mU e (.ret λe h=>?_) h
 cases h
 simp only [seval,FMK,Tryz.results14,ag_34,sz_34]
 refine .skip (Mir.toK (.seqK (.bind λy4 hy10=>.region λe h=>?_)))
 simp only [seval,EMK,ag_34,sz_34]
 refine SpecS.by (tb_clone_spec hy10) (by simp only [seval,FMK]) ?_
 simp only [seval,EMK,zero_34,sz_34]
 refine mU e (.seqK (Mir.joinO (λv1 : TableTable=>([U,U,U,U,U,U,.ptr 2 0,U,U,U,U,.ptr 3 0] ++ us 25)) (λv1=>⟨[(w6 a0.Work [.d (.list (zG encTableLength a0.Lengths))]),[.d (.int .i64 a2.X),.d (.int .i64 a2.Y),.d (.int .i64 a2.Z)],[.d (.int .i64 0),.d (.int .i64 0),.d (.int .i64 0),.d (.int .i64 0),.d (.int .i64 0),.d (.int .i64 0),.d (.int .i64 0),.d (.int .i64 0),.d (.int .i64 0),.d (.int .i64 0),.d (.int .i64 0),.d (.int .i64 0),.d (.int .i64 0),.d (.int .i64 0),.d (.int .i64 0),.d (.int .i64 0),.d (.int .i64 0),.d (.int .i64 0),.nil],(w6 v1.Work [.d (.list (zG encTableLength v1.Lengths))])],[]⟩) (λ_=>rfl) ?_ ?_)) h
 refine .guard λqi11=>.ite (λhb12=>?_) (λhb12=>?_)
 refine .region λe h=>?_
 simp only [seval,EMK,ag_23,sz_23,fld_34_0,sz_24,und_24,(eq_of_beq hb12),hb12]
 cases h
 simp only [seval,FMK,hb12]
 refine .ite (λhb13=>?_) (λhb13=>?_)
 refine .region λe h=>?_
 simp only [seval,EMK,ag_23,sz_23,fld_34_0,sz_24,und_24,(eq_of_beq hb13),hb12,hb13]
 cases h
 simp only [seval,FMK,hb12,hb13]
 refine .ite (λhb14=>?_) (λhb14=>?_)
 refine .region λe h=>?_
 simp only [seval,EMK,ag_23,sz_23,fld_34_0,sz_24,und_24,(eq_of_beq hb14),hb12,hb13,hb14]
 cases h
 simp only [seval,FMK,hb12,hb13,hb14]
 refine .ite (λhb15=>?_) (λhb15=>?_)
 refine .region λe h=>?_
 simp only [seval,EMK,ag_23,sz_23,fld_34_0,sz_24,und_24,(eq_of_beq hb15),hb12,hb13,hb14,hb15]
 cases h
 simp only [seval,FMK,hb12,hb13,hb14,hb15]
 refine .ite (λhb16=>?_) (λhb16=>?_)
 refine .region λe h=>?_
 simp only [seval,EMK,ag_23,sz_23,fld_34_0,sz_24,und_24,(eq_of_beq hb16),hb12,hb13,hb14,hb15,hb16]
 cases h
 simp only [seval,FMK,hb12,hb13,hb14,hb15,hb16]
 have hz17 : y2.1 = 5 := by have h0 := of_decide_eq_true qi11; have h1 := ne_of_beq_false hb12; have h2 := ne_of_beq_false hb13; have h3 := ne_of_beq_false hb14; have h4 := ne_of_beq_false hb15; have h5 := ne_of_beq_false hb16; omega
 refine .region λe h=>?_
 simp only [seval,EMK,ag_23,sz_23,fld_34_0,sz_24,und_24,hz17,hb12,hb13,hb14,hb15,hb16]
 cases h
 simp only [seval,FMK,hb12,hb13,hb14,hb15,hb16]
 intro v1
 refine Mir.toK (.sR λe h=>?_)
 simp only [seval,EMK,ag_34,sz_34]
 refine mU e (.ret λe h=>?_) h
 cases h
 simp only [seval,FMK,Tryz.results14,ag_34,sz_34]
def cmp_isNaN_int64 (a0 : Int) : Option Bool := some (a0 != a0)
theorem cmp_isNaN_int64_spec {a0 : Int} {y : Bool} (h : cmp_isNaN_int64 a0 = some y) : Spec gP 88 [.d (.int .i64 a0)] (.d (.bool y)) := by
 refine spec_mir Tryz.func88 rfl (by kernel_rfl) (by kernel_rfl) (λy : Bool=>.d (.bool y)) ?_ h
 unfold cmp_isNaN_int64
 simp only [zK,zM,nS,nA,Tryz.ntmps88,SV]
 refine .sR λe h=>?_
 simp only [seval,EMK]
 refine mU e (.sR λe h=>?_) h
 simp only [seval,EMK]
 refine mU e (.ret λe h=>?_) h
 cases h
 simp only [seval,FMK,Tryz.results88]
def cmp_Compare_int64 (a0 : Int) (a1 : Int) : Option Int := bindO (cmp_isNaN_int64 a0) λ(y1 : Bool)=>bindO (cmp_isNaN_int64 a1) λ(y2 : Bool)=>if y1 = true then if y2 = true then some 0 else some (-1) else if y2 = true then some 1 else if (decide (a0 < a1)) = true then some (-1) else if (decide (a0 > a1)) = true then some 1 else some 0
theorem cmp_Compare_int64_spec {a0 : Int} {a1 : Int} {y : Int} (h : cmp_Compare_int64 a0 a1 = some y) : Spec gP 59 [.d (.int .i64 a0),.d (.int .i64 a1)] (.d (.int .i64 y)) := by
 refine spec_mir Tryz.func59 rfl (by kernel_rfl) (by kernel_rfl) (λy : Int=>.d (.int .i64 y)) ?_ h
 unfold cmp_Compare_int64
 simp only [zK,zM,nS,nA,Tryz.ntmps59,SV]
 refine .sR λe h=>?_
 simp only [seval,EMK]
 refine mU e (.seqK (.bind λy1 hy1=>.region λe h=>?_)) h
 simp only [seval,EMK]
 refine SpecS.by (cmp_isNaN_int64_spec hy1) (by simp only [seval,FMK]) ?_
 simp only [seval,EMK]
 refine mU e (.seqK (.bind λy2 hy2=>.region λe h=>?_)) h
 simp only [seval,EMK]
 refine SpecS.by (cmp_isNaN_int64_spec hy2) (by simp only [seval,FMK]) ?_
 simp only [seval,EMK]
 refine mU e (.seqK (.sR λe h=>?_)) h
 simp only [seval,EMK]
 refine mU e (.cond rfl (λhb6=>?_) (λhb6=>?_)) h
 refine .seqK (.sR λe h=>?_)
 simp only [seval,EMK]
 refine mU e (.cond rfl (λhb8=>?_) (λhb8=>?_)) h
 refine .sR λe h=>?_
 simp only [seval,EMK]
 refine mU e (.ret λe h=>?_) h
 cases h
 simp only [seval,FMK,Tryz.results59]
 refine .skip (Mir.toK (.sR λe h=>?_))
 simp only [seval,EMK]
 refine mU e (.ret λe h=>?_) h
 cases h
 simp only [seval,FMK,Tryz.results59]
 refine .skip (Mir.toK (.seqK (.sR λe h=>?_)))
 simp only [seval,EMK]
 refine mU e (.cond rfl (λhb10=>?_) (λhb10=>?_)) h
 refine .sR λe h=>?_
 simp only [seval,EMK]
 refine mU e (.ret λe h=>?_) h
 cases h
 simp only [seval,FMK,Tryz.results59]
 refine .skip (Mir.toK (.seqK (.sR λe h=>?_)))
 simp only [seval,EMK]
 refine mU e (.cond rfl (λhb12=>?_) (λhb12=>?_)) h
 refine .sR λe h=>?_
 simp only [seval,EMK]
 refine mU e (.ret λe h=>?_) h
 cases h
 simp only [seval,FMK,Tryz.results59]
 refine .skip (Mir.toK (.seqK (.sR λe h=>?_)))
 simp only [seval,EMK]
 refine mU e (.cond rfl (λhb14=>?_) (λhb14=>?_)) h
 refine .sR λe h=>?_
 simp only [seval,EMK]
 refine mU e (.ret λe h=>?_) h
 cases h
 simp only [seval,FMK,Tryz.results59]
 refine .skip (Mir.toK (.sR λe h=>?_))
 simp only [seval,EMK]
 refine mU e (.ret λe h=>?_) h
 cases h
 simp only [seval,FMK,Tryz.results59]
def tb_find_c1 (a0 : TableLength) (a1 : Int) : Option Int := bindO (cmp_Compare_int64 a0.Number a1) λ(y1 : Int)=>some y1
theorem tb_find_c1_spec {a0 : TableLength} {a1 : Int} {y : Int} (h : tb_find_c1 a0 a1 = some y) : Spec gP 58 [.agg [.d (.int .i64 a0.Number),.d (.int .i64 a0.Length)],.d (.int .i64 a1)] (.d (.int .i64 y)) := by
 refine spec_mir Tryz.func58 rfl (by kernel_rfl) (by kernel_rfl) (λy : Int=>.d (.int .i64 y)) ?_ h
 unfold tb_find_c1
 simp only [zK,zM,nS,nA,Tryz.ntmps58,SV]
 refine .sR λe h=>?_
 simp only [seval,EMK]
 refine mU e (.seqK (.bind λy1 hy1=>.region λe h=>?_)) h
 simp only [seval,EMK,fld_65_0,sz_2,ag_2]
 refine SpecS.by (cmp_Compare_int64_spec hy1) (by simp only [seval,FMK]) ?_
 simp only [seval,EMK]
 refine mU e (.ret λe h=>?_) h
 cases h
 simp only [seval,FMK,Tryz.results58]
def tb_find (a0 : TableTable) (a1 : Int) : Option (Int × Bool) := bindO (bindO (loopX (λ(v1 : Int × Int)=>if (decide (v1.1 < v1.2)) = true then bindO (gt a0.Lengths (zV.wrap (shrI .u64 (IntKind.u64.wrap (zV.wrap (v1.1 + v1.2))) 1))) λ(e1 : TableLength)=>bindO (tb_find_c1 e1 a1) λ(y1 : Int)=>if (decide (y1 < 0)) = true then some (.go (zV.wrap ((zV.wrap (shrI .u64 (IntKind.u64.wrap (zV.wrap (v1.1 + v1.2))) 1)) + 1),v1.2)) else some (.go (v1.1,zV.wrap (shrI .u64 (IntKind.u64.wrap (zV.wrap (v1.1 + v1.2))) 1))) else some (.ret v1.1)) fuel (0,(a0.Lengths.length : Int))) λ(v2 : Int)=>bindO (if (decide (v2 < (a0.Lengths.length : Int))) = true then bindO (gt a0.Lengths v2) λ(e2 : TableLength)=>bindO (tb_find_c1 e2 a1) λ(y2 : Int)=>some (y2 == 0) else some false) λ(v3 : Bool)=>some (v2,v3)) λ(v4 : Int × Bool)=>some (v4.1,v4.2)
theorem tb_find_spec {a0 : TableTable} {a1 : Int} {y : Int × Bool} (h : tb_find a0 a1 = some y) : Spec gP 33 [.agg (w6 a0.Work [.d (.list (zG encTableLength a0.Lengths))]),.d (.int .i64 a1)] (.tuple [.d (.int .i64 y.1),.d (.bool y.2)]) := by
 refine spec_mir Tryz.func33 rfl (by kernel_rfl) (by kernel_rfl) (λy : Int × Bool=>.tuple [.d (.int .i64 y.1),.d (.bool y.2)]) ?_ h
 unfold tb_find
 simp only [zK,zM,nS,nA,Tryz.ntmps33,SV]
 refine .sR λe h=>?_
 simp only [seval,EMK]
 refine mU e (.seqK (.bind λv4 hv34=>.region λe h=>?_)) h
 simp only [seval,EMK,fld_34_1,sz_32,ag_32]
 refine SpecS.inl Tryz.func57 rfl (by kernel_rfl) (by kernel_rfl) (λv4 : Int × Bool=>.tuple [.d (.int .i64 v4.1),.d (.bool v4.2)]) (λv4=>⟨[(w6 a0.Work [.d (.list (zG encTableLength a0.Lengths))])],[]⟩) hv34 rfl ?_ ?_
 simp only [zK,zM,nS,nA,Tryz.ntmps57,SV]
 refine .sR λe h=>?_
 simp only [seval,EMK]
 refine mU e (.sR λe h=>?_) h
 simp only [seval,EMK,und_32]
 refine mU e (.sR λe h=>?_) h
 simp only [seval,EMK]
 refine mU e (.seqK (Mir.joinO (λv2 : Int=>([.d (.list (zG encTableLength a0.Lengths)),.d (.int .i64 a1),.fn 58 [],U,U,U,U,U,.d (.int .i64 (a0.Lengths.length : Int)),.d (.int .i64 v2)] ++ us 39)) (λv2=>⟨[(w6 a0.Work [.d (.list (zG encTableLength a0.Lengths))])],[]⟩) (λ_=>rfl) ?_ ?_)) h
 refine .block (Mir.loop (λv1 : Int × Int=>([.d (.list (zG encTableLength a0.Lengths)),.d (.int .i64 a1),.fn 58 [],U,U,U,U,U,.d (.int .i64 (a0.Lengths.length : Int)),.d (.int .i64 v1.1),.d (.int .i64 v1.2)] ++ us 38)) (λv1=>⟨[(w6 a0.Work [.d (.list (zG encTableLength a0.Lengths))])],[]⟩) (λ_=>rfl) (by simp only [seval,FMK]) (by simp only [seval,FMK]) λv1=>.seqK (.sR λe h=>?_))
 simp only [seval,EMK]
 refine mU e (.cond rfl (λhb61=>?_) (λhb61=>?_)) h
 refine .skip (Mir.toK (.block (.sR λe h=>?_)))
 simp only [seval,EMK,und_3,und_147]
 refine mU e (.seqK (.bind λe1 q62=>?_)) h
 replace q62 := gt_ok q62
 refine .bind λy1 hy63=>.region λe h=>?_
 simp only [seval,EMK,und_32,sz_65,q62,ag_65]
 refine SpecS.by (tb_find_c1_spec hy63) (by simp only [seval,FMK]) ?_
 simp only [seval,EMK]
 refine mU e (.cond rfl (λhb64=>?_) (λhb64=>?_)) h
 refine .region λe h=>?_
 simp only [seval,EMK]
 cases h
 simp only [seval,FMK,Tryz.results57]
 refine .region λe h=>?_
 simp only [seval,EMK]
 cases h
 simp only [seval,FMK,Tryz.results57]
 refine .exit λe h=>?_
 cases h
 simp only [seval,FMK,Tryz.results57]
 intro v2
 refine Mir.toK (.seqK (Mir.joinO (λv3 : Bool=>([U,U,U,U,U,U,.d (.int .i64 v2),.d (.bool v3)] ++ us 41)) (λv3=>⟨[(w6 a0.Work [.d (.list (zG encTableLength a0.Lengths))])],[]⟩) (λ_=>rfl) ?_ ?_))
 refine .ite (λhb65=>?_) (λhb65=>?_)
 refine .bind λe2 q66=>?_
 replace q66 := gt_ok q66
 refine .bind λy2 hy67=>.region λe h=>?_
 simp only [seval,EMK,und_32,sz_65,q66,ag_65,hb65]
 refine SpecS.by (tb_find_c1_spec hy67) (by simp only [seval,FMK,hb65]) ?_
 simp only [seval,EMK,hb65]
 cases h
 simp only [seval,FMK,hb65]
 refine .region λe h=>?_
 simp only [seval,EMK,hb65]
 cases h
 simp only [seval,FMK,hb65]
 intro v3
 refine Mir.toK (.ret λe h=>?_)
 cases h
 simp only [seval,FMK,Tryz.results57]
 simp only [seval,EMK]
 refine mU e (.ret λe h=>?_) h
 cases h
 simp only [seval,FMK,Tryz.results33]
def tb_SetLength (a0 : TableTable) (a1 : Int) (a2 : Int) : Option (TableTable × Int) := bindO (bindO (tb_Valid a0) λ(y1 : Int)=>if (y1 != 0) = true then some true else bindO (tb_entry (TableLength.mk a1 a2)) λ(y2 : Bool)=>some (!y2)) λ(v1 : Bool)=>if v1 = true then some (TableTable.mk (Arr6ApiPos.mk (ApiPos.mk 0 0 0) (ApiPos.mk 0 0 0) (ApiPos.mk 0 0 0) (ApiPos.mk 0 0 0) (ApiPos.mk 0 0 0) (ApiPos.mk 0 0 0)) [],1) else bindO (bindO (slices_Clone_table_Length_table_Length a0.Lengths) λ(y3 : (List TableLength))=>some y3) λ(v2 : (List TableLength))=>bindO (tb_find (TableTable.mk a0.Work v2) a1) λ(y4 : Int × Bool)=>if y4.2 = true then bindO (gt v2 y4.1) λ(e1 : TableLength)=>some (TableTable.mk a0.Work (v2.set (zU y4.1) (TableLength.mk a1 a2)),0) else guardO (decide (y4.1 = (v2.length : Int))) ( guardO (okLen (v2.length + 1)) ( some (TableTable.mk a0.Work (v2.take (zU y4.1) ++ [TableLength.mk a1 a2] ++ v2.drop (zU y4.1)),0)))
theorem tb_SetLength_spec {a0 : TableTable} {a1 : Int} {a2 : Int} {y : TableTable × Int} (h : tb_SetLength a0 a1 a2 = some y) : Spec gP 15 [.agg (w6 a0.Work [.d (.list (zG encTableLength a0.Lengths))]),.d (.int .i64 a1),.d (.int .i64 a2)] (.tuple [.agg (w6 y.1.Work [.d (.list (zG encTableLength y.1.Lengths))]),.d (.int .i64 y.2)]) := by
 refine spec_mir Tryz.func15 rfl (by kernel_rfl) (by kernel_rfl) (λy : TableTable × Int=>.tuple [.agg (w6 y.1.Work [.d (.list (zG encTableLength y.1.Lengths))]),.d (.int .i64 y.2)]) ?_ h
 unfold tb_SetLength
 simp only [zK,zM,nS,nA,Tryz.ntmps15,SV]
 refine .sR λe h=>?_
 simp only [seval,EMK,zero_34,rmap_set,spD]
 refine mU e (.sR λe h=>?_) h
 simp only [seval,EMK,zero_65,pl_65,sz_65,rmap_set,spD]
 refine mU e (.seqK (.seqK (Mir.joinO (λv1 : Bool=>([U,.d (.int .i64 a1),U,.ptr 0 0,U,U,.ptr 1 0,U,.ptr 2 0,U,U,U,U,U,U,U,U,U,U,U,U,U,.d (.bool v1)] ++ us 23)) (λv1=>⟨[(w6 a0.Work [.d (.list (zG encTableLength a0.Lengths))]),[.d (.int .i64 0),.d (.int .i64 0),.d (.int .i64 0),.d (.int .i64 0),.d (.int .i64 0),.d (.int .i64 0),.d (.int .i64 0),.d (.int .i64 0),.d (.int .i64 0),.d (.int .i64 0),.d (.int .i64 0),.d (.int .i64 0),.d (.int .i64 0),.d (.int .i64 0),.d (.int .i64 0),.d (.int .i64 0),.d (.int .i64 0),.d (.int .i64 0),.nil],[.d (.int .i64 a1),.d (.int .i64 a2)]],[]⟩) (λ_=>rfl) ?_ ?_))) h
 refine .bind λy1 hy1=>.ite (λhb2=>?_) (λhb2=>?_)
 refine .region λe h=>?_
 simp only [seval,EMK,ag_34,sz_34,hb2]
 refine SpecS.by (tb_Valid_spec hy1) (by simp only [seval,FMK,hb2]) ?_
 simp only [seval,EMK,hb2]
 cases h
 simp only [seval,FMK,hb2]
 refine .bind λy2 hy3=>.region λe h=>?_
 simp only [seval,EMK,ag_34,sz_34,hb2]
 refine SpecS.by (tb_Valid_spec hy1) (by simp only [seval,FMK,hb2]) ?_
 simp only [seval,EMK,ag_65,sz_65,hb2]
 refine SpecS.by (tb_entry_spec hy3) (by simp only [seval,FMK,hb2]) ?_
 simp only [seval,EMK,hb2]
 cases h
 simp only [seval,FMK,hb2]
 intro v1
 refine Mir.toK (.cond rfl (λhb5=>?_) (λhb5=>?_))
 refine .sR λe h=>?_
 simp only [seval,EMK,zero_34,pl_34,sz_34]
 refine mU e (.ret λe h=>?_) h
 cases h
 simp only [seval,FMK,Tryz.results15,ag_34,sz_34]
 refine .skip (Mir.toK (.seqK (.bind λv2 hv7=>.region λe h=>?_)))
 simp only [seval,EMK,ag_34,sz_34,rmap_set,spD]
 refine SpecS.inl Tryz.func31 rfl (by kernel_rfl) (by kernel_rfl) (λv2 : (List TableLength)=>.agg (w6 a0.Work [.gr 5 0])) (λv2=>⟨[(w6 a0.Work [.d (.list (zG encTableLength a0.Lengths))]),[.d (.int .i64 0),.d (.int .i64 0),.d (.int .i64 0),.d (.int .i64 0),.d (.int .i64 0),.d (.int .i64 0),.d (.int .i64 0),.d (.int .i64 0),.d (.int .i64 0),.d (.int .i64 0),.d (.int .i64 0),.d (.int .i64 0),.d (.int .i64 0),.d (.int .i64 0),.d (.int .i64 0),.d (.int .i64 0),.d (.int .i64 0),.d (.int .i64 0),.nil],[.d (.int .i64 a1),.d (.int .i64 a2)],(w6 a0.Work [.gr 5 0]),(w6 a0.Work [.gr 5 0]),[.rowc 65 0 (zG encTableLength v2)]],[]⟩) hv7 rfl ?_ ?_
 simp only [zK,zM,nS,nA,Tryz.ntmps31,SV]
 refine .sR λe h=>?_
 simp only [seval,EMK,zero_34]
 refine mU e (.seqK (.bind λy3 hy8=>.region λe h=>?_)) h
 simp only [seval,EMK,fld_34_1,sz_32,ag_32]
 refine SpecY.toS (slices_Clone_table_Length_table_Length_specY hy8) (by simp only [seval,FMK]) ?_
 simp only [seval,EMK,fld_34_1,sz_32]
 refine mU e (.sR λe h=>?_) h
 simp only [seval,EMK,ag_34,sz_34]
 refine mU e (.ret λe h=>?_) h
 cases h
 simp only [seval,FMK,Tryz.results31,ag_34,sz_34]
 simp only [seval,EMK,zero_34,sz_34,rmap_set,spD]
 refine mU e (.seqK (.seqK (.bind λy4 hy9=>.region λe h=>?_))) h
 simp only [seval,EMK,ag_34,sz_34,rmap_set,spD]
 refine SpecS.byZ (tb_find_spec hy9) rfl rfl ?_
 simp only [seval,EMK,rmap_set,spD]
 refine mU e (.sR λe h=>?_) h
 simp only [seval,EMK,rmap_set,spD]
 refine mU e (.cond rfl (λhb14=>?_) (λhb14=>?_)) h
 refine .bind λe1 q15=>?_
 replace q15 := gt_ok q15
 refine .regionW λe h=>regW.alt 4 rfl ?_
 simp only [seval,EMK,w_none,w_eq,fld_34_1,sz_32,ag_32,ag_65,sz_65,rmap_set,spD]
 refine alt_indexR rfl rfl rfl und_32 sz_65 (row_lo q15.1) (row_hi q15.2 q15.1) (regW.alt 0 rfl ?_)
 simp only [seval,EMK,w_none,w_eq,und_32,sz_65,rmap_set,spD]
 refine alt_storeR rfl rfl (row_at q15.2) rfl rfl sz_65 rfl (Nat.le_of_ble_eq_true rfl) (regW.of ?_)
 simp only [seval,EMK,w_none,w_eq,sz_65,rmap_set,spD]
 refine mU e (.sR λe h=>?_) h
 simp only [seval,EMK,ag_34,sz_34,rmap_set,spD]
 refine mU e (.frz 5 rfl ?_) h
 simp only [seval,us_0,us_s,xCA,xNA,and_self,and_true,true_and,and_false,false_and,SZ]
 refine .ret λe h=>?_
 cases h
 simp only [seval,FMK,rmap_set,spD,Tryz.results15,ag_34,sz_34]
 refine .guard λq16=>.guard λq17=>.region λe h=>?_
 simp only [seval,EMK,fld_34_1,sz_32,ag_32,ag_65,sz_65,und_32,zero_65,(oL 2),rmap_set,spD]
 refine specS_insE_TableLength encTableLength v2 (TableLength.mk a1 a2) rfl (of_decide_eq_true q16) q17 rfl ?_
 simp only [seval,EMK,fld_34_1,sz_32,rmap_set,spD]
 refine mU e (.sR λe h=>?_) h
 simp only [seval,EMK,ag_34,sz_34,rmap_set,spD]
 refine mU e (.frz 5 rfl ?_) h
 simp only [seval,us_0,us_s,xCA,xNA,and_self,and_true,true_and,and_false,false_and,SZ]
 refine .ret λe h=>?_
 cases h
 simp only [seval,FMK,rmap_set,spD,Tryz.results15,ag_34,sz_34]
def tb_length (a0 : TableTable) (a1 : Int) : Option (Int × Int) := if (a1 == 0) = true then some (0,0) else bindO (tb_find a0 a1) λ(y1 : Int × Bool)=>if (!y1.2) = true then some (0,4) else bindO (gt a0.Lengths y1.1) λ(e1 : TableLength)=>some (e1.Length,0)
theorem tb_length_spec {a0 : TableTable} {a1 : Int} {y : Int × Int} (h : tb_length a0 a1 = some y) : Spec gP 62 [.agg (w6 a0.Work [.d (.list (zG encTableLength a0.Lengths))]),.d (.int .i64 a1)] (.tuple [.d (.int .i64 y.1),.d (.int .i64 y.2)]) := by
 refine spec_mir Tryz.func62 rfl (by kernel_rfl) (by kernel_rfl) (λy : Int × Int=>.tuple [.d (.int .i64 y.1),.d (.int .i64 y.2)]) ?_ h
 unfold tb_length
 simp only [zK,zM,nS,nA,Tryz.ntmps62,SV]
 refine .sR λe h=>?_
 simp only [seval,EMK]
 refine mU e (.seqK (.sR λe h=>?_)) h
 simp only [seval,EMK]
 refine mU e (.cond rfl (λhb2=>?_) (λhb2=>?_)) h
 refine .sR λe h=>?_
 simp only [seval,EMK]
 refine mU e (.ret λe h=>?_) h
 cases h
 simp only [seval,FMK,Tryz.results62]
 refine .skip (Mir.toK (.seqK (.bind λy1 hy3=>.region λe h=>?_)))
 simp only [seval,EMK,ag_34,sz_34]
 refine SpecS.by (tb_find_spec hy3) (by simp only [seval,FMK]) ?_
 simp only [seval,EMK]
 refine mU e (.seqK (.sR λe h=>?_)) h
 simp only [seval,EMK]
 refine mU e (.cond rfl (λhb5=>?_) (λhb5=>?_)) h
 refine .sR λe h=>?_
 simp only [seval,EMK]
 refine mU e (.ret λe h=>?_) h
 cases h
 simp only [seval,FMK,Tryz.results62]
 refine .skip (Mir.toK (.seqK (.bind λe1 q6=>?_)))
 replace q6 := gt_ok q6
 refine .region λe h=>?_
 simp only [seval,EMK,fld_34_1,sz_32,ag_32,und_32,sz_65,q6,fld_65_1,sz_2,ag_2]
 refine mU e (.ret λe h=>?_) h
 cases h
 simp only [seval,FMK,Tryz.results62]
def tb_offset (a0 : TableTable) (a1 : Int) (a2 : Int) : Option (ApiPos × Int) := bindO (tb_Valid a0) λ(y1 : Int)=>if (y1 != 0) = true then some (ApiPos.mk 0 0 0,y1) else bindO (tb_slot a1) λ(y2 : Int × Int)=>bindO (tb_length a0 a2) λ(y3 : Int × Int)=>if ((y2.2 != 0) || (y3.2 != 0)) = true then some (ApiPos.mk 0 0 0,4) else bindO (guardO (decide (0 ≤ y2.1 ∧ y2.1 < 6)) ( if (y2.1 == 0) = true then some a0.Work.e0 else if (y2.1 == 1) = true then some a0.Work.e1 else if (y2.1 == 2) = true then some a0.Work.e2 else if (y2.1 == 3) = true then some a0.Work.e3 else if (y2.1 == 4) = true then some a0.Work.e4 else some a0.Work.e5)) λ(v1 : ApiPos)=>some (ApiPos.mk v1.X v1.Y (zV.wrap (v1.Z + y3.1)),0)
theorem tb_offset_spec {a0 : TableTable} {a1 : Int} {a2 : Int} {y : ApiPos × Int} (h : tb_offset a0 a1 a2 = some y) : Spec gP 35 [.agg (w6 a0.Work [.d (.list (zG encTableLength a0.Lengths))]),.d (.int .i64 a1),.d (.int .i64 a2)] (.tuple [.agg [.d (.int .i64 y.1.X),.d (.int .i64 y.1.Y),.d (.int .i64 y.1.Z)],.d (.int .i64 y.2)]) := by
 refine spec_mir Tryz.func35 rfl (by kernel_rfl) (by kernel_rfl) (λy : ApiPos × Int=>.tuple [.agg [.d (.int .i64 y.1.X),.d (.int .i64 y.1.Y),.d (.int .i64 y.1.Z)],.d (.int .i64 y.2)]) ?_ h
 unfold tb_offset
 simp only [zK,zM,nS,nA,Tryz.ntmps35,SV]
 refine .sR λe h=>?_
 simp only [seval,EMK,zero_23]
 refine mU e (.seqK (.seqK (.bind λy1 hy1=>.region λe h=>?_))) h
 simp only [seval,EMK,ag_34,sz_34]
 refine SpecS.by (tb_Valid_spec hy1) (by simp only [seval,FMK]) ?_
 simp only [seval,EMK]
 refine mU e (.sR λe h=>?_) h
 simp only [seval,EMK]
 refine mU e (.cond rfl (λhb3=>?_) (λhb3=>?_)) h
 refine .sR λe h=>?_
 simp only [seval,EMK,zero_23,pl_23,sz_23]
 refine mU e (.ret λe h=>?_) h
 cases h
 simp only [seval,FMK,Tryz.results35,ag_23,sz_23]
 refine .skip (Mir.toK (.seqK (.bind λy2 hy4=>.region λe h=>?_)))
 simp only [seval,EMK]
 refine SpecS.by (tb_slot_spec hy4) (by simp only [seval,FMK]) ?_
 simp only [seval,EMK]
 refine mU e (.seqK (.bind λy3 hy5=>.region λe h=>?_)) h
 simp only [seval,EMK,ag_34,sz_34]
 refine SpecS.by (tb_length_spec hy5) (by simp only [seval,FMK]) ?_
 simp only [seval,EMK]
 refine mU e (.seqK (.seqK (.joinV ([U,U,U,.ptr 0 0,U,U,.ptr 1 0,U,U,.d (.int .i64 y2.1),U,.d (.int .i64 y3.1),U,U,U,U,U,U,U,U,U,U,U,U,U,U,U,U,U,U,U,U,U,U,U,U,.d (.bool ((y2.2 != 0) || (y3.2 != 0)))] ++ us 11) ⟨[(w6 a0.Work [.d (.list (zG encTableLength a0.Lengths))]),[.d (.int .i64 0),.d (.int .i64 0),.d (.int .i64 0)]],[]⟩ rfl ?_ ?_))) h
 refine SWs.region ?_
 rcases zL (y2.2 != 0) with hb6 | hb6
 simp only [seval,EMK,SL,PB,hb6]
 simp only [seval,EMK,SL,PB,hb6]
 refine Mir.toK (.cond rfl (λhb8=>?_) (λhb8=>?_))
 refine .sR λe h=>?_
 simp only [seval,EMK,zero_23,pl_23,sz_23]
 refine mU e (.ret λe h=>?_) h
 cases h
 simp only [seval,FMK,Tryz.results35,ag_23,sz_23]
 refine .skip (Mir.toK (.seqK (Mir.joinO (λv1 : ApiPos=>([U,U,U,U,U,U,.ptr 1 0,U,U,U,U,.d (.int .i64 y3.1),U,.ptr 2 0] ++ us 34)) (λv1=>⟨[(w6 a0.Work [.d (.list (zG encTableLength a0.Lengths))]),[.d (.int .i64 0),.d (.int .i64 0),.d (.int .i64 0)],[.d (.int .i64 v1.X),.d (.int .i64 v1.Y),.d (.int .i64 v1.Z)]],[]⟩) (λ_=>rfl) ?_ ?_)))
 refine .guard λqi9=>.ite (λhb10=>?_) (λhb10=>?_)
 refine .region λe h=>?_
 simp only [seval,EMK,fld_34_0,sz_24,und_24,(eq_of_beq hb10),sz_23,ag_23,zero_23,hb10]
 cases h
 simp only [seval,FMK,hb10]
 refine .ite (λhb11=>?_) (λhb11=>?_)
 refine .region λe h=>?_
 simp only [seval,EMK,fld_34_0,sz_24,und_24,(eq_of_beq hb11),sz_23,ag_23,zero_23,hb10,hb11]
 cases h
 simp only [seval,FMK,hb10,hb11]
 refine .ite (λhb12=>?_) (λhb12=>?_)
 refine .region λe h=>?_
 simp only [seval,EMK,fld_34_0,sz_24,und_24,(eq_of_beq hb12),sz_23,ag_23,zero_23,hb10,hb11,hb12]
 cases h
 simp only [seval,FMK,hb10,hb11,hb12]
 refine .ite (λhb13=>?_) (λhb13=>?_)
 refine .region λe h=>?_
 simp only [seval,EMK,fld_34_0,sz_24,und_24,(eq_of_beq hb13),sz_23,ag_23,zero_23,hb10,hb11,hb12,hb13]
 cases h
 simp only [seval,FMK,hb10,hb11,hb12,hb13]
 refine .ite (λhb14=>?_) (λhb14=>?_)
 refine .region λe h=>?_
 simp only [seval,EMK,fld_34_0,sz_24,und_24,(eq_of_beq hb14),sz_23,ag_23,zero_23,hb10,hb11,hb12,hb13,hb14]
 cases h
 simp only [seval,FMK,hb10,hb11,hb12,hb13,hb14]
 have hz15 : y2.1 = 5 := by have h0 := of_decide_eq_true qi9; have h1 := ne_of_beq_false hb10; have h2 := ne_of_beq_false hb11; have h3 := ne_of_beq_false hb12; have h4 := ne_of_beq_false hb13; have h5 := ne_of_beq_false hb14; omega
 refine .region λe h=>?_
 simp only [seval,EMK,fld_34_0,sz_24,und_24,hz15,sz_23,ag_23,zero_23,hb10,hb11,hb12,hb13,hb14]
 cases h
 simp only [seval,FMK,hb10,hb11,hb12,hb13,hb14]
 intro v1
 refine Mir.toK (.sR λe h=>?_)
 simp only [seval,EMK,fld_23_2,sz_2,ag_2]
 refine mU e (.sR λe h=>?_) h
 simp only [seval,EMK,ag_23,sz_23]
 refine mU e (.ret λe h=>?_) h
 cases h
 simp only [seval,FMK,Tryz.results35,ag_23,sz_23]
def tb_moved (a0 : ApiPos) (a1 : ApiPos) (a2 : Int) : Option (ApiPos × Int) := bindO (tb_far a0) λ(y1 : Bool)=>if y1 = true then some (ApiPos.mk 0 0 0,11) else bindO (tb_far (ApiPos.mk (zV.wrap (a0.X + (zV.wrap (a2 * a1.X)))) (zV.wrap (a0.Y + (zV.wrap (a2 * a1.Y)))) (zV.wrap (a0.Z + (zV.wrap (a2 * a1.Z)))))) λ(y2 : Bool)=>if y2 = true then some (ApiPos.mk 0 0 0,11) else some (ApiPos.mk (zV.wrap (a0.X + (zV.wrap (a2 * a1.X)))) (zV.wrap (a0.Y + (zV.wrap (a2 * a1.Y)))) (zV.wrap (a0.Z + (zV.wrap (a2 * a1.Z)))),0)
theorem tb_moved_spec {a0 : ApiPos} {a1 : ApiPos} {a2 : Int} {y : ApiPos × Int} (h : tb_moved a0 a1 a2 = some y) : Spec gP 36 [.agg [.d (.int .i64 a0.X),.d (.int .i64 a0.Y),.d (.int .i64 a0.Z)],.agg [.d (.int .i64 a1.X),.d (.int .i64 a1.Y),.d (.int .i64 a1.Z)],.d (.int .i64 a2)] (.tuple [.agg [.d (.int .i64 y.1.X),.d (.int .i64 y.1.Y),.d (.int .i64 y.1.Z)],.d (.int .i64 y.2)]) := by
 refine spec_mir Tryz.func36 rfl (by kernel_rfl) (by kernel_rfl) (λy : ApiPos × Int=>.tuple [.agg [.d (.int .i64 y.1.X),.d (.int .i64 y.1.Y),.d (.int .i64 y.1.Z)],.d (.int .i64 y.2)]) ?_ h
 unfold tb_moved
 simp only [zK,zM,nS,nA,Tryz.ntmps36,SV]
 refine .sR λe h=>?_
 simp only [seval,EMK,zero_23]
 refine mU e (.seqK (.seqK (.bind λy1 hy1=>.region λe h=>?_))) h
 simp only [seval,EMK,ag_23,sz_23]
 refine SpecS.by (tb_far_spec hy1) (by simp only [seval,FMK]) ?_
 simp only [seval,EMK]
 refine mU e (.cond rfl (λhb3=>?_) (λhb3=>?_)) h
 refine .sR λe h=>?_
 simp only [seval,EMK,zero_23,pl_23,sz_23]
 refine mU e (.ret λe h=>?_) h
 cases h
 simp only [seval,FMK,Tryz.results36,ag_23,sz_23]
 refine .skip (Mir.toK (.sR λe h=>?_))
 simp only [seval,EMK,fld_23_0,sz_2,ag_2,fld_23_1,fld_23_2,zero_23,pl_23,sz_23]
 refine mU e (.seqK (.seqK (.bind λy2 hy4=>.region λe h=>?_))) h
 simp only [seval,EMK,ag_23,sz_23]
 refine SpecS.by (tb_far_spec hy4) (by simp only [seval,FMK]) ?_
 simp only [seval,EMK]
 refine mU e (.cond rfl (λhb6=>?_) (λhb6=>?_)) h
 refine .sR λe h=>?_
 simp only [seval,EMK,zero_23,pl_23,sz_23]
 refine mU e (.ret λe h=>?_) h
 cases h
 simp only [seval,FMK,Tryz.results36,ag_23,sz_23]
 refine .skip (Mir.toK (.sR λe h=>?_))
 simp only [seval,EMK,ag_23,sz_23]
 refine mU e (.ret λe h=>?_) h
 cases h
 simp only [seval,FMK,Tryz.results36,ag_23,sz_23]
def tb_Machine (a0 : TableTable) (a1 : Int) (a2 : Int) (a3 : ApiPos) : Option (ApiPos × Int) := bindO (tb_offset a0 a1 a2) λ(y1 : ApiPos × Int)=>if (y1.2 != 0) = true then some (ApiPos.mk 0 0 0,y1.2) else bindO (tb_moved a3 y1.1 1) λ(y2 : ApiPos × Int)=>some (y2.1,y2.2)
theorem tb_Machine_spec {a0 : TableTable} {a1 : Int} {a2 : Int} {a3 : ApiPos} {y : ApiPos × Int} (h : tb_Machine a0 a1 a2 a3 = some y) : Spec gP 16 [.agg (w6 a0.Work [.d (.list (zG encTableLength a0.Lengths))]),.d (.int .i64 a1),.d (.int .i64 a2),.agg [.d (.int .i64 a3.X),.d (.int .i64 a3.Y),.d (.int .i64 a3.Z)]] (.tuple [.agg [.d (.int .i64 y.1.X),.d (.int .i64 y.1.Y),.d (.int .i64 y.1.Z)],.d (.int .i64 y.2)]) := by
 refine spec_mir Tryz.func16 rfl (by kernel_rfl) (by kernel_rfl) (λy : ApiPos × Int=>.tuple [.agg [.d (.int .i64 y.1.X),.d (.int .i64 y.1.Y),.d (.int .i64 y.1.Z)],.d (.int .i64 y.2)]) ?_ h
 unfold tb_Machine
 simp only [zK,zM,nS,nA,Tryz.ntmps16,SV]
 refine .sR λe h=>?_
 simp only [seval,EMK,zero_23]
 refine mU e (.seqK (.bind λy1 hy1=>.region λe h=>?_)) h
 simp only [seval,EMK,ag_34,sz_34]
 refine SpecS.by (tb_offset_spec hy1) (by simp only [seval,FMK]) ?_
 simp only [seval,EMK,zero_23,sz_23]
 refine mU e (.seqK (.sR λe h=>?_)) h
 simp only [seval,EMK]
 refine mU e (.cond rfl (λhb3=>?_) (λhb3=>?_)) h
 refine .sR λe h=>?_
 simp only [seval,EMK,zero_23,pl_23,sz_23]
 refine mU e (.ret λe h=>?_) h
 cases h
 simp only [seval,FMK,Tryz.results16,ag_23,sz_23]
 refine .skip (Mir.toK (.seqK (.bind λy2 hy4=>.region λe h=>?_)))
 simp only [seval,EMK,ag_23,sz_23]
 refine SpecS.by (tb_moved_spec hy4) (by simp only [seval,FMK]) ?_
 simp only [seval,EMK,sz_23]
 refine mU e (.ret λe h=>?_) h
 cases h
 simp only [seval,FMK,Tryz.results16,ag_23,sz_23]
def tb_Format (a0 : TableTable) : Option ((List UInt8) × Int) := bindO (tb_Valid a0) λ(y1 : Int)=>if (y1 != 0) = true then some ([],y1) else bindO (bindO (if ((a0.Work.e0.X == 0) && ((a0.Work.e0.Y == 0) && (a0.Work.e0.Z == 0))) = true then some [] else bindO (strconv_Itoa 54) λ(y2 : (List UInt8))=>guardO (okStr [119,111,114,107,32,71] y2) ( guardO (okLen (([119,111,114,107,32,71] ++ y2).length)) ( bindO (bindO (dc_Millimetres a0.Work.e0.X) λ(y3 : (List UInt8))=>guardO (okStr [32] y3) ( guardO (okLen (([119,111,114,107,32,71] ++ y2).length + ([32] ++ y3).length)) ( bindO (dc_Millimetres a0.Work.e0.Y) λ(y4 : (List UInt8))=>guardO (okStr [32] y4) ( guardO (okLen (([119,111,114,107,32,71] ++ y2 ++ ([32] ++ y3)).length + ([32] ++ y4).length)) ( bindO (dc_Millimetres a0.Work.e0.Z) λ(y5 : (List UInt8))=>guardO (okStr [32] y5) ( guardO (okLen (([119,111,114,107,32,71] ++ y2 ++ ([32] ++ y3) ++ ([32] ++ y4)).length + ([32] ++ y5).length)) ( some ([119,111,114,107,32,71] ++ y2 ++ ([32] ++ y3) ++ ([32] ++ y4) ++ ([32] ++ y5))))))))) λ(v1 : (List UInt8))=>guardO (okLen (v1.length + 1)) ( some (v1 ++ [10]))))) λ(v2 : (List UInt8))=>bindO (if ((a0.Work.e1.X == 0) && ((a0.Work.e1.Y == 0) && (a0.Work.e1.Z == 0))) = true then some v2 else bindO (strconv_Itoa 55) λ(y6 : (List UInt8))=>guardO (okStr [119,111,114,107,32,71] y6) ( guardO (okLen (v2.length + ([119,111,114,107,32,71] ++ y6).length)) ( bindO (bindO (dc_Millimetres a0.Work.e1.X) λ(y7 : (List UInt8))=>guardO (okStr [32] y7) ( guardO (okLen ((v2 ++ ([119,111,114,107,32,71] ++ y6)).length + ([32] ++ y7).length)) ( bindO (dc_Millimetres a0.Work.e1.Y) λ(y8 : (List UInt8))=>guardO (okStr [32] y8) ( guardO (okLen ((v2 ++ ([119,111,114,107,32,71] ++ y6) ++ ([32] ++ y7)).length + ([32] ++ y8).length)) ( bindO (dc_Millimetres a0.Work.e1.Z) λ(y9 : (List UInt8))=>guardO (okStr [32] y9) ( guardO (okLen ((v2 ++ ([119,111,114,107,32,71] ++ y6) ++ ([32] ++ y7) ++ ([32] ++ y8)).length + ([32] ++ y9).length)) ( some (v2 ++ ([119,111,114,107,32,71] ++ y6) ++ ([32] ++ y7) ++ ([32] ++ y8) ++ ([32] ++ y9))))))))) λ(v3 : (List UInt8))=>guardO (okLen (v3.length + 1)) ( some (v3 ++ [10]))))) λ(v4 : (List UInt8))=>bindO (if ((a0.Work.e2.X == 0) && ((a0.Work.e2.Y == 0) && (a0.Work.e2.Z == 0))) = true then some v4 else bindO (strconv_Itoa 56) λ(y10 : (List UInt8))=>guardO (okStr [119,111,114,107,32,71] y10) ( guardO (okLen (v4.length + ([119,111,114,107,32,71] ++ y10).length)) ( bindO (bindO (dc_Millimetres a0.Work.e2.X) λ(y11 : (List UInt8))=>guardO (okStr [32] y11) ( guardO (okLen ((v4 ++ ([119,111,114,107,32,71] ++ y10)).length + ([32] ++ y11).length)) ( bindO (dc_Millimetres a0.Work.e2.Y) λ(y12 : (List UInt8))=>guardO (okStr [32] y12) ( guardO (okLen ((v4 ++ ([119,111,114,107,32,71] ++ y10) ++ ([32] ++ y11)).length + ([32] ++ y12).length)) ( bindO (dc_Millimetres a0.Work.e2.Z) λ(y13 : (List UInt8))=>guardO (okStr [32] y13) ( guardO (okLen ((v4 ++ ([119,111,114,107,32,71] ++ y10) ++ ([32] ++ y11) ++ ([32] ++ y12)).length + ([32] ++ y13).length)) ( some (v4 ++ ([119,111,114,107,32,71] ++ y10) ++ ([32] ++ y11) ++ ([32] ++ y12) ++ ([32] ++ y13))))))))) λ(v5 : (List UInt8))=>guardO (okLen (v5.length + 1)) ( some (v5 ++ [10]))))) λ(v6 : (List UInt8))=>bindO (if ((a0.Work.e3.X == 0) && ((a0.Work.e3.Y == 0) && (a0.Work.e3.Z == 0))) = true then some v6 else bindO (strconv_Itoa 57) λ(y14 : (List UInt8))=>guardO (okStr [119,111,114,107,32,71] y14) ( guardO (okLen (v6.length + ([119,111,114,107,32,71] ++ y14).length)) ( bindO (bindO (dc_Millimetres a0.Work.e3.X) λ(y15 : (List UInt8))=>guardO (okStr [32] y15) ( guardO (okLen ((v6 ++ ([119,111,114,107,32,71] ++ y14)).length + ([32] ++ y15).length)) ( bindO (dc_Millimetres a0.Work.e3.Y) λ(y16 : (List UInt8))=>guardO (okStr [32] y16) ( guardO (okLen ((v6 ++ ([119,111,114,107,32,71] ++ y14) ++ ([32] ++ y15)).length + ([32] ++ y16).length)) ( bindO (dc_Millimetres a0.Work.e3.Z) λ(y17 : (List UInt8))=>guardO (okStr [32] y17) ( guardO (okLen ((v6 ++ ([119,111,114,107,32,71] ++ y14) ++ ([32] ++ y15) ++ ([32] ++ y16)).length + ([32] ++ y17).length)) ( some (v6 ++ ([119,111,114,107,32,71] ++ y14) ++ ([32] ++ y15) ++ ([32] ++ y16) ++ ([32] ++ y17))))))))) λ(v7 : (List UInt8))=>guardO (okLen (v7.length + 1)) ( some (v7 ++ [10]))))) λ(v8 : (List UInt8))=>bindO (if ((a0.Work.e4.X == 0) && ((a0.Work.e4.Y == 0) && (a0.Work.e4.Z == 0))) = true then some v8 else bindO (strconv_Itoa 58) λ(y18 : (List UInt8))=>guardO (okStr [119,111,114,107,32,71] y18) ( guardO (okLen (v8.length + ([119,111,114,107,32,71] ++ y18).length)) ( bindO (bindO (dc_Millimetres a0.Work.e4.X) λ(y19 : (List UInt8))=>guardO (okStr [32] y19) ( guardO (okLen ((v8 ++ ([119,111,114,107,32,71] ++ y18)).length + ([32] ++ y19).length)) ( bindO (dc_Millimetres a0.Work.e4.Y) λ(y20 : (List UInt8))=>guardO (okStr [32] y20) ( guardO (okLen ((v8 ++ ([119,111,114,107,32,71] ++ y18) ++ ([32] ++ y19)).length + ([32] ++ y20).length)) ( bindO (dc_Millimetres a0.Work.e4.Z) λ(y21 : (List UInt8))=>guardO (okStr [32] y21) ( guardO (okLen ((v8 ++ ([119,111,114,107,32,71] ++ y18) ++ ([32] ++ y19) ++ ([32] ++ y20)).length + ([32] ++ y21).length)) ( some (v8 ++ ([119,111,114,107,32,71] ++ y18) ++ ([32] ++ y19) ++ ([32] ++ y20) ++ ([32] ++ y21))))))))) λ(v9 : (List UInt8))=>guardO (okLen (v9.length + 1)) ( some (v9 ++ [10]))))) λ(v10 : (List UInt8))=>bindO (if ((a0.Work.e5.X == 0) && ((a0.Work.e5.Y == 0) && (a0.Work.e5.Z == 0))) = true then some v10 else bindO (strconv_Itoa 59) λ(y22 : (List UInt8))=>guardO (okStr [119,111,114,107,32,71] y22) ( guardO (okLen (v10.length + ([119,111,114,107,32,71] ++ y22).length)) ( bindO (bindO (dc_Millimetres a0.Work.e5.X) λ(y23 : (List UInt8))=>guardO (okStr [32] y23) ( guardO (okLen ((v10 ++ ([119,111,114,107,32,71] ++ y22)).length + ([32] ++ y23).length)) ( bindO (dc_Millimetres a0.Work.e5.Y) λ(y24 : (List UInt8))=>guardO (okStr [32] y24) ( guardO (okLen ((v10 ++ ([119,111,114,107,32,71] ++ y22) ++ ([32] ++ y23)).length + ([32] ++ y24).length)) ( bindO (dc_Millimetres a0.Work.e5.Z) λ(y25 : (List UInt8))=>guardO (okStr [32] y25) ( guardO (okLen ((v10 ++ ([119,111,114,107,32,71] ++ y22) ++ ([32] ++ y23) ++ ([32] ++ y24)).length + ([32] ++ y25).length)) ( some (v10 ++ ([119,111,114,107,32,71] ++ y22) ++ ([32] ++ y23) ++ ([32] ++ y24) ++ ([32] ++ y25))))))))) λ(v11 : (List UInt8))=>guardO (okLen (v11.length + 1)) ( some (v11 ++ [10]))))) λ(v12 : (List UInt8))=>some v12) λ(v13 : (List UInt8))=>bindO (guardO (okIdx a0.Lengths) ( rangeX (λ(i1 : Nat) (e1 : TableLength) (v14 : (List UInt8))=>bindO (strconv_FormatInt e1.Number 10) λ(y26 : (List UInt8))=>guardO (okStr [108,101,110,103,116,104,32] y26) ( guardO (okStr ([108,101,110,103,116,104,32] ++ y26) [32]) ( bindO (dc_Millimetres e1.Length) λ(y27 : (List UInt8))=>guardO (okStr (([108,101,110,103,116,104,32] ++ y26) ++ [32]) y27) ( guardO (okStr ((([108,101,110,103,116,104,32] ++ y26) ++ [32]) ++ y27) [10]) ( guardO (okLen (v14.length + (((([108,101,110,103,116,104,32] ++ y26) ++ [32]) ++ y27) ++ [10]).length)) ( some (.go (v14 ++ (((([108,101,110,103,116,104,32] ++ y26) ++ [32]) ++ y27) ++ [10]))))))))) (λ(v14 : (List UInt8))=>some v14) a0.Lengths 0 v13)) λ(v15 : (List UInt8))=>some (v15,0)
theorem tb_Format_spec {a0 : TableTable} {y : (List UInt8) × Int} (h : tb_Format a0 = some y) : Spec gP 6 [.agg (w6 a0.Work [.d (.list (zG encTableLength a0.Lengths))])] (.tuple [.d (.str y.1),.d (.int .i64 y.2)]) := by
 refine spec_mir Tryz.func6 rfl (by kernel_rfl) (by kernel_rfl) (λy : (List UInt8) × Int=>.tuple [.d (.str y.1),.d (.int .i64 y.2)]) ?_ h
 unfold tb_Format
 simp only [zK,zM,nS,nA,Tryz.ntmps6,SV]
 refine .sR λe h=>?_
 simp only [seval,EMK,eInt]
 refine mU e (.seqK (.seqK (.bind λy1 hy1=>.region λe h=>?_))) h
 simp only [seval,EMK,ag_34,sz_34,eInt]
 refine SpecS.by (tb_Valid_spec hy1) (by simp only [seval,FMK,eInt]) ?_
 simp only [seval,EMK,eInt]
 refine mU e (.sR λe h=>?_) h
 simp only [seval,EMK,eInt]
 refine mU e (.cond rfl (λhb3=>?_) (λhb3=>?_)) h
 refine .sR λe h=>?_
 simp only [seval,EMK]
 refine mU e (.ret λe h=>?_) h
 cases h
 simp only [seval,FMK,Tryz.results6]
 refine .skip (Mir.toK (.seqK (.regionW λe h=>regW.alt 0 rfl ?_)))
 simp only [seval,EMK,w_none,w_eq,eInt]
 refine alt_allocB (e := 5) (zv := .agg #[.pointer none,.slice none 0 0]) rfl (by kernel_rfl) rfl (regW.of ?_)
 simp only [seval,EMK,w_none,w_eq,eInt]
 refine mU e (.seqK (.sR λe h=>?_)) h
 simp only [seval,EMK,fld_34_0,sz_24,ag_24,eInt]
 refine mU e (Mir.joinO (λv13 : (List UInt8)=>([U,.ptr 0 0,U,U,U,.ptr 1 0] ++ us 64)) (λv13=>⟨[(w6 a0.Work [.d (.list (zG encTableLength a0.Lengths))]),[.adr 1,.own 0 (zG byteE v13)]],[(5,v13.length)]⟩) (λ_=>rfl) ?_ ?_) h
 refine .block (.loopR 15 (.sR λe h=>?_))
 simp only [seval,EMK,eInt]
 refine mU e (.seqK (.condT rfl (.skip (Mir.toK (.seqK (Mir.joinO (λv2 : (List UInt8)=>([U,.ptr 0 0,U,U,U,.ptr 1 0,U,U,U,U,U,U,U,U,U,U,U,U,.agg (w6 a0.Work []),.d (.int .i64 0)] ++ us 50)) (λv2=>⟨[(w6 a0.Work [.d (.list (zG encTableLength a0.Lengths))]),[.adr 1,.own 0 (zG byteE v2)]],[(5,v2.length)]⟩) (λ_=>rfl) ?_ ?_)))))) h
 refine .block (.sR λe h=>?_)
 simp only [seval,EMK,und_24,sz_23,ag_23,zero_23,eInt]
 refine mU e (.seqK (.sR λe h=>?_)) h
 simp only [seval,EMK,ag_23,sz_23,zero_23,pl_23,gE_23,eInt]
 refine mU e (.cond rfl (λh1=>?_) (λh1=>?_)) h
 refine .exit λe h=>?_
 cases h
 simp only [seval,FMK,eInt,Tryz.results6]
 refine .skip (Mir.toK (.seqK (.bind λy2 h2=>.guard λq1=>?_)))
 replace q1 := okStr_ok q1
 try simp only [lm,xNA,xCA,xAN,xLC,xLN,xAC,xAL,nA,zJ] at q1
 refine .guard λq2=>.region λe h=>?_
 simp only [seval,EMK,(nr rfl : zV.wrap 54 = 54),eInt]
 refine SpecS.by (strconv_Itoa_spec h2) (by simp only [seval,FMK,eInt]) ?_
 simp only [seval,EMK,q1,eInt]
 refine specS_wsN (n := ([119,111,114,107,32,71] ++ y2).length) rfl (lns_at (by simp only [zE,zC,zF,zD,zI,zH,xOS,xON] <;> omega)) (ok2z q2 (by simp only [zE,zC,zF,zD,zI,zH,xOS,xON] <;> omega) rfl) (by simp only [zE,zC,zF,zD,zI,zH,xOS,xON] <;> omega) ?_
 simp only [seval,EMK,eInt]
 refine mU e (.seqK (.sR λe h=>?_)) h
 simp only [seval,EMK,fld_23_0,sz_2,ag_2,fld_23_1,fld_23_2,und_61,zero_2,(oL 3),(nr rfl : ((3 : Nat) : Int) = 3),eInt]
 refine mU e (Mir.joinO (λv1 : (List UInt8)=>([U,.ptr 0 0,U,U,U,.ptr 1 0,U,U,U,U,U,U,U,U,U,U,U,U,.agg (w6 a0.Work []),.d (.int .i64 0)] ++ us 50)) (λv1=>⟨[(w6 a0.Work [.d (.list (zG encTableLength a0.Lengths))]),[.adr 1,.own 0 (zG byteE v1)],[.d (.int .i64 a0.Work.e0.X),.d (.int .i64 a0.Work.e0.Y),.d (.int .i64 a0.Work.e0.Z)]],[(5,v1.length)]⟩) (λ_=>rfl) ?_ ?_) h
 refine .block (.loopR 15 (.sR λe h=>?_))
 simp only [seval,EMK,eInt]
 refine mU e (.seqK (.condT rfl (.skip (Mir.toK (.seqK (.block (.sR λe h=>?_))))))) h
 simp only [seval,EMK,und_61,sz_2,ag_2,eInt]
 refine mU e (.bind λy3 h3=>.guard λq3=>?_) h
 replace q3 := okStr_ok q3
 try simp only [lm,xNA,xCA,xAN,xLC,xLN,xAC,xAL,nA,zJ] at q3
 refine .guard λq4=>.region λe h=>?_
 simp only [seval,EMK,eInt]
 refine SpecS.by (dc_Millimetres_spec h3) (by simp only [seval,FMK,eInt]) ?_
 simp only [seval,EMK,q3,eInt]
 refine specS_wsN (n := ([119,111,114,107,32,71] ++ y2 ++ ([32] ++ y3)).length) rfl (lns_at (by simp only [zE,zC,zF,zD,zI,zH,xOS,xON] <;> omega)) (ok2 q4 (by simp only [zE,zC,zF,zD,zI,zH,xOS,xON] <;> omega) rfl) (by simp only [zE,zC,zF,zD,zI,zH,xOS,xON] <;> omega) ?_
 simp only [seval,EMK,eInt]
 refine mU e (.region λe h=>?_) h
 simp only [seval,EMK,(nr rfl : zV.wrap 1 = 1),eInt]
 refine Mir.useN (e := e) ?_ h
 refine .sR λe h=>?_
 simp only [seval,EMK,eInt]
 refine mU e (.seqK (.condT rfl (.skip (Mir.toK (.seqK (.block (.sR λe h=>?_))))))) h
 simp only [seval,EMK,und_61,sz_2,ag_2,eInt]
 refine mU e (.bind λy4 h4=>.guard λq5=>?_) h
 replace q5 := okStr_ok q5
 try simp only [lm,xNA,xCA,xAN,xLC,xLN,xAC,xAL,nA,zJ] at q5
 refine .guard λq6=>.region λe h=>?_
 simp only [seval,EMK,eInt]
 refine SpecS.by (dc_Millimetres_spec h4) (by simp only [seval,FMK,eInt]) ?_
 simp only [seval,EMK,q5,eInt]
 refine specS_wsN (n := ([119,111,114,107,32,71] ++ y2 ++ ([32] ++ y3) ++ ([32] ++ y4)).length) rfl (lns_at (by simp only [zE,zC,zF,zD,zI,zH,xOS,xON] <;> omega)) (ok2 q6 (by simp only [zE,zC,zF,zD,zI,zH,xOS,xON] <;> omega) rfl) (by simp only [zE,zC,zF,zD,zI,zH,xOS,xON] <;> omega) ?_
 simp only [seval,EMK,eInt]
 refine mU e (.region λe h=>?_) h
 simp only [seval,EMK,(nr rfl : zV.wrap 2 = 2),eInt]
 refine Mir.useN (e := e) ?_ h
 refine .sR λe h=>?_
 simp only [seval,EMK,eInt]
 refine mU e (.seqK (.condT rfl (.skip (Mir.toK (.seqK (.block (.sR λe h=>?_))))))) h
 simp only [seval,EMK,und_61,sz_2,ag_2,eInt]
 refine mU e (.bind λy5 h5=>.guard λq7=>?_) h
 replace q7 := okStr_ok q7
 try simp only [lm,xNA,xCA,xAN,xLC,xLN,xAC,xAL,nA,zJ] at q7
 refine .guard λq8=>.region λe h=>?_
 simp only [seval,EMK,eInt]
 refine SpecS.by (dc_Millimetres_spec h5) (by simp only [seval,FMK,eInt]) ?_
 simp only [seval,EMK,q7,eInt]
 refine specS_wsN (n := ([119,111,114,107,32,71] ++ y2 ++ ([32] ++ y3) ++ ([32] ++ y4) ++ ([32] ++ y5)).length) rfl (lns_at (by simp only [zE,zC,zF,zD,zI,zH,xOS,xON] <;> omega)) (ok2 q8 (by simp only [zE,zC,zF,zD,zI,zH,xOS,xON] <;> omega) rfl) (by simp only [zE,zC,zF,zD,zI,zH,xOS,xON] <;> omega) ?_
 simp only [seval,EMK,eInt]
 refine mU e (.region λe h=>?_) h
 simp only [seval,EMK,(nr rfl : zV.wrap 3 = 3),eInt]
 refine Mir.useN (e := e) ?_ h
 refine .sR λe h=>?_
 simp only [seval,EMK,eInt]
 refine mU e (.seqK (.condF rfl (.exit λe h=>?_))) h
 cases h
 simp only [seval,FMK,eInt,Tryz.results6]
 intro v1
 refine Mir.toK (.guard λq9=>.region λe h=>?_)
 simp only [seval,EMK,eInt]
 refine specS_wbN (b := 10) (n := (v1 ++ [10]).length) rfl rfl (lns_at (by simp only [zE,zC,zF,zD,zI,zH,xOS,xON] <;> omega)) (ok2 q9 (by simp only [zE,zC,zF,zD,zI,zH,xOS,xON] <;> omega) rfl) (by simp only [zE,zC,zF,zD,zI,zH,xOS,xON] <;> omega) ?_
 simp only [seval,EMK,eInt]
 cases h
 simp only [seval,FMK,eInt,Tryz.results6]
 intro v2
 refine Mir.toK (.region λe h=>?_)
 simp only [seval,EMK,(nr rfl : zV.wrap 1 = 1),eInt]
 refine Mir.useN (e := e) ?_ h
 refine .sR λe h=>?_
 simp only [seval,EMK,eInt]
 refine mU e (.seqK (.condT rfl (.skip (Mir.toK (.seqK (Mir.joinO (λv4 : (List UInt8)=>([U,.ptr 0 0,U,U,U,.ptr 1 0,U,U,U,U,U,U,U,U,U,U,U,U,.agg (w6 a0.Work []),.d (.int .i64 1)] ++ us 50)) (λv4=>⟨[(w6 a0.Work [.d (.list (zG encTableLength a0.Lengths))]),[.adr 1,.own 0 (zG byteE v4)]],[(5,v4.length)]⟩) (λ_=>rfl) ?_ ?_)))))) h
 refine .block (.sR λe h=>?_)
 simp only [seval,EMK,und_24,sz_23,ag_23,zero_23,eInt]
 refine mU e (.seqK (.sR λe h=>?_)) h
 simp only [seval,EMK,ag_23,sz_23,zero_23,pl_23,gE_23,eInt]
 refine mU e (.cond rfl (λh6=>?_) (λh6=>?_)) h
 refine .exit λe h=>?_
 cases h
 simp only [seval,FMK,eInt,Tryz.results6]
 refine .skip (Mir.toK (.seqK (.bind λy6 h7=>.guard λq10=>?_)))
 replace q10 := okStr_ok q10
 try simp only [lm,xNA,xCA,xAN,xLC,xLN,xAC,xAL,nA,zJ] at q10
 refine .guard λq11=>.region λe h=>?_
 simp only [seval,EMK,(nr rfl : zV.wrap 55 = 55),eInt]
 refine SpecS.by (strconv_Itoa_spec h7) (by simp only [seval,FMK,eInt]) ?_
 simp only [seval,EMK,q10,eInt]
 refine specS_wsN (n := (v2 ++ ([119,111,114,107,32,71] ++ y6)).length) rfl (lns_at (by simp only [zE,zC,zF,zD,zI,zH,xOS,xON] <;> omega)) (ok2 q11 (by simp only [zE,zC,zF,zD,zI,zH,xOS,xON] <;> omega) rfl) (by simp only [zE,zC,zF,zD,zI,zH,xOS,xON] <;> omega) ?_
 simp only [seval,EMK,eInt]
 refine mU e (.seqK (.sR λe h=>?_)) h
 simp only [seval,EMK,fld_23_0,sz_2,ag_2,fld_23_1,fld_23_2,und_61,zero_2,(oL 3),(nr rfl : ((3 : Nat) : Int) = 3),eInt]
 refine mU e (Mir.joinO (λv3 : (List UInt8)=>([U,.ptr 0 0,U,U,U,.ptr 1 0,U,U,U,U,U,U,U,U,U,U,U,U,.agg (w6 a0.Work []),.d (.int .i64 1)] ++ us 50)) (λv3=>⟨[(w6 a0.Work [.d (.list (zG encTableLength a0.Lengths))]),[.adr 1,.own 0 (zG byteE v3)],[.d (.int .i64 a0.Work.e1.X),.d (.int .i64 a0.Work.e1.Y),.d (.int .i64 a0.Work.e1.Z)]],[(5,v3.length)]⟩) (λ_=>rfl) ?_ ?_) h
 refine .block (.loopR 15 (.sR λe h=>?_))
 simp only [seval,EMK,eInt]
 refine mU e (.seqK (.condT rfl (.skip (Mir.toK (.seqK (.block (.sR λe h=>?_))))))) h
 simp only [seval,EMK,und_61,sz_2,ag_2,eInt]
 refine mU e (.bind λy7 h8=>.guard λq12=>?_) h
 replace q12 := okStr_ok q12
 try simp only [lm,xNA,xCA,xAN,xLC,xLN,xAC,xAL,nA,zJ] at q12
 refine .guard λq13=>.region λe h=>?_
 simp only [seval,EMK,eInt]
 refine SpecS.by (dc_Millimetres_spec h8) (by simp only [seval,FMK,eInt]) ?_
 simp only [seval,EMK,q12,eInt]
 refine specS_wsN (n := (v2 ++ ([119,111,114,107,32,71] ++ y6) ++ ([32] ++ y7)).length) rfl (lns_at (by simp only [zE,zC,zF,zD,zI,zH,xOS,xON] <;> omega)) (ok2 q13 (by simp only [zE,zC,zF,zD,zI,zH,xOS,xON] <;> omega) rfl) (by simp only [zE,zC,zF,zD,zI,zH,xOS,xON] <;> omega) ?_
 simp only [seval,EMK,eInt]
 refine mU e (.region λe h=>?_) h
 simp only [seval,EMK,(nr rfl : zV.wrap 1 = 1),eInt]
 refine Mir.useN (e := e) ?_ h
 refine .sR λe h=>?_
 simp only [seval,EMK,eInt]
 refine mU e (.seqK (.condT rfl (.skip (Mir.toK (.seqK (.block (.sR λe h=>?_))))))) h
 simp only [seval,EMK,und_61,sz_2,ag_2,eInt]
 refine mU e (.bind λy8 h9=>.guard λq14=>?_) h
 replace q14 := okStr_ok q14
 try simp only [lm,xNA,xCA,xAN,xLC,xLN,xAC,xAL,nA,zJ] at q14
 refine .guard λq15=>.region λe h=>?_
 simp only [seval,EMK,eInt]
 refine SpecS.by (dc_Millimetres_spec h9) (by simp only [seval,FMK,eInt]) ?_
 simp only [seval,EMK,q14,eInt]
 refine specS_wsN (n := (v2 ++ ([119,111,114,107,32,71] ++ y6) ++ ([32] ++ y7) ++ ([32] ++ y8)).length) rfl (lns_at (by simp only [zE,zC,zF,zD,zI,zH,xOS,xON] <;> omega)) (ok2 q15 (by simp only [zE,zC,zF,zD,zI,zH,xOS,xON] <;> omega) rfl) (by simp only [zE,zC,zF,zD,zI,zH,xOS,xON] <;> omega) ?_
 simp only [seval,EMK,eInt]
 refine mU e (.region λe h=>?_) h
 simp only [seval,EMK,(nr rfl : zV.wrap 2 = 2),eInt]
 refine Mir.useN (e := e) ?_ h
 refine .sR λe h=>?_
 simp only [seval,EMK,eInt]
 refine mU e (.seqK (.condT rfl (.skip (Mir.toK (.seqK (.block (.sR λe h=>?_))))))) h
 simp only [seval,EMK,und_61,sz_2,ag_2,eInt]
 refine mU e (.bind λy9 h10=>.guard λq16=>?_) h
 replace q16 := okStr_ok q16
 try simp only [lm,xNA,xCA,xAN,xLC,xLN,xAC,xAL,nA,zJ] at q16
 refine .guard λq17=>.region λe h=>?_
 simp only [seval,EMK,eInt]
 refine SpecS.by (dc_Millimetres_spec h10) (by simp only [seval,FMK,eInt]) ?_
 simp only [seval,EMK,q16,eInt]
 refine specS_wsN (n := (v2 ++ ([119,111,114,107,32,71] ++ y6) ++ ([32] ++ y7) ++ ([32] ++ y8) ++ ([32] ++ y9)).length) rfl (lns_at (by simp only [zE,zC,zF,zD,zI,zH,xOS,xON] <;> omega)) (ok2 q17 (by simp only [zE,zC,zF,zD,zI,zH,xOS,xON] <;> omega) rfl) (by simp only [zE,zC,zF,zD,zI,zH,xOS,xON] <;> omega) ?_
 simp only [seval,EMK,eInt]
 refine mU e (.region λe h=>?_) h
 simp only [seval,EMK,(nr rfl : zV.wrap 3 = 3),eInt]
 refine Mir.useN (e := e) ?_ h
 refine .sR λe h=>?_
 simp only [seval,EMK,eInt]
 refine mU e (.seqK (.condF rfl (.exit λe h=>?_))) h
 cases h
 simp only [seval,FMK,eInt,Tryz.results6]
 intro v3
 refine Mir.toK (.guard λq18=>.region λe h=>?_)
 simp only [seval,EMK,eInt]
 refine specS_wbN (b := 10) (n := (v3 ++ [10]).length) rfl rfl (lns_at (by simp only [zE,zC,zF,zD,zI,zH,xOS,xON] <;> omega)) (ok2 q18 (by simp only [zE,zC,zF,zD,zI,zH,xOS,xON] <;> omega) rfl) (by simp only [zE,zC,zF,zD,zI,zH,xOS,xON] <;> omega) ?_
 simp only [seval,EMK,eInt]
 cases h
 simp only [seval,FMK,eInt,Tryz.results6]
 intro v4
 refine Mir.toK (.region λe h=>?_)
 simp only [seval,EMK,(nr rfl : zV.wrap 2 = 2),eInt]
 refine Mir.useN (e := e) ?_ h
 refine .sR λe h=>?_
 simp only [seval,EMK,eInt]
 refine mU e (.seqK (.condT rfl (.skip (Mir.toK (.seqK (Mir.joinO (λv6 : (List UInt8)=>([U,.ptr 0 0,U,U,U,.ptr 1 0,U,U,U,U,U,U,U,U,U,U,U,U,.agg (w6 a0.Work []),.d (.int .i64 2)] ++ us 50)) (λv6=>⟨[(w6 a0.Work [.d (.list (zG encTableLength a0.Lengths))]),[.adr 1,.own 0 (zG byteE v6)]],[(5,v6.length)]⟩) (λ_=>rfl) ?_ ?_)))))) h
 refine .block (.sR λe h=>?_)
 simp only [seval,EMK,und_24,sz_23,ag_23,zero_23,eInt]
 refine mU e (.seqK (.sR λe h=>?_)) h
 simp only [seval,EMK,ag_23,sz_23,zero_23,pl_23,gE_23,eInt]
 refine mU e (.cond rfl (λh11=>?_) (λh11=>?_)) h
 refine .exit λe h=>?_
 cases h
 simp only [seval,FMK,eInt,Tryz.results6]
 refine .skip (Mir.toK (.seqK (.bind λy10 h12=>.guard λq19=>?_)))
 replace q19 := okStr_ok q19
 try simp only [lm,xNA,xCA,xAN,xLC,xLN,xAC,xAL,nA,zJ] at q19
 refine .guard λq20=>.region λe h=>?_
 simp only [seval,EMK,(nr rfl : zV.wrap 56 = 56),eInt]
 refine SpecS.by (strconv_Itoa_spec h12) (by simp only [seval,FMK,eInt]) ?_
 simp only [seval,EMK,q19,eInt]
 refine specS_wsN (n := (v4 ++ ([119,111,114,107,32,71] ++ y10)).length) rfl (lns_at (by simp only [zE,zC,zF,zD,zI,zH,xOS,xON] <;> omega)) (ok2 q20 (by simp only [zE,zC,zF,zD,zI,zH,xOS,xON] <;> omega) rfl) (by simp only [zE,zC,zF,zD,zI,zH,xOS,xON] <;> omega) ?_
 simp only [seval,EMK,eInt]
 refine mU e (.seqK (.sR λe h=>?_)) h
 simp only [seval,EMK,fld_23_0,sz_2,ag_2,fld_23_1,fld_23_2,und_61,zero_2,(oL 3),(nr rfl : ((3 : Nat) : Int) = 3),eInt]
 refine mU e (Mir.joinO (λv5 : (List UInt8)=>([U,.ptr 0 0,U,U,U,.ptr 1 0,U,U,U,U,U,U,U,U,U,U,U,U,.agg (w6 a0.Work []),.d (.int .i64 2)] ++ us 50)) (λv5=>⟨[(w6 a0.Work [.d (.list (zG encTableLength a0.Lengths))]),[.adr 1,.own 0 (zG byteE v5)],[.d (.int .i64 a0.Work.e2.X),.d (.int .i64 a0.Work.e2.Y),.d (.int .i64 a0.Work.e2.Z)]],[(5,v5.length)]⟩) (λ_=>rfl) ?_ ?_) h
 refine .block (.loopR 15 (.sR λe h=>?_))
 simp only [seval,EMK,eInt]
 refine mU e (.seqK (.condT rfl (.skip (Mir.toK (.seqK (.block (.sR λe h=>?_))))))) h
 simp only [seval,EMK,und_61,sz_2,ag_2,eInt]
 refine mU e (.bind λy11 h13=>.guard λq21=>?_) h
 replace q21 := okStr_ok q21
 try simp only [lm,xNA,xCA,xAN,xLC,xLN,xAC,xAL,nA,zJ] at q21
 refine .guard λq22=>.region λe h=>?_
 simp only [seval,EMK,eInt]
 refine SpecS.by (dc_Millimetres_spec h13) (by simp only [seval,FMK,eInt]) ?_
 simp only [seval,EMK,q21,eInt]
 refine specS_wsN (n := (v4 ++ ([119,111,114,107,32,71] ++ y10) ++ ([32] ++ y11)).length) rfl (lns_at (by simp only [zE,zC,zF,zD,zI,zH,xOS,xON] <;> omega)) (ok2 q22 (by simp only [zE,zC,zF,zD,zI,zH,xOS,xON] <;> omega) rfl) (by simp only [zE,zC,zF,zD,zI,zH,xOS,xON] <;> omega) ?_
 simp only [seval,EMK,eInt]
 refine mU e (.region λe h=>?_) h
 simp only [seval,EMK,(nr rfl : zV.wrap 1 = 1),eInt]
 refine Mir.useN (e := e) ?_ h
 refine .sR λe h=>?_
 simp only [seval,EMK,eInt]
 refine mU e (.seqK (.condT rfl (.skip (Mir.toK (.seqK (.block (.sR λe h=>?_))))))) h
 simp only [seval,EMK,und_61,sz_2,ag_2,eInt]
 refine mU e (.bind λy12 h14=>.guard λq23=>?_) h
 replace q23 := okStr_ok q23
 try simp only [lm,xNA,xCA,xAN,xLC,xLN,xAC,xAL,nA,zJ] at q23
 refine .guard λq24=>.region λe h=>?_
 simp only [seval,EMK,eInt]
 refine SpecS.by (dc_Millimetres_spec h14) (by simp only [seval,FMK,eInt]) ?_
 simp only [seval,EMK,q23,eInt]
 refine specS_wsN (n := (v4 ++ ([119,111,114,107,32,71] ++ y10) ++ ([32] ++ y11) ++ ([32] ++ y12)).length) rfl (lns_at (by simp only [zE,zC,zF,zD,zI,zH,xOS,xON] <;> omega)) (ok2 q24 (by simp only [zE,zC,zF,zD,zI,zH,xOS,xON] <;> omega) rfl) (by simp only [zE,zC,zF,zD,zI,zH,xOS,xON] <;> omega) ?_
 simp only [seval,EMK,eInt]
 refine mU e (.region λe h=>?_) h
 simp only [seval,EMK,(nr rfl : zV.wrap 2 = 2),eInt]
 refine Mir.useN (e := e) ?_ h
 refine .sR λe h=>?_
 simp only [seval,EMK,eInt]
 refine mU e (.seqK (.condT rfl (.skip (Mir.toK (.seqK (.block (.sR λe h=>?_))))))) h
 simp only [seval,EMK,und_61,sz_2,ag_2,eInt]
 refine mU e (.bind λy13 h15=>.guard λq25=>?_) h
 replace q25 := okStr_ok q25
 try simp only [lm,xNA,xCA,xAN,xLC,xLN,xAC,xAL,nA,zJ] at q25
 refine .guard λq26=>.region λe h=>?_
 simp only [seval,EMK,eInt]
 refine SpecS.by (dc_Millimetres_spec h15) (by simp only [seval,FMK,eInt]) ?_
 simp only [seval,EMK,q25,eInt]
 refine specS_wsN (n := (v4 ++ ([119,111,114,107,32,71] ++ y10) ++ ([32] ++ y11) ++ ([32] ++ y12) ++ ([32] ++ y13)).length) rfl (lns_at (by simp only [zE,zC,zF,zD,zI,zH,xOS,xON] <;> omega)) (ok2 q26 (by simp only [zE,zC,zF,zD,zI,zH,xOS,xON] <;> omega) rfl) (by simp only [zE,zC,zF,zD,zI,zH,xOS,xON] <;> omega) ?_
 simp only [seval,EMK,eInt]
 refine mU e (.region λe h=>?_) h
 simp only [seval,EMK,(nr rfl : zV.wrap 3 = 3),eInt]
 refine Mir.useN (e := e) ?_ h
 refine .sR λe h=>?_
 simp only [seval,EMK,eInt]
 refine mU e (.seqK (.condF rfl (.exit λe h=>?_))) h
 cases h
 simp only [seval,FMK,eInt,Tryz.results6]
 intro v5
 refine Mir.toK (.guard λq27=>.region λe h=>?_)
 simp only [seval,EMK,eInt]
 refine specS_wbN (b := 10) (n := (v5 ++ [10]).length) rfl rfl (lns_at (by simp only [zE,zC,zF,zD,zI,zH,xOS,xON] <;> omega)) (ok2 q27 (by simp only [zE,zC,zF,zD,zI,zH,xOS,xON] <;> omega) rfl) (by simp only [zE,zC,zF,zD,zI,zH,xOS,xON] <;> omega) ?_
 simp only [seval,EMK,eInt]
 cases h
 simp only [seval,FMK,eInt,Tryz.results6]
 intro v6
 refine Mir.toK (.region λe h=>?_)
 simp only [seval,EMK,(nr rfl : zV.wrap 3 = 3),eInt]
 refine Mir.useN (e := e) ?_ h
 refine .sR λe h=>?_
 simp only [seval,EMK,eInt]
 refine mU e (.seqK (.condT rfl (.skip (Mir.toK (.seqK (Mir.joinO (λv8 : (List UInt8)=>([U,.ptr 0 0,U,U,U,.ptr 1 0,U,U,U,U,U,U,U,U,U,U,U,U,.agg (w6 a0.Work []),.d (.int .i64 3)] ++ us 50)) (λv8=>⟨[(w6 a0.Work [.d (.list (zG encTableLength a0.Lengths))]),[.adr 1,.own 0 (zG byteE v8)]],[(5,v8.length)]⟩) (λ_=>rfl) ?_ ?_)))))) h
 refine .block (.sR λe h=>?_)
 simp only [seval,EMK,und_24,sz_23,ag_23,zero_23,eInt]
 refine mU e (.seqK (.sR λe h=>?_)) h
 simp only [seval,EMK,ag_23,sz_23,zero_23,pl_23,gE_23,eInt]
 refine mU e (.cond rfl (λh16=>?_) (λh16=>?_)) h
 refine .exit λe h=>?_
 cases h
 simp only [seval,FMK,eInt,Tryz.results6]
 refine .skip (Mir.toK (.seqK (.bind λy14 h17=>.guard λq28=>?_)))
 replace q28 := okStr_ok q28
 try simp only [lm,xNA,xCA,xAN,xLC,xLN,xAC,xAL,nA,zJ] at q28
 refine .guard λq29=>.region λe h=>?_
 simp only [seval,EMK,(nr rfl : zV.wrap 57 = 57),eInt]
 refine SpecS.by (strconv_Itoa_spec h17) (by simp only [seval,FMK,eInt]) ?_
 simp only [seval,EMK,q28,eInt]
 refine specS_wsN (n := (v6 ++ ([119,111,114,107,32,71] ++ y14)).length) rfl (lns_at (by simp only [zE,zC,zF,zD,zI,zH,xOS,xON] <;> omega)) (ok2 q29 (by simp only [zE,zC,zF,zD,zI,zH,xOS,xON] <;> omega) rfl) (by simp only [zE,zC,zF,zD,zI,zH,xOS,xON] <;> omega) ?_
 simp only [seval,EMK,eInt]
 refine mU e (.seqK (.sR λe h=>?_)) h
 simp only [seval,EMK,fld_23_0,sz_2,ag_2,fld_23_1,fld_23_2,und_61,zero_2,(oL 3),(nr rfl : ((3 : Nat) : Int) = 3),eInt]
 refine mU e (Mir.joinO (λv7 : (List UInt8)=>([U,.ptr 0 0,U,U,U,.ptr 1 0,U,U,U,U,U,U,U,U,U,U,U,U,.agg (w6 a0.Work []),.d (.int .i64 3)] ++ us 50)) (λv7=>⟨[(w6 a0.Work [.d (.list (zG encTableLength a0.Lengths))]),[.adr 1,.own 0 (zG byteE v7)],[.d (.int .i64 a0.Work.e3.X),.d (.int .i64 a0.Work.e3.Y),.d (.int .i64 a0.Work.e3.Z)]],[(5,v7.length)]⟩) (λ_=>rfl) ?_ ?_) h
 refine .block (.loopR 15 (.sR λe h=>?_))
 simp only [seval,EMK,eInt]
 refine mU e (.seqK (.condT rfl (.skip (Mir.toK (.seqK (.block (.sR λe h=>?_))))))) h
 simp only [seval,EMK,und_61,sz_2,ag_2,eInt]
 refine mU e (.bind λy15 h18=>.guard λq30=>?_) h
 replace q30 := okStr_ok q30
 try simp only [lm,xNA,xCA,xAN,xLC,xLN,xAC,xAL,nA,zJ] at q30
 refine .guard λq31=>.region λe h=>?_
 simp only [seval,EMK,eInt]
 refine SpecS.by (dc_Millimetres_spec h18) (by simp only [seval,FMK,eInt]) ?_
 simp only [seval,EMK,q30,eInt]
 refine specS_wsN (n := (v6 ++ ([119,111,114,107,32,71] ++ y14) ++ ([32] ++ y15)).length) rfl (lns_at (by simp only [zE,zC,zF,zD,zI,zH,xOS,xON] <;> omega)) (ok2 q31 (by simp only [zE,zC,zF,zD,zI,zH,xOS,xON] <;> omega) rfl) (by simp only [zE,zC,zF,zD,zI,zH,xOS,xON] <;> omega) ?_
 simp only [seval,EMK,eInt]
 refine mU e (.region λe h=>?_) h
 simp only [seval,EMK,(nr rfl : zV.wrap 1 = 1),eInt]
 refine Mir.useN (e := e) ?_ h
 refine .sR λe h=>?_
 simp only [seval,EMK,eInt]
 refine mU e (.seqK (.condT rfl (.skip (Mir.toK (.seqK (.block (.sR λe h=>?_))))))) h
 simp only [seval,EMK,und_61,sz_2,ag_2,eInt]
 refine mU e (.bind λy16 h19=>.guard λq32=>?_) h
 replace q32 := okStr_ok q32
 try simp only [lm,xNA,xCA,xAN,xLC,xLN,xAC,xAL,nA,zJ] at q32
 refine .guard λq33=>.region λe h=>?_
 simp only [seval,EMK,eInt]
 refine SpecS.by (dc_Millimetres_spec h19) (by simp only [seval,FMK,eInt]) ?_
 simp only [seval,EMK,q32,eInt]
 refine specS_wsN (n := (v6 ++ ([119,111,114,107,32,71] ++ y14) ++ ([32] ++ y15) ++ ([32] ++ y16)).length) rfl (lns_at (by simp only [zE,zC,zF,zD,zI,zH,xOS,xON] <;> omega)) (ok2 q33 (by simp only [zE,zC,zF,zD,zI,zH,xOS,xON] <;> omega) rfl) (by simp only [zE,zC,zF,zD,zI,zH,xOS,xON] <;> omega) ?_
 simp only [seval,EMK,eInt]
 refine mU e (.region λe h=>?_) h
 simp only [seval,EMK,(nr rfl : zV.wrap 2 = 2),eInt]
 refine Mir.useN (e := e) ?_ h
 refine .sR λe h=>?_
 simp only [seval,EMK,eInt]
 refine mU e (.seqK (.condT rfl (.skip (Mir.toK (.seqK (.block (.sR λe h=>?_))))))) h
 simp only [seval,EMK,und_61,sz_2,ag_2,eInt]
 refine mU e (.bind λy17 h20=>.guard λq34=>?_) h
 replace q34 := okStr_ok q34
 try simp only [lm,xNA,xCA,xAN,xLC,xLN,xAC,xAL,nA,zJ] at q34
 refine .guard λq35=>.region λe h=>?_
 simp only [seval,EMK,eInt]
 refine SpecS.by (dc_Millimetres_spec h20) (by simp only [seval,FMK,eInt]) ?_
 simp only [seval,EMK,q34,eInt]
 refine specS_wsN (n := (v6 ++ ([119,111,114,107,32,71] ++ y14) ++ ([32] ++ y15) ++ ([32] ++ y16) ++ ([32] ++ y17)).length) rfl (lns_at (by simp only [zE,zC,zF,zD,zI,zH,xOS,xON] <;> omega)) (ok2 q35 (by simp only [zE,zC,zF,zD,zI,zH,xOS,xON] <;> omega) rfl) (by simp only [zE,zC,zF,zD,zI,zH,xOS,xON] <;> omega) ?_
 simp only [seval,EMK,eInt]
 refine mU e (.region λe h=>?_) h
 simp only [seval,EMK,(nr rfl : zV.wrap 3 = 3),eInt]
 refine Mir.useN (e := e) ?_ h
 refine .sR λe h=>?_
 simp only [seval,EMK,eInt]
 refine mU e (.seqK (.condF rfl (.exit λe h=>?_))) h
 cases h
 simp only [seval,FMK,eInt,Tryz.results6]
 intro v7
 refine Mir.toK (.guard λq36=>.region λe h=>?_)
 simp only [seval,EMK,eInt]
 refine specS_wbN (b := 10) (n := (v7 ++ [10]).length) rfl rfl (lns_at (by simp only [zE,zC,zF,zD,zI,zH,xOS,xON] <;> omega)) (ok2 q36 (by simp only [zE,zC,zF,zD,zI,zH,xOS,xON] <;> omega) rfl) (by simp only [zE,zC,zF,zD,zI,zH,xOS,xON] <;> omega) ?_
 simp only [seval,EMK,eInt]
 cases h
 simp only [seval,FMK,eInt,Tryz.results6]
 intro v8
 refine Mir.toK (.region λe h=>?_)
 simp only [seval,EMK,(nr rfl : zV.wrap 4 = 4),eInt]
 refine Mir.useN (e := e) ?_ h
 refine .sR λe h=>?_
 simp only [seval,EMK,eInt]
 refine mU e (.seqK (.condT rfl (.skip (Mir.toK (.seqK (Mir.joinO (λv10 : (List UInt8)=>([U,.ptr 0 0,U,U,U,.ptr 1 0,U,U,U,U,U,U,U,U,U,U,U,U,.agg (w6 a0.Work []),.d (.int .i64 4)] ++ us 50)) (λv10=>⟨[(w6 a0.Work [.d (.list (zG encTableLength a0.Lengths))]),[.adr 1,.own 0 (zG byteE v10)]],[(5,v10.length)]⟩) (λ_=>rfl) ?_ ?_)))))) h
 refine .block (.sR λe h=>?_)
 simp only [seval,EMK,und_24,sz_23,ag_23,zero_23,eInt]
 refine mU e (.seqK (.sR λe h=>?_)) h
 simp only [seval,EMK,ag_23,sz_23,zero_23,pl_23,gE_23,eInt]
 refine mU e (.cond rfl (λh21=>?_) (λh21=>?_)) h
 refine .exit λe h=>?_
 cases h
 simp only [seval,FMK,eInt,Tryz.results6]
 refine .skip (Mir.toK (.seqK (.bind λy18 h22=>.guard λq37=>?_)))
 replace q37 := okStr_ok q37
 try simp only [lm,xNA,xCA,xAN,xLC,xLN,xAC,xAL,nA,zJ] at q37
 refine .guard λq38=>.region λe h=>?_
 simp only [seval,EMK,(nr rfl : zV.wrap 58 = 58),eInt]
 refine SpecS.by (strconv_Itoa_spec h22) (by simp only [seval,FMK,eInt]) ?_
 simp only [seval,EMK,q37,eInt]
 refine specS_wsN (n := (v8 ++ ([119,111,114,107,32,71] ++ y18)).length) rfl (lns_at (by simp only [zE,zC,zF,zD,zI,zH,xOS,xON] <;> omega)) (ok2 q38 (by simp only [zE,zC,zF,zD,zI,zH,xOS,xON] <;> omega) rfl) (by simp only [zE,zC,zF,zD,zI,zH,xOS,xON] <;> omega) ?_
 simp only [seval,EMK,eInt]
 refine mU e (.seqK (.sR λe h=>?_)) h
 simp only [seval,EMK,fld_23_0,sz_2,ag_2,fld_23_1,fld_23_2,und_61,zero_2,(oL 3),(nr rfl : ((3 : Nat) : Int) = 3),eInt]
 refine mU e (Mir.joinO (λv9 : (List UInt8)=>([U,.ptr 0 0,U,U,U,.ptr 1 0,U,U,U,U,U,U,U,U,U,U,U,U,.agg (w6 a0.Work []),.d (.int .i64 4)] ++ us 50)) (λv9=>⟨[(w6 a0.Work [.d (.list (zG encTableLength a0.Lengths))]),[.adr 1,.own 0 (zG byteE v9)],[.d (.int .i64 a0.Work.e4.X),.d (.int .i64 a0.Work.e4.Y),.d (.int .i64 a0.Work.e4.Z)]],[(5,v9.length)]⟩) (λ_=>rfl) ?_ ?_) h
 refine .block (.loopR 15 (.sR λe h=>?_))
 simp only [seval,EMK,eInt]
 refine mU e (.seqK (.condT rfl (.skip (Mir.toK (.seqK (.block (.sR λe h=>?_))))))) h
 simp only [seval,EMK,und_61,sz_2,ag_2,eInt]
 refine mU e (.bind λy19 h23=>.guard λq39=>?_) h
 replace q39 := okStr_ok q39
 try simp only [lm,xNA,xCA,xAN,xLC,xLN,xAC,xAL,nA,zJ] at q39
 refine .guard λq40=>.region λe h=>?_
 simp only [seval,EMK,eInt]
 refine SpecS.by (dc_Millimetres_spec h23) (by simp only [seval,FMK,eInt]) ?_
 simp only [seval,EMK,q39,eInt]
 refine specS_wsN (n := (v8 ++ ([119,111,114,107,32,71] ++ y18) ++ ([32] ++ y19)).length) rfl (lns_at (by simp only [zE,zC,zF,zD,zI,zH,xOS,xON] <;> omega)) (ok2 q40 (by simp only [zE,zC,zF,zD,zI,zH,xOS,xON] <;> omega) rfl) (by simp only [zE,zC,zF,zD,zI,zH,xOS,xON] <;> omega) ?_
 simp only [seval,EMK,eInt]
 refine mU e (.region λe h=>?_) h
 simp only [seval,EMK,(nr rfl : zV.wrap 1 = 1),eInt]
 refine Mir.useN (e := e) ?_ h
 refine .sR λe h=>?_
 simp only [seval,EMK,eInt]
 refine mU e (.seqK (.condT rfl (.skip (Mir.toK (.seqK (.block (.sR λe h=>?_))))))) h
 simp only [seval,EMK,und_61,sz_2,ag_2,eInt]
 refine mU e (.bind λy20 h24=>.guard λq41=>?_) h
 replace q41 := okStr_ok q41
 try simp only [lm,xNA,xCA,xAN,xLC,xLN,xAC,xAL,nA,zJ] at q41
 refine .guard λq42=>.region λe h=>?_
 simp only [seval,EMK,eInt]
 refine SpecS.by (dc_Millimetres_spec h24) (by simp only [seval,FMK,eInt]) ?_
 simp only [seval,EMK,q41,eInt]
 refine specS_wsN (n := (v8 ++ ([119,111,114,107,32,71] ++ y18) ++ ([32] ++ y19) ++ ([32] ++ y20)).length) rfl (lns_at (by simp only [zE,zC,zF,zD,zI,zH,xOS,xON] <;> omega)) (ok2 q42 (by simp only [zE,zC,zF,zD,zI,zH,xOS,xON] <;> omega) rfl) (by simp only [zE,zC,zF,zD,zI,zH,xOS,xON] <;> omega) ?_
 simp only [seval,EMK,eInt]
 refine mU e (.region λe h=>?_) h
 simp only [seval,EMK,(nr rfl : zV.wrap 2 = 2),eInt]
 refine Mir.useN (e := e) ?_ h
 refine .sR λe h=>?_
 simp only [seval,EMK,eInt]
 refine mU e (.seqK (.condT rfl (.skip (Mir.toK (.seqK (.block (.sR λe h=>?_))))))) h
 simp only [seval,EMK,und_61,sz_2,ag_2,eInt]
 refine mU e (.bind λy21 h25=>.guard λq43=>?_) h
 replace q43 := okStr_ok q43
 try simp only [lm,xNA,xCA,xAN,xLC,xLN,xAC,xAL,nA,zJ] at q43
 refine .guard λq44=>.region λe h=>?_
 simp only [seval,EMK,eInt]
 refine SpecS.by (dc_Millimetres_spec h25) (by simp only [seval,FMK,eInt]) ?_
 simp only [seval,EMK,q43,eInt]
 refine specS_wsN (n := (v8 ++ ([119,111,114,107,32,71] ++ y18) ++ ([32] ++ y19) ++ ([32] ++ y20) ++ ([32] ++ y21)).length) rfl (lns_at (by simp only [zE,zC,zF,zD,zI,zH,xOS,xON] <;> omega)) (ok2 q44 (by simp only [zE,zC,zF,zD,zI,zH,xOS,xON] <;> omega) rfl) (by simp only [zE,zC,zF,zD,zI,zH,xOS,xON] <;> omega) ?_
 simp only [seval,EMK,eInt]
 refine mU e (.region λe h=>?_) h
 simp only [seval,EMK,(nr rfl : zV.wrap 3 = 3),eInt]
 refine Mir.useN (e := e) ?_ h
 refine .sR λe h=>?_
 simp only [seval,EMK,eInt]
 refine mU e (.seqK (.condF rfl (.exit λe h=>?_))) h
 cases h
 simp only [seval,FMK,eInt,Tryz.results6]
 intro v9
 refine Mir.toK (.guard λq45=>.region λe h=>?_)
 simp only [seval,EMK,eInt]
 refine specS_wbN (b := 10) (n := (v9 ++ [10]).length) rfl rfl (lns_at (by simp only [zE,zC,zF,zD,zI,zH,xOS,xON] <;> omega)) (ok2 q45 (by simp only [zE,zC,zF,zD,zI,zH,xOS,xON] <;> omega) rfl) (by simp only [zE,zC,zF,zD,zI,zH,xOS,xON] <;> omega) ?_
 simp only [seval,EMK,eInt]
 cases h
 simp only [seval,FMK,eInt,Tryz.results6]
 intro v10
 refine Mir.toK (.region λe h=>?_)
 simp only [seval,EMK,(nr rfl : zV.wrap 5 = 5),eInt]
 refine Mir.useN (e := e) ?_ h
 refine .sR λe h=>?_
 simp only [seval,EMK,eInt]
 refine mU e (.seqK (.condT rfl (.skip (Mir.toK (.seqK (Mir.joinO (λv12 : (List UInt8)=>([U,.ptr 0 0,U,U,U,.ptr 1 0,U,U,U,U,U,U,U,U,U,U,U,U,.agg (w6 a0.Work []),.d (.int .i64 5)] ++ us 50)) (λv12=>⟨[(w6 a0.Work [.d (.list (zG encTableLength a0.Lengths))]),[.adr 1,.own 0 (zG byteE v12)]],[(5,v12.length)]⟩) (λ_=>rfl) ?_ ?_)))))) h
 refine .block (.sR λe h=>?_)
 simp only [seval,EMK,und_24,sz_23,ag_23,zero_23,eInt]
 refine mU e (.seqK (.sR λe h=>?_)) h
 simp only [seval,EMK,ag_23,sz_23,zero_23,pl_23,gE_23,eInt]
 refine mU e (.cond rfl (λh26=>?_) (λh26=>?_)) h
 refine .exit λe h=>?_
 cases h
 simp only [seval,FMK,eInt,Tryz.results6]
 refine .skip (Mir.toK (.seqK (.bind λy22 h27=>.guard λq46=>?_)))
 replace q46 := okStr_ok q46
 try simp only [lm,xNA,xCA,xAN,xLC,xLN,xAC,xAL,nA,zJ] at q46
 refine .guard λq47=>.region λe h=>?_
 simp only [seval,EMK,(nr rfl : zV.wrap 59 = 59),eInt]
 refine SpecS.by (strconv_Itoa_spec h27) (by simp only [seval,FMK,eInt]) ?_
 simp only [seval,EMK,q46,eInt]
 refine specS_wsN (n := (v10 ++ ([119,111,114,107,32,71] ++ y22)).length) rfl (lns_at (by simp only [zE,zC,zF,zD,zI,zH,xOS,xON] <;> omega)) (ok2 q47 (by simp only [zE,zC,zF,zD,zI,zH,xOS,xON] <;> omega) rfl) (by simp only [zE,zC,zF,zD,zI,zH,xOS,xON] <;> omega) ?_
 simp only [seval,EMK,eInt]
 refine mU e (.seqK (.sR λe h=>?_)) h
 simp only [seval,EMK,fld_23_0,sz_2,ag_2,fld_23_1,fld_23_2,und_61,zero_2,(oL 3),(nr rfl : ((3 : Nat) : Int) = 3),eInt]
 refine mU e (Mir.joinO (λv11 : (List UInt8)=>([U,.ptr 0 0,U,U,U,.ptr 1 0,U,U,U,U,U,U,U,U,U,U,U,U,.agg (w6 a0.Work []),.d (.int .i64 5)] ++ us 50)) (λv11=>⟨[(w6 a0.Work [.d (.list (zG encTableLength a0.Lengths))]),[.adr 1,.own 0 (zG byteE v11)],[.d (.int .i64 a0.Work.e5.X),.d (.int .i64 a0.Work.e5.Y),.d (.int .i64 a0.Work.e5.Z)]],[(5,v11.length)]⟩) (λ_=>rfl) ?_ ?_) h
 refine .block (.loopR 15 (.sR λe h=>?_))
 simp only [seval,EMK,eInt]
 refine mU e (.seqK (.condT rfl (.skip (Mir.toK (.seqK (.block (.sR λe h=>?_))))))) h
 simp only [seval,EMK,und_61,sz_2,ag_2,eInt]
 refine mU e (.bind λy23 h28=>.guard λq48=>?_) h
 replace q48 := okStr_ok q48
 try simp only [lm,xNA,xCA,xAN,xLC,xLN,xAC,xAL,nA,zJ] at q48
 refine .guard λq49=>.region λe h=>?_
 simp only [seval,EMK,eInt]
 refine SpecS.by (dc_Millimetres_spec h28) (by simp only [seval,FMK,eInt]) ?_
 simp only [seval,EMK,q48,eInt]
 refine specS_wsN (n := (v10 ++ ([119,111,114,107,32,71] ++ y22) ++ ([32] ++ y23)).length) rfl (lns_at (by simp only [zE,zC,zF,zD,zI,zH,xOS,xON] <;> omega)) (ok2 q49 (by simp only [zE,zC,zF,zD,zI,zH,xOS,xON] <;> omega) rfl) (by simp only [zE,zC,zF,zD,zI,zH,xOS,xON] <;> omega) ?_
 simp only [seval,EMK,eInt]
 refine mU e (.region λe h=>?_) h
 simp only [seval,EMK,(nr rfl : zV.wrap 1 = 1),eInt]
 refine Mir.useN (e := e) ?_ h
 refine .sR λe h=>?_
 simp only [seval,EMK,eInt]
 refine mU e (.seqK (.condT rfl (.skip (Mir.toK (.seqK (.block (.sR λe h=>?_))))))) h
 simp only [seval,EMK,und_61,sz_2,ag_2,eInt]
 refine mU e (.bind λy24 h29=>.guard λq50=>?_) h
 replace q50 := okStr_ok q50
 try simp only [lm,xNA,xCA,xAN,xLC,xLN,xAC,xAL,nA,zJ] at q50
 refine .guard λq51=>.region λe h=>?_
 simp only [seval,EMK,eInt]
 refine SpecS.by (dc_Millimetres_spec h29) (by simp only [seval,FMK,eInt]) ?_
 simp only [seval,EMK,q50,eInt]
 refine specS_wsN (n := (v10 ++ ([119,111,114,107,32,71] ++ y22) ++ ([32] ++ y23) ++ ([32] ++ y24)).length) rfl (lns_at (by simp only [zE,zC,zF,zD,zI,zH,xOS,xON] <;> omega)) (ok2 q51 (by simp only [zE,zC,zF,zD,zI,zH,xOS,xON] <;> omega) rfl) (by simp only [zE,zC,zF,zD,zI,zH,xOS,xON] <;> omega) ?_
 simp only [seval,EMK,eInt]
 refine mU e (.region λe h=>?_) h
 simp only [seval,EMK,(nr rfl : zV.wrap 2 = 2),eInt]
 refine Mir.useN (e := e) ?_ h
 refine .sR λe h=>?_
 simp only [seval,EMK,eInt]
 refine mU e (.seqK (.condT rfl (.skip (Mir.toK (.seqK (.block (.sR λe h=>?_))))))) h
 simp only [seval,EMK,und_61,sz_2,ag_2,eInt]
 refine mU e (.bind λy25 h30=>.guard λq52=>?_) h
 replace q52 := okStr_ok q52
 try simp only [lm,xNA,xCA,xAN,xLC,xLN,xAC,xAL,nA,zJ] at q52
 refine .guard λq53=>.region λe h=>?_
 simp only [seval,EMK,eInt]
 refine SpecS.by (dc_Millimetres_spec h30) (by simp only [seval,FMK,eInt]) ?_
 simp only [seval,EMK,q52,eInt]
 refine specS_wsN (n := (v10 ++ ([119,111,114,107,32,71] ++ y22) ++ ([32] ++ y23) ++ ([32] ++ y24) ++ ([32] ++ y25)).length) rfl (lns_at (by simp only [zE,zC,zF,zD,zI,zH,xOS,xON] <;> omega)) (ok2 q53 (by simp only [zE,zC,zF,zD,zI,zH,xOS,xON] <;> omega) rfl) (by simp only [zE,zC,zF,zD,zI,zH,xOS,xON] <;> omega) ?_
 simp only [seval,EMK,eInt]
 refine mU e (.region λe h=>?_) h
 simp only [seval,EMK,(nr rfl : zV.wrap 3 = 3),eInt]
 refine Mir.useN (e := e) ?_ h
 refine .sR λe h=>?_
 simp only [seval,EMK,eInt]
 refine mU e (.seqK (.condF rfl (.exit λe h=>?_))) h
 cases h
 simp only [seval,FMK,eInt,Tryz.results6]
 intro v11
 refine Mir.toK (.guard λq54=>.region λe h=>?_)
 simp only [seval,EMK,eInt]
 refine specS_wbN (b := 10) (n := (v11 ++ [10]).length) rfl rfl (lns_at (by simp only [zE,zC,zF,zD,zI,zH,xOS,xON] <;> omega)) (ok2 q54 (by simp only [zE,zC,zF,zD,zI,zH,xOS,xON] <;> omega) rfl) (by simp only [zE,zC,zF,zD,zI,zH,xOS,xON] <;> omega) ?_
 simp only [seval,EMK,eInt]
 cases h
 simp only [seval,FMK,eInt,Tryz.results6]
 intro v12
 refine Mir.toK (.region λe h=>?_)
 simp only [seval,EMK,(nr rfl : zV.wrap 6 = 6),eInt]
 refine Mir.useN (e := e) ?_ h
 refine .sR λe h=>?_
 simp only [seval,EMK,eInt]
 refine mU e (.seqK (.condF rfl (.exit λe h=>?_))) h
 cases h
 simp only [seval,FMK,eInt,Tryz.results6]
 intro v13
 refine Mir.toK (.seqK (.sR λe h=>?_))
 simp only [seval,EMK,fld_34_1,sz_32,ag_32,und_32,eInt]
 refine mU e (Mir.joinO (λv15 : (List UInt8)=>([U,U,U,U,U,.ptr 1 0] ++ us 64)) (λv15=>⟨[(w6 a0.Work [.d (.list (zG encTableLength a0.Lengths))]),[.adr 1,.own 0 (zG byteE v15)]],[(5,v15.length)]⟩) (λ_=>rfl) ?_ ?_) h
 refine .block (.guard λq55=>Mir.range (λ(i1 : Nat) (v14 : (List UInt8))=>([U,U,U,U,U,.ptr 1 0,U,U,U,U,U,U,U,U,U,U,U,U,U,U,U,U,U,U,U,U,U,U,U,U,U,U,U,U,U,U,U,U,U,U,U,U,U,U,U,U,U,U,U,U,U,.d (.list (zG encTableLength a0.Lengths)),.d (.int .i64 (a0.Lengths.length : Int)),.d (.int .i64 (i1 : Int))] ++ us 16)) (λi1 v14=>⟨[(w6 a0.Work [.d (.list (zG encTableLength a0.Lengths))]),[.adr 1,.own 0 (zG byteE v14)]],[(5,v14.length)]⟩) q55 (λ_ _=>rfl) (by simp only [seval,FMK,eInt,zNI]) (by simp only [seval,FMK,eInt,zNI]) ?_ ?_)
 intro i1 e1 v14 q56
 refine .sR λe h=>?_
 simp only [seval,EMK,q56,eInt]
 refine mU e (.seqK (.condT rfl (.skip (Mir.toK (.seqK (.block (.sR λe h=>?_))))))) h
 simp only [seval,EMK,und_32,sz_65,q56,zN,ag_65,zero_65,eInt]
 refine mU e (.bind λy26 h31=>.guard λq57=>?_) h
 replace q57 := okStr_ok q57
 try simp only [lm,xNA,xCA,xAN,xLC,xLN,xAC,xAL,nA,zJ] at q57
 refine .guard λq58=>?_
 replace q58 := okStr_ok q58
 try simp only [lm,xNA,xCA,xAN,xLC,xLN,xAC,xAL,nA,zJ] at q58
 refine .bind λy27 h32=>.guard λq59=>?_
 replace q59 := okStr_ok q59
 try simp only [lm,xNA,xCA,xAN,xLC,xLN,xAC,xAL,nA,zJ] at q59
 refine .guard λq60=>?_
 replace q60 := okStr_ok q60
 try simp only [lm,xNA,xCA,xAN,xLC,xLN,xAC,xAL,nA,zJ] at q60
 refine .guard λq61=>.regionT 8 [] (by kernel_rfl) λe h=>?_
 simp only [seval,EMK,w_none,w_eq,SB,fld_65_0,sz_2,ag_2,eInt]
 refine Spec.by (strconv_FormatInt_spec h31) (by simp only [seval,FMK,eInt]) ?_
 simp only [seval,EMK,w_none,w_eq,SB,q57,q58,fld_65_1,sz_2,ag_2,eInt]
 refine Spec.by (dc_Millimetres_spec h32) (by simp only [seval,FMK,eInt]) ?_
 simp only [seval,EMK,w_none,w_eq,SB,eInt]
 refine regW.of ?_
 simp only [seval,EMK,w_none,w_eq,q59,q60,eInt]
 refine specS_wsN (n := (v14 ++ (((([108,101,110,103,116,104,32] ++ y26) ++ [32]) ++ y27) ++ [10])).length) rfl (lns_at (by simp only [zE,zC,zF,zD,zI,zH,xOS,xON] <;> omega)) (ok2 q61 (by simp only [zE,zC,zF,zD,zI,zH,xOS,xON] <;> omega) rfl) (by simp only [zE,zC,zF,zD,zI,zH,xOS,xON] <;> omega) ?_
 simp only [seval,EMK,w_none,w_eq,eInt]
 refine mU e (.region λe h=>?_) h
 simp only [seval,EMK,eInt]
 cases h
 simp only [seval,FMK,eInt,Tryz.results6,q56]
 intro v14 q62
 refine .sR λe h=>?_
 simp only [seval,EMK,q62,eInt]
 refine mU e (.seqK (.condF rfl (.exit λe h=>?_))) h
 cases h
 simp only [seval,FMK,eInt,Tryz.results6]
 intro v15
 refine Mir.toK (.sR λe h=>?_)
 simp only [seval,EMK,eInt]
 refine specS_st rfl (lns_at (by simp only [zE,zC,zF,zD,zI,zH,xOS,xON] <;> omega)) ?_
 simp only [seval,EMK,eInt]
 refine mU e (.ret λe h=>?_) h
 cases h
 simp only [seval,FMK,eInt,Tryz.results6]
def l45_awake  : Option Bool := bindO (tb_SetWork (TableTable.mk (Arr6ApiPos.mk (ApiPos.mk 0 0 0) (ApiPos.mk 0 0 0) (ApiPos.mk 0 0 0) (ApiPos.mk 0 0 0) (ApiPos.mk 0 0 0) (ApiPos.mk 0 0 0)) []) 55000 (ApiPos.mk 1000 2000 (-500))) λ(y1 : TableTable × Int)=>bindO (tb_SetLength y1.1 3 75000) λ(y2 : TableTable × Int)=>bindO (tb_Machine (TableTable.mk y2.1.Work y2.1.Lengths) 55000 3 (ApiPos.mk 0 0 0)) λ(y3 : ApiPos × Int)=>bindO (tb_Format (TableTable.mk y2.1.Work y2.1.Lengths)) λ(y4 : (List UInt8) × Int)=>some ((y1.2 == 0) && ((y2.2 == 0) && ((y3.2 == 0) && ((y4.2 == 0) && (((y3.1.X == 1000) && ((y3.1.Y == 2000) && (y3.1.Z == 74500))) && (y4.1 == [119,111,114,107,32,71,53,53,32,49,32,50,32,45,48,46,53,10,108,101,110,103,116,104,32,51,32,55,53,10]))))))
theorem l45_awake_spec  {y : Bool} (h : l45_awake = some y) : Spec gP 5 [] (.d (.bool y)) := by
 refine spec_mir Tryz.func5 rfl (by kernel_rfl) (by kernel_rfl) (λy : Bool=>.d (.bool y)) ?_ h
 unfold l45_awake
 simp only [zK,zM,nS,nA,Tryz.ntmps5,SV]
 refine .sR λe h=>?_
 simp only [seval,EMK]
 refine mU e (.seqK (.bind λy1 hy1=>.region λe h=>?_)) h
 simp only [seval,EMK,zero_34,pl_34,zero_23,pl_23]
 refine SpecS.by (tb_SetWork_spec hy1) (by simp only [seval,FMK]) ?_
 simp only [seval,EMK,zero_34,sz_34]
 refine mU e (.seqK (.bind λy2 hy2=>.region λe h=>?_)) h
 simp only [seval,EMK,ag_34,sz_34]
 refine SpecS.by (tb_SetLength_spec hy2) (by simp only [seval,FMK]) ?_
 simp only [seval,EMK,zero_34,sz_34]
 refine mU e (.seqK (.bind λy3 hy3=>.region λe h=>?_)) h
 simp only [seval,EMK,ag_34,sz_34,zero_23,pl_23]
 refine SpecS.by (tb_Machine_spec hy3) (by simp only [seval,FMK]) ?_
 simp only [seval,EMK,zero_23,sz_23]
 refine mU e (.seqK (.bind λy4 hy4=>.region λe h=>?_)) h
 simp only [seval,EMK,ag_34,sz_34]
 refine SpecS.by (tb_Format_spec hy4) (by simp only [seval,FMK]) ?_
 simp only [seval,EMK]
 refine mU e (.seqK (.joinV ([.d (.bool ((y1.2 == 0) && ((y2.2 == 0) && ((y3.2 == 0) && ((y4.2 == 0) && (((y3.1.X == 1000) && ((y3.1.Y == 2000) && (y3.1.Z == 74500))) && (y4.1 == [119,111,114,107,32,71,53,53,32,49,32,50,32,45,48,46,53,10,108,101,110,103,116,104,32,51,32,55,53,10])))))))] ++ us 53) ⟨[(w6 y1.1.Work [.d (.list (zG encTableLength y1.1.Lengths))]),(w6 y2.1.Work [.d (.list (zG encTableLength y2.1.Lengths))]),[.d (.int .i64 y3.1.X),.d (.int .i64 y3.1.Y),.d (.int .i64 y3.1.Z)]],[]⟩ rfl ?_ ?_)) h
 refine SWs.region ?_
 rcases zL (y1.2 == 0) with hb5 | hb5
 rcases zL (y2.2 == 0) with hb6 | hb6
 rcases zL (y3.2 == 0) with hb7 | hb7
 rcases zL (y4.2 == 0) with hb8 | hb8
 rcases zL ((y3.1.X == 1000) && ((y3.1.Y == 2000) && (y3.1.Z == 74500))) with hb9 | hb9
 simp only [seval,EMK,SL,PB,ag_23,sz_23,zero_23,pl_23,gE_23,hb5,hb6,hb7,hb8,hb9]
 simp only [seval,EMK,SL,PB,ag_23,sz_23,zero_23,pl_23,gE_23,hb5,hb6,hb7,hb8,hb9]
 simp only [seval,EMK,SL,PB,hb5,hb6,hb7,hb8]
 simp only [seval,EMK,SL,PB,hb5,hb6,hb7]
 simp only [seval,EMK,SL,PB,hb5,hb6]
 simp only [seval,EMK,SL,PB,hb5]
 refine Mir.toK (.ret λe h=>?_)
 cases h
 simp only [seval,FMK,Tryz.results5]
def l45_own (a0 : TableTable) : Option R45Table := bindO (guardO (okIdx a0.Lengths) ( rangeX (λ(i1 : Nat) (e1 : TableLength) (v1 : (List R45Length))=>guardO (okLen (v1.length + 1)) ( some (.go (v1 ++ [R45Length.mk e1.Number e1.Length])))) (λ(v1 : (List R45Length))=>some v1) a0.Lengths 0 [])) λ(v2 : (List R45Length))=>some (R45Table.mk a0.Work v2)
theorem l45_own_spec {a0 : TableTable} {y : R45Table} (h : l45_own a0 = some y) : Spec gP 11 [.agg (w6 a0.Work [.d (.list (zG encTableLength a0.Lengths))])] (.agg (w6 y.Work [.d (.list (zG encR45Length y.Lengths))])) := by
 refine spec_mir Tryz.func11 rfl (by kernel_rfl) (by kernel_rfl) (λy : R45Table=>.agg (w6 y.Work [.d (.list (zG encR45Length y.Lengths))])) ?_ h
 unfold l45_own
 simp only [zK,zM,nS,nA,Tryz.ntmps11,SV]
 refine .sR λe h=>?_
 simp only [seval,EMK,zero_27]
 refine mU e (.sR λe h=>?_) h
 simp only [seval,EMK,fld_34_0,sz_24,ag_24,zero_27,pl_27,sz_27]
 refine mU e (.seqK (.sR λe h=>?_)) h
 simp only [seval,EMK,fld_34_1,sz_32,ag_32,und_32]
 refine mU e (.gh [.cell 2 18 68] rfl (Mir.joinO (λv2 : (List R45Length)=>([U,U,.ptr 1 0,.ptr 2 0] ++ us 24)) (λv2=>⟨[(w6 a0.Work [.d (.list (zG encTableLength a0.Lengths))]),[.d (.int .i64 0),.d (.int .i64 0),.d (.int .i64 0),.d (.int .i64 0),.d (.int .i64 0),.d (.int .i64 0),.d (.int .i64 0),.d (.int .i64 0),.d (.int .i64 0),.d (.int .i64 0),.d (.int .i64 0),.d (.int .i64 0),.d (.int .i64 0),.d (.int .i64 0),.d (.int .i64 0),.d (.int .i64 0),.d (.int .i64 0),.d (.int .i64 0),.nil],(w6 a0.Work [.own 0 (zG encR45Length v2)])],[(68,v2.length)]⟩) (λ_=>rfl) ?_ ?_)) h
 refine .block (.guard λqg65=>Mir.range (λ(i1 : Nat) (v1 : (List R45Length))=>([U,U,.ptr 1 0,.ptr 2 0,U,U,U,U,U,U,.d (.list (zG encTableLength a0.Lengths)),.d (.int .i64 (a0.Lengths.length : Int)),.d (.int .i64 (i1 : Int))] ++ us 15)) (λi1 v1=>⟨[(w6 a0.Work [.d (.list (zG encTableLength a0.Lengths))]),[.d (.int .i64 0),.d (.int .i64 0),.d (.int .i64 0),.d (.int .i64 0),.d (.int .i64 0),.d (.int .i64 0),.d (.int .i64 0),.d (.int .i64 0),.d (.int .i64 0),.d (.int .i64 0),.d (.int .i64 0),.d (.int .i64 0),.d (.int .i64 0),.d (.int .i64 0),.d (.int .i64 0),.d (.int .i64 0),.d (.int .i64 0),.d (.int .i64 0),.nil],(w6 a0.Work [.own 0 (zG encR45Length v1)])],[(68,v1.length)]⟩) qg65 (λ_ _=>rfl) (by simp only [seval,FMK,zNI]) (by simp only [seval,FMK,zNI]) ?_ ?_)
 intro i1 e1 v1 qr63
 refine .sR λe h=>?_
 simp only [seval,EMK,qr63]
 refine mU e (.seqK (.condT rfl (.skip (Mir.toK (.seqK (.block (.sR λe h=>?_))))))) h
 simp only [seval,EMK,und_32,sz_65,qr63,zN,ag_65,zero_65]
 refine mU e (.guard λq67=>.region λe h=>?_) h
 simp only [seval,EMK,fld_27_1,sz_25,ag_25,fld_65_0,sz_2,ag_2,fld_65_1,zero_68,pl_68,und_25,sz_68,(oL 2),app_25,al_R45Length,q67]
 refine mU e (.region λe h=>?_) h
 simp only [seval,EMK]
 cases h
 simp only [seval,FMK,Tryz.results11,ag_27,sz_27,qr63]
 intro v1 qd64
 refine .sR λe h=>?_
 simp only [seval,EMK,qd64]
 refine mU e (.seqK (.condF rfl (.exit λe h=>?_))) h
 cases h
 simp only [seval,FMK,Tryz.results11,ag_27,sz_27]
 intro v2
 refine Mir.toK (.sR λe h=>?_)
 simp only [seval,EMK,ag_27,sz_27]
 refine mU e (.ret λe h=>?_) h
 cases h
 simp only [seval,FMK,Tryz.results11,ag_27,sz_27]
def r45_Same (a0 : R45Table) (a1 : R45Table) : Option Bool := if (!((a0.Work.e0.X == a1.Work.e0.X) && ((a0.Work.e0.Y == a1.Work.e0.Y) && ((a0.Work.e0.Z == a1.Work.e0.Z) && ((a0.Work.e1.X == a1.Work.e1.X) && ((a0.Work.e1.Y == a1.Work.e1.Y) && ((a0.Work.e1.Z == a1.Work.e1.Z) && ((a0.Work.e2.X == a1.Work.e2.X) && ((a0.Work.e2.Y == a1.Work.e2.Y) && ((a0.Work.e2.Z == a1.Work.e2.Z) && ((a0.Work.e3.X == a1.Work.e3.X) && ((a0.Work.e3.Y == a1.Work.e3.Y) && ((a0.Work.e3.Z == a1.Work.e3.Z) && ((a0.Work.e4.X == a1.Work.e4.X) && ((a0.Work.e4.Y == a1.Work.e4.Y) && ((a0.Work.e4.Z == a1.Work.e4.Z) && ((a0.Work.e5.X == a1.Work.e5.X) && ((a0.Work.e5.Y == a1.Work.e5.Y) && (a0.Work.e5.Z == a1.Work.e5.Z)))))))))))))))))) || ((a0.Lengths.length : Int) != (a1.Lengths.length : Int))) = true then some false else bindX (guardO (okIdx a0.Lengths) ( rangeX (λ(i1 : Nat) (e1 : R45Length) (v1 : Unit)=>bindO (gt a1.Lengths (i1 : Int)) λ(e2 : R45Length)=>if (!((e1.Number == e2.Number) && (e1.Length == e2.Length))) = true then some (.ret (.ret false)) else some (.go ())) (λ(v1 : Unit)=>some (.go ())) a0.Lengths 0 ())) λ(v2 : Unit)=>some true
theorem r45_Same_spec {a0 : R45Table} {a1 : R45Table} {y : Bool} (h : r45_Same a0 a1 = some y) : Spec gP 10 [.agg (w6 a0.Work [.d (.list (zG encR45Length a0.Lengths))]),.agg (w6 a1.Work [.d (.list (zG encR45Length a1.Lengths))])] (.d (.bool y)) := by
 refine spec_mir Tryz.func10 rfl (by kernel_rfl) (by kernel_rfl) (λy : Bool=>.d (.bool y)) ?_ h
 unfold r45_Same
 simp only [zK,zM,nS,nA,Tryz.ntmps10,SV]
 refine .sR λe h=>?_
 simp only [seval,EMK]
 refine mU e (.seqK (.seqK (.joinV ([U,U,.ptr 0 0,.ptr 1 0,U,U,U,U,U,U,U,U,U,U,U,U,U,U,U,.d (.bool (!((a0.Work.e0.X == a1.Work.e0.X) && ((a0.Work.e0.Y == a1.Work.e0.Y) && ((a0.Work.e0.Z == a1.Work.e0.Z) && ((a0.Work.e1.X == a1.Work.e1.X) && ((a0.Work.e1.Y == a1.Work.e1.Y) && ((a0.Work.e1.Z == a1.Work.e1.Z) && ((a0.Work.e2.X == a1.Work.e2.X) && ((a0.Work.e2.Y == a1.Work.e2.Y) && ((a0.Work.e2.Z == a1.Work.e2.Z) && ((a0.Work.e3.X == a1.Work.e3.X) && ((a0.Work.e3.Y == a1.Work.e3.Y) && ((a0.Work.e3.Z == a1.Work.e3.Z) && ((a0.Work.e4.X == a1.Work.e4.X) && ((a0.Work.e4.Y == a1.Work.e4.Y) && ((a0.Work.e4.Z == a1.Work.e4.Z) && ((a0.Work.e5.X == a1.Work.e5.X) && ((a0.Work.e5.Y == a1.Work.e5.Y) && (a0.Work.e5.Z == a1.Work.e5.Z)))))))))))))))))) || ((a0.Lengths.length : Int) != (a1.Lengths.length : Int))))] ++ us 18) ⟨[(w6 a0.Work [.d (.list (zG encR45Length a0.Lengths))]),(w6 a1.Work [.d (.list (zG encR45Length a1.Lengths))])],[]⟩ rfl ?_ ?_))) h
 refine SWs.region ?_
 rcases zL ((a0.Work.e0.X == a1.Work.e0.X) && ((a0.Work.e0.Y == a1.Work.e0.Y) && ((a0.Work.e0.Z == a1.Work.e0.Z) && ((a0.Work.e1.X == a1.Work.e1.X) && ((a0.Work.e1.Y == a1.Work.e1.Y) && ((a0.Work.e1.Z == a1.Work.e1.Z) && ((a0.Work.e2.X == a1.Work.e2.X) && ((a0.Work.e2.Y == a1.Work.e2.Y) && ((a0.Work.e2.Z == a1.Work.e2.Z) && ((a0.Work.e3.X == a1.Work.e3.X) && ((a0.Work.e3.Y == a1.Work.e3.Y) && ((a0.Work.e3.Z == a1.Work.e3.Z) && ((a0.Work.e4.X == a1.Work.e4.X) && ((a0.Work.e4.Y == a1.Work.e4.Y) && ((a0.Work.e4.Z == a1.Work.e4.Z) && ((a0.Work.e5.X == a1.Work.e5.X) && ((a0.Work.e5.Y == a1.Work.e5.Y) && (a0.Work.e5.Z == a1.Work.e5.Z)))))))))))))))))) with hb1 | hb1
 simp only [seval,EMK,SL,PB,fld_27_0,sz_24,ag_24,gE_24,fld_27_1,sz_25,ag_25,und_25,hb1]
 simp only [seval,EMK,SL,PB,fld_27_0,sz_24,ag_24,gE_24,hb1]
 refine Mir.toK (.cond rfl (λhb3=>?_) (λhb3=>?_))
 refine .sR λe h=>?_
 simp only [seval,EMK]
 refine mU e (.ret λe h=>?_) h
 cases h
 simp only [seval,FMK,Tryz.results10]
 refine .skip (Mir.toK (.seqK (.sR λe h=>?_)))
 simp only [seval,EMK]
 refine mU e (Mir.join (λv2 : Unit=>(us 38)) (λv2=>⟨[(w6 a0.Work [.d (.list (zG encR45Length a0.Lengths))]),(w6 a1.Work [.d (.list (zG encR45Length a1.Lengths))])],[]⟩) (λ_=>rfl) ?_ ?_) h
 refine .block (.guard λqg68=>Mir.range (λ(i1 : Nat) (v1 : Unit)=>([U,U,.ptr 0 0,.ptr 1 0,U,.d (.int .i64 (i1 : Int))] ++ us 32)) (λi1 v1=>⟨[(w6 a0.Work [.d (.list (zG encR45Length a0.Lengths))]),(w6 a1.Work [.d (.list (zG encR45Length a1.Lengths))])],[]⟩) qg68 (λ_ _=>rfl) (by simp only [seval,FMK,zNI]) (by simp only [seval,FMK,zNI]) ?_ ?_)
 intro i1 e1 v1 qr66
 refine .seqK (.sR λe h=>?_)
 simp only [seval,EMK,fld_27_1,sz_25,ag_25,und_25,qr66]
 refine mU e (.condT rfl (.skip (Mir.toK (.seqK (.block (.seqK (.bind λe2 q71=>?_))))))) h
 replace q71 := gt_ok q71
 simp only [zN] at q71
 refine .regionD [] (by kernel_rfl) λe h=>?_
 simp only [seval,EMK,SB,fld_27_1,sz_25,ag_25,und_25,sz_68,qr66,zN,ag_68,q71,gE_68]
 refine mU e (.cond rfl (λhb73=>?_) (λhb73=>?_)) h
 refine .sR λe h=>?_
 simp only [seval,EMK]
 refine mU e (.ret λe h=>?_) h
 cases h
 simp only [seval,FMK,Tryz.results10]
 refine .skip (Mir.toB (Mir.toK (.region λe h=>?_)))
 simp only [seval,EMK]
 cases h
 simp only [seval,FMK,Tryz.results10,qr66]
 intro v1 qd67
 refine .seqK (.sR λe h=>?_)
 simp only [seval,EMK,fld_27_1,sz_25,ag_25,und_25,qd67]
 refine mU e (.condF rfl (.exit λe h=>?_)) h
 cases h
 simp only [seval,FMK,Tryz.results10]
 intro v2
 refine Mir.toK (.sR λe h=>?_)
 simp only [seval,EMK]
 refine mU e (.ret λe h=>?_) h
 cases h
 simp only [seval,FMK,Tryz.results10]
def l45_same (a0 : TableTable) (a1 : Int) (a2 : R45Table) (a3 : Int) : Option Bool := bindO (if (a1 == a3) = true then bindO (l45_own a0) λ(y1 : R45Table)=>bindO (r45_Same y1 a2) λ(y2 : Bool)=>some y2 else some false) λ(v1 : Bool)=>some v1
theorem l45_same_spec {a0 : TableTable} {a1 : Int} {a2 : R45Table} {a3 : Int} {y : Bool} (h : l45_same a0 a1 a2 a3 = some y) : Spec gP 13 [.agg (w6 a0.Work [.d (.list (zG encTableLength a0.Lengths))]),.d (.int .i64 a1),.agg (w6 a2.Work [.d (.list (zG encR45Length a2.Lengths))]),.d (.int .i64 a3)] (.d (.bool y)) := by
 refine spec_mir Tryz.func13 rfl (by kernel_rfl) (by kernel_rfl) (λy : Bool=>.d (.bool y)) ?_ h
 unfold l45_same
 simp only [zK,zM,nS,nA,Tryz.ntmps13,SV]
 refine .sR λe h=>?_
 simp only [seval,EMK]
 refine mU e (.seqK (Mir.joinO (λv1 : Bool=>([U,U,U,U,U,U,U,U,.d (.bool v1)] ++ us 9)) (λv1=>⟨[(w6 a0.Work [.d (.list (zG encTableLength a0.Lengths))]),(w6 a2.Work [.d (.list (zG encR45Length a2.Lengths))])],[]⟩) (λ_=>rfl) ?_ ?_)) h
 refine .ite (λhb1=>?_) (λhb1=>?_)
 refine .bind λy1 hy2=>.bind λy2 hy3=>.regionD [] (by kernel_rfl) λe h=>?_
 simp only [seval,EMK,SB,ag_34,sz_34,hb1]
 refine Spec.by (l45_own_spec hy2) (by simp only [seval,FMK,hb1]) ?_
 simp only [seval,EMK,SB,ag_27,sz_27,hb1]
 refine Spec.by (r45_Same_spec hy3) (by simp only [seval,FMK,hb1]) ?_
 simp only [seval,EMK,SB,hb1]
 cases h
 simp only [seval,FMK,hb1]
 refine .regionD [] (by kernel_rfl) λe h=>?_
 simp only [seval,EMK,SB,hb1]
 cases h
 simp only [seval,FMK,hb1]
 intro v1
 refine Mir.toK (.ret λe h=>?_)
 cases h
 simp only [seval,FMK,Tryz.results13]
def tb_lengths (a0 : (List (List UInt8))) : Option ((List Int) × Bool) := bindX (guardO (okIdx a0) ( rangeX (λ(i1 : Nat) (e1 : (List UInt8)) (v1 : (List Int))=>bindO (dc_FromMillimetres e1) λ(y1 : Int × Int)=>bindO (if (y1.2 != 0) = true then some true else bindO (dc_Millimetres y1.1) λ(y2 : (List UInt8))=>some (!(y2 == e1))) λ(v2 : Bool)=>if v2 = true then some (.ret (.ret ([],false))) else guardO (okLen (v1.length + 1)) ( some (.go (v1 ++ [y1.1])))) (λ(v1 : (List Int))=>some (.go v1)) a0 0 [])) λ(v3 : (List Int))=>some (v3,true)
theorem tb_lengths_spec {a0 : (List (List UInt8))} {y : (List Int) × Bool} (h : tb_lengths a0 = some y) : Spec gP 49 [.d (.list (zG eStr a0))] (.tuple [.d (.list (zG (eInt .i64) y.1)),.d (.bool y.2)]) := by
 refine spec_mir Tryz.func49 rfl (by kernel_rfl) (by kernel_rfl) (λy : (List Int) × Bool=>.tuple [.d (.list (zG (eInt .i64) y.1)),.d (.bool y.2)]) ?_ h
 unfold tb_lengths
 simp only [zK,zM,nS,nA,Tryz.ntmps49,SV]
 refine .sR λe h=>?_
 simp only [seval,EMK,eInt,eStr]
 refine mU e (.sR λe h=>?_) h
 simp only [seval,EMK,eInt,eStr]
 refine mU e (.seqK (.sR λe h=>?_)) h
 simp only [seval,EMK,und_70,eInt,eStr]
 refine mU e (.gh [.slot 4 2] rfl (Mir.join (λv3 : (List Int)=>([U,U,U,U,.own 0 (zG (eInt .i64) v3)] ++ us 29)) (λv3=>⟨[],[(2,v3.length)]⟩) (λ_=>rfl) ?_ ?_)) h
 refine .block (.guard λq1=>Mir.range (λ(i1 : Nat) (v1 : (List Int))=>([U,U,U,U,.own 0 (zG (eInt .i64) v1),U,U,U,U,.d (.list (zG eStr a0)),.d (.int .i64 (a0.length : Int)),.d (.int .i64 (i1 : Int))] ++ us 22)) (λi1 v1=>⟨[],[(2,v1.length)]⟩) q1 (λ_ _=>rfl) (by simp only [seval,FMK,eInt,eStr,zNI]) (by simp only [seval,FMK,eInt,eStr,zNI]) ?_ ?_)
 intro i1 e1 v1 q2
 refine .sR λe h=>?_
 simp only [seval,EMK,q2,eInt,eStr]
 refine mU e (.seqK (.condT rfl (.skip (Mir.toK (.seqK (.block (.sR λe h=>?_))))))) h
 simp only [seval,EMK,und_70,sz_9,q2,zN,ag_9,eInt,eStr]
 refine mU e (.seqK (.bind λy1 h1=>.region λe h=>?_)) h
 simp only [seval,EMK,eInt,eStr]
 refine SpecS.by (dc_FromMillimetres_spec h1) (by simp only [seval,FMK,eInt,eStr]) ?_
 simp only [seval,EMK,eInt,eStr]
 refine mU e (.seqK (.seqK (Mir.joinO (λv2 : Bool=>([U,U,U,U,.own 0 (zG (eInt .i64) v1),U,U,.d (.int .i64 y1.1),U,.d (.list (zG eStr a0)),.d (.int .i64 (a0.length : Int)),.d (.int .i64 (i1 : Int)),U,U,U,U,U,U,U,U,U,U,U,U,U,U,U,.d (.bool v2)] ++ us 6)) (λv2=>⟨[],[(2,v1.length)]⟩) (λ_=>rfl) ?_ ?_))) h
 refine .ite (λh2=>?_) (λh2=>?_)
 refine .region λe h=>?_
 simp only [seval,EMK,eInt,eStr,h2]
 cases h
 simp only [seval,FMK,eInt,eStr,h2]
 refine .bind λy2 h3=>.region λe h=>?_
 simp only [seval,EMK,eInt,eStr,h2]
 refine SpecS.by (dc_Millimetres_spec h3) (by simp only [seval,FMK,eInt,eStr,h2]) ?_
 simp only [seval,EMK,eInt,eStr,h2]
 cases h
 simp only [seval,FMK,eInt,eStr,h2]
 intro v2
 refine Mir.toK (.cond rfl (λh4=>?_) (λh4=>?_))
 refine .sR λe h=>?_
 simp only [seval,EMK,eInt,eStr]
 refine mU e (.ret λe h=>?_) h
 cases h
 simp only [seval,FMK,eInt,eStr,Tryz.results49]
 refine .skip (Mir.toK (.guard λq3=>.region λe h=>?_))
 simp only [seval,EMK,und_61,sz_2,zero_2,(oL 1),app_61,al_eInt,q3,eInt,eStr]
 refine mU e (.region λe h=>?_) h
 simp only [seval,EMK,eInt,eStr]
 cases h
 simp only [seval,FMK,eInt,eStr,Tryz.results49,q2]
 intro v1 q4
 refine .sR λe h=>?_
 simp only [seval,EMK,q4,eInt,eStr]
 refine mU e (.seqK (.condF rfl (.exit λe h=>?_))) h
 cases h
 simp only [seval,FMK,eInt,eStr,Tryz.results49]
 intro v3
 refine Mir.toK (.sR λe h=>?_)
 simp only [seval,EMK,eInt,eStr]
 refine mU e (.ret λe h=>?_) h
 cases h
 simp only [seval,FMK,eInt,eStr,Tryz.results49]
def slices_Index_string_string (a0 : (List (List UInt8))) (a1 : (List UInt8)) : Option Int := bindX (guardO (okIdx a0) ( rangeX (λ(i1 : Nat) (e1 : (List UInt8)) (v1 : Unit)=>if (a1 == e1) = true then some (.ret (.ret (i1 : Int))) else some (.go ())) (λ(v1 : Unit)=>some (.go ())) a0 0 ())) λ(v2 : Unit)=>some (-1)
theorem slices_Index_string_string_spec {a0 : (List (List UInt8))} {a1 : (List UInt8)} {y : Int} (h : slices_Index_string_string a0 a1 = some y) : Spec gP 50 [.d (.list (zG eStr a0)),.d (.str a1)] (.d (.int .i64 y)) := by
 refine spec_mir Tryz.func50 rfl (by kernel_rfl) (by kernel_rfl) (λy : Int=>.d (.int .i64 y)) ?_ h
 unfold slices_Index_string_string
 simp only [zK,zM,nS,nA,Tryz.ntmps50,SV]
 refine .sR λe h=>?_
 simp only [seval,EMK,eStr]
 refine mU e (.seqK (.sR λe h=>?_)) h
 simp only [seval,EMK,und_70,eStr]
 refine mU e (Mir.join (λv2 : Unit=>(us 19)) (λv2=>⟨[],[]⟩) (λ_=>rfl) ?_ ?_) h
 refine .block (.guard λqg51=>Mir.range (λ(i1 : Nat) (v1 : Unit)=>([.d (.list (zG eStr a0)),.d (.str a1),U,U,U,U,U,.d (.int .i64 (a0.length : Int)),.d (.int .i64 (i1 : Int))] ++ us 10)) (λi1 v1=>⟨[],[]⟩) qg51 (λ_ _=>rfl) (by simp only [seval,FMK,eStr,zNI]) (by simp only [seval,FMK,eStr,zNI]) ?_ ?_)
 intro i1 e1 v1 qr49
 refine .sR λe h=>?_
 simp only [seval,EMK,qr49,eStr]
 refine mU e (.seqK (.condT rfl (.skip (Mir.toK (.seqK (.block (.sR λe h=>?_))))))) h
 simp only [seval,EMK,eStr]
 refine mU e (.sR λe h=>?_) h
 simp only [seval,EMK,und_70,sz_9,qr49,zN,ag_9,eStr]
 refine mU e (.cond rfl (λhb54=>?_) (λhb54=>?_)) h
 refine .sR λe h=>?_
 simp only [seval,EMK,eStr]
 refine mU e (.ret λe h=>?_) h
 cases h
 simp only [seval,FMK,eStr,Tryz.results50]
 refine .skip (Mir.toB (Mir.toK (.region λe h=>?_)))
 simp only [seval,EMK,eStr]
 cases h
 simp only [seval,FMK,eStr,Tryz.results50,qr49]
 intro v1 qd50
 refine .sR λe h=>?_
 simp only [seval,EMK,qd50,eStr]
 refine mU e (.seqK (.condF rfl (.exit λe h=>?_))) h
 cases h
 simp only [seval,FMK,eStr,Tryz.results50]
 intro v2
 refine Mir.toK (.sR λe h=>?_)
 simp only [seval,EMK,eStr]
 refine mU e (.ret λe h=>?_) h
 cases h
 simp only [seval,FMK,eStr,Tryz.results50]
def tb_Parse (a0 : (List UInt8)) : Option (TableTable × Int × Int) := if (decide ((a0.length : Int) > 65536)) = true then some (TableTable.mk (Arr6ApiPos.mk (ApiPos.mk 0 0 0) (ApiPos.mk 0 0 0) (ApiPos.mk 0 0 0) (ApiPos.mk 0 0 0) (ApiPos.mk 0 0 0) (ApiPos.mk 0 0 0)) [],0,3) else bindX (loopX (λ(v1 : (List UInt8) × Int × Int × TableTable)=>if (!(v1.1 == [])) = true then bindO (strings_Cut v1.1 [10]) λ(y1 : (List UInt8) × (List UInt8) × Bool)=>bindO (if y1.2.2 = true then bindO (bindO (strings_Split y1.1 [32]) λ(y2 : (List (List UInt8)))=>if (decide ((y2.length : Int) < 3)) = true then some (-1,v1.2.2.2) else bindO (cutF y2 2) λ(s1 : (List (List UInt8)))=>bindO (tb_lengths s1) λ(y3 : (List Int) × Bool)=>if (!y3.2) = true then some (-1,v1.2.2.2) else bindO (bindO (gt y2 0) λ(e1 : (List UInt8))=>if (e1 == [119,111,114,107]) = true then some ((y3.1.length : Int) == 3) else some false) λ(v2 : Bool)=>if v2 = true then bindO (gt y2 1) λ(e2 : (List UInt8))=>bindO (slices_Index_string_string [[71,53,52],[71,53,53],[71,53,54],[71,53,55],[71,53,56],[71,53,57]] e2) λ(y4 : Int)=>bindO (gt y3.1 0) λ(e3 : Int)=>bindO (gt y3.1 1) λ(e4 : Int)=>bindO (gt y3.1 2) λ(e5 : Int)=>if ((decide (y4 < 0)) || ((e3 == 0) && ((e4 == 0) && (e5 == 0)))) = true then some (-1,v1.2.2.2) else bindO (guardO (decide (0 ≤ y4 ∧ y4 < 6)) ( if (y4 == 0) = true then some (TableTable.mk (Arr6ApiPos.mk (ApiPos.mk e3 e4 e5) v1.2.2.2.Work.e1 v1.2.2.2.Work.e2 v1.2.2.2.Work.e3 v1.2.2.2.Work.e4 v1.2.2.2.Work.e5) v1.2.2.2.Lengths) else if (y4 == 1) = true then some (TableTable.mk (Arr6ApiPos.mk v1.2.2.2.Work.e0 (ApiPos.mk e3 e4 e5) v1.2.2.2.Work.e2 v1.2.2.2.Work.e3 v1.2.2.2.Work.e4 v1.2.2.2.Work.e5) v1.2.2.2.Lengths) else if (y4 == 2) = true then some (TableTable.mk (Arr6ApiPos.mk v1.2.2.2.Work.e0 v1.2.2.2.Work.e1 (ApiPos.mk e3 e4 e5) v1.2.2.2.Work.e3 v1.2.2.2.Work.e4 v1.2.2.2.Work.e5) v1.2.2.2.Lengths) else if (y4 == 3) = true then some (TableTable.mk (Arr6ApiPos.mk v1.2.2.2.Work.e0 v1.2.2.2.Work.e1 v1.2.2.2.Work.e2 (ApiPos.mk e3 e4 e5) v1.2.2.2.Work.e4 v1.2.2.2.Work.e5) v1.2.2.2.Lengths) else if (y4 == 4) = true then some (TableTable.mk (Arr6ApiPos.mk v1.2.2.2.Work.e0 v1.2.2.2.Work.e1 v1.2.2.2.Work.e2 v1.2.2.2.Work.e3 (ApiPos.mk e3 e4 e5) v1.2.2.2.Work.e5) v1.2.2.2.Lengths) else some (TableTable.mk (Arr6ApiPos.mk v1.2.2.2.Work.e0 v1.2.2.2.Work.e1 v1.2.2.2.Work.e2 v1.2.2.2.Work.e3 v1.2.2.2.Work.e4 (ApiPos.mk e3 e4 e5)) v1.2.2.2.Lengths))) λ(v3 : TableTable)=>some (y4,v3) else bindO (bindO (gt y2 0) λ(e6 : (List UInt8))=>if (e6 == [108,101,110,103,116,104]) = true then some ((y3.1.length : Int) == 1) else some false) λ(v4 : Bool)=>if v4 = true then bindO (gt y2 1) λ(e7 : (List UInt8))=>bindO (strconv_ParseIntE e7 10 64) λ(y5 : Int × Bool)=>bindO (gt y3.1 0) λ(e8 : Int)=>bindO (if y5.2 = true then bindO (strconv_FormatInt y5.1 10) λ(y6 : (List UInt8))=>if (y6 == e7) = true then bindO (tb_entry (TableLength.mk y5.1 e8)) λ(y7 : Bool)=>some (!y7) else some true else some true) λ(v5 : Bool)=>if v5 = true then some (-1,v1.2.2.2) else guardO (okLen (v1.2.2.2.Lengths.length + 1)) ( some (zV.wrap (6 + y5.1),TableTable.mk v1.2.2.2.Work (v1.2.2.2.Lengths ++ [TableLength.mk y5.1 e8]))) else some (-1,v1.2.2.2)) λ(v6 : Int × TableTable)=>some (v6.1,v6.2) else some (-1,v1.2.2.2)) λ(v7 : Int × TableTable)=>if (decide (v7.1 ≤ v1.2.1)) = true then some (.ret (.ret (TableTable.mk (Arr6ApiPos.mk (ApiPos.mk 0 0 0) (ApiPos.mk 0 0 0) (ApiPos.mk 0 0 0) (ApiPos.mk 0 0 0) (ApiPos.mk 0 0 0) (ApiPos.mk 0 0 0)) [],v1.2.2.1,2))) else some (.go (y1.2.1,v7.1,zV.wrap (v1.2.2.1 + 1),v7.2)) else some (.ret (.go v1.2.2.2))) fuel (a0,-1,1,TableTable.mk (Arr6ApiPos.mk (ApiPos.mk 0 0 0) (ApiPos.mk 0 0 0) (ApiPos.mk 0 0 0) (ApiPos.mk 0 0 0) (ApiPos.mk 0 0 0) (ApiPos.mk 0 0 0)) [])) λ(v8 : TableTable)=>some (v8,0,0)
theorem tb_Parse_spec {a0 : (List UInt8)} {y : TableTable × Int × Int} (h : tb_Parse a0 = some y) : Spec gP 9 [.d (.str a0)] (.tuple [.agg (w6 y.1.Work [.d (.list (zG encTableLength y.1.Lengths))]),.d (.int .i64 y.2.1),.d (.int .i64 y.2.2)]) := by
 refine spec_mir Tryz.func9 rfl (by kernel_rfl) (by kernel_rfl) (λy : TableTable × Int × Int=>.tuple [.agg (w6 y.1.Work [.d (.list (zG encTableLength y.1.Lengths))]),.d (.int .i64 y.2.1),.d (.int .i64 y.2.2)]) ?_ h
 unfold tb_Parse
 simp only [zK,zM,nS,nA,Tryz.ntmps9,SV]
 refine .sR λe h=>?_
 simp only [seval,EMK,zero_34,eInt,eStr]
 refine mU e (.seqK (.sR λe h=>?_)) h
 simp only [seval,EMK,und_9,eInt,eStr]
 refine mU e (.cond rfl (λhb2=>?_) (λhb2=>?_)) h
 refine .sR λe h=>?_
 simp only [seval,EMK,zero_34,pl_34,sz_34]
 refine mU e (.ret λe h=>?_) h
 cases h
 simp only [seval,FMK,Tryz.results9,ag_34,sz_34]
 refine .skip (Mir.toK (.sR λe h=>?_))
 simp only [seval,EMK,zero_34,eInt,eStr]
 refine mU e (.sR λe h=>?_) h
 simp only [seval,EMK,eInt,eStr]
 refine mU e (.seqK (.sR λe h=>?_)) h
 simp only [seval,EMK,eInt,eStr]
 refine mU e (.gh [.cell 1 18 65] rfl (Mir.join (λv8 : TableTable=>([U,U,.ptr 0 0,U,U,.ptr 1 0] ++ us 31)) (λv8=>⟨[[.d (.int .i64 0),.d (.int .i64 0),.d (.int .i64 0),.d (.int .i64 0),.d (.int .i64 0),.d (.int .i64 0),.d (.int .i64 0),.d (.int .i64 0),.d (.int .i64 0),.d (.int .i64 0),.d (.int .i64 0),.d (.int .i64 0),.d (.int .i64 0),.d (.int .i64 0),.d (.int .i64 0),.d (.int .i64 0),.d (.int .i64 0),.d (.int .i64 0),.nil],(w6 v8.Work [.own 0 (zG encTableLength v8.Lengths)])],[(65,v8.Lengths.length)]⟩) (λ_=>rfl) ?_ ?_)) h
 refine .block (Mir.loop (λv1 : (List UInt8) × Int × Int × TableTable=>([.d (.str v1.1),U,.ptr 0 0,U,U,.ptr 1 0,.d (.int .i64 v1.2.1),.d (.int .i64 v1.2.2.1)] ++ us 29)) (λv1=>⟨[[.d (.int .i64 0),.d (.int .i64 0),.d (.int .i64 0),.d (.int .i64 0),.d (.int .i64 0),.d (.int .i64 0),.d (.int .i64 0),.d (.int .i64 0),.d (.int .i64 0),.d (.int .i64 0),.d (.int .i64 0),.d (.int .i64 0),.d (.int .i64 0),.d (.int .i64 0),.d (.int .i64 0),.d (.int .i64 0),.d (.int .i64 0),.d (.int .i64 0),.nil],(w6 v1.2.2.2.Work [.own 0 (zG encTableLength v1.2.2.2.Lengths)])],[(65,v1.2.2.2.Lengths.length)]⟩) (λ_=>rfl) (by simp only [seval,FMK,eInt,eStr]) (by simp only [seval,FMK,eInt,eStr]) λv1=>.seqK (.sR λe h=>?_))
 simp only [seval,EMK,eInt,eStr]
 refine mU e (.cond rfl (λh6=>?_) (λh6=>?_)) h
 refine .skip (Mir.toK (.seqK (.block (.seqK (.bind λy1 h7=>.region λe h=>?_)))))
 simp only [seval,EMK,eInt,eStr]
 refine SpecS.by (strings_Cut_spec h7) (by simp only [seval,FMK,eInt,eStr]) ?_
 simp only [seval,EMK,eInt,eStr]
 refine mU e (.sR λe h=>?_) h
 simp only [seval,EMK,eInt,eStr]
 refine mU e (.seqK (.sR λe h=>?_)) h
 simp only [seval,EMK,eInt,eStr]
 refine mU e (Mir.joinO (λv7 : Int × TableTable=>([U,U,.ptr 0 0,U,U,.ptr 1 0,.d (.int .i64 v1.2.1),.d (.int .i64 v1.2.2.1),U,.d (.str y1.2.1),U,.d (.int .i64 v7.1)] ++ us 25)) (λv7=>⟨[[.d (.int .i64 0),.d (.int .i64 0),.d (.int .i64 0),.d (.int .i64 0),.d (.int .i64 0),.d (.int .i64 0),.d (.int .i64 0),.d (.int .i64 0),.d (.int .i64 0),.d (.int .i64 0),.d (.int .i64 0),.d (.int .i64 0),.d (.int .i64 0),.d (.int .i64 0),.d (.int .i64 0),.d (.int .i64 0),.d (.int .i64 0),.d (.int .i64 0),.nil],(w6 v7.2.Work [.own 0 (zG encTableLength v7.2.Lengths)])],[(65,v7.2.Lengths.length)]⟩) (λ_=>rfl) ?_ ?_) h
 refine .cond rfl (λh8=>?_) (λh8=>?_)
 refine .bind λv6 h9=>.region λe h=>?_
 simp only [seval,EMK,eInt,eStr]
 refine SpecS.inl Tryz.func27 rfl (by kernel_rfl) (by kernel_rfl) (λv6 : Int × TableTable=>.d (.int .i64 v6.1)) (λv6=>⟨[[.d (.int .i64 0),.d (.int .i64 0),.d (.int .i64 0),.d (.int .i64 0),.d (.int .i64 0),.d (.int .i64 0),.d (.int .i64 0),.d (.int .i64 0),.d (.int .i64 0),.d (.int .i64 0),.d (.int .i64 0),.d (.int .i64 0),.d (.int .i64 0),.d (.int .i64 0),.d (.int .i64 0),.d (.int .i64 0),.d (.int .i64 0),.d (.int .i64 0),.nil],(w6 v6.2.Work [.own 0 (zG encTableLength v6.2.Lengths)])],[(65,v6.2.Lengths.length)]⟩) h9 rfl ?_ ?_
 simp only [zK,zM,nS,nA,Tryz.ntmps27,SV]
 refine .sR λe h=>?_
 simp only [seval,EMK,eInt,eStr]
 refine mU e (.seqK (.bind λy2 h10=>.region λe h=>?_)) h
 simp only [seval,EMK,eInt,eStr]
 refine SpecS.by (strings_Split_spec h10) (by simp only [seval,FMK,eInt,eStr]) ?_
 simp only [seval,EMK,eInt,eStr]
 refine mU e (.seqK (.sR λe h=>?_)) h
 simp only [seval,EMK,und_70,eInt,eStr]
 refine mU e (.cond rfl (λh11=>?_) (λh11=>?_)) h
 refine .sR λe h=>?_
 simp only [seval,EMK,eInt,eStr]
 refine mU e (.ret λe h=>?_) h
 cases h
 simp only [seval,FMK,eInt,eStr,Tryz.results27]
 refine .skip (Mir.toK (.seqK (.bind λs1 q1=>?_)))
 replace q1 := cutF_ok q1
 simp only [zO,zQ,zR,dp0] at q1
 refine .bind λy3 h12=>.region λe h=>?_
 simp only [seval,EMK,und_70,sz_9,q1,Nat.le_refl,and_true,true_and,dm,tm,al_eStr,eInt,eStr]
 refine SpecS.by (tb_lengths_spec h12) (by simp only [seval,FMK,eInt,eStr]) ?_
 simp only [seval,EMK,eInt,eStr]
 refine mU e (.seqK (.block (.sR λe h=>?_))) h
 simp only [seval,EMK,eInt,eStr]
 refine mU e (.cond rfl (λh13=>?_) (λh13=>?_)) h
 refine .sR λe h=>?_
 simp only [seval,EMK,eInt,eStr]
 refine mU e (.ret λe h=>?_) h
 cases h
 simp only [seval,FMK,eInt,eStr,Tryz.results27]
 refine .seqK (Mir.joinO (λv2 : Bool=>([.ptr 1 0,U,U,U,U,.d (.list (zG eStr y2)),.d (.list (zG (eInt .i64) y3.1)),U,U,U,U,U,U,U,U,U,U,U,U,U,U,U,U,U,U,U,U,.d (.bool v2)] ++ us 87)) (λv2=>⟨[[.d (.int .i64 0),.d (.int .i64 0),.d (.int .i64 0),.d (.int .i64 0),.d (.int .i64 0),.d (.int .i64 0),.d (.int .i64 0),.d (.int .i64 0),.d (.int .i64 0),.d (.int .i64 0),.d (.int .i64 0),.d (.int .i64 0),.d (.int .i64 0),.d (.int .i64 0),.d (.int .i64 0),.d (.int .i64 0),.d (.int .i64 0),.d (.int .i64 0),.nil],(w6 v1.2.2.2.Work [.own 0 (zG encTableLength v1.2.2.2.Lengths)])],[(65,v1.2.2.2.Lengths.length)]⟩) (λ_=>rfl) ?_ ?_)
 refine .bind λe1 q2=>?_
 replace q2 := gt_ok q2
 simp only [zO,zQ,zR,dp0] at q2
 refine .ite (λh14=>?_) (λh14=>?_)
 refine .region λe h=>?_
 simp only [seval,EMK,und_70,sz_9,q2,ag_9,und_61,eInt,eStr,h14]
 cases h
 simp only [seval,FMK,eInt,eStr,h14]
 refine .region λe h=>?_
 simp only [seval,EMK,und_70,sz_9,q2,ag_9,eInt,eStr,h14]
 cases h
 simp only [seval,FMK,eInt,eStr,h14]
 intro v2
 refine Mir.toK (.cond rfl (λh15=>?_) (λh15=>?_))
 refine .seqK (.bind λe2 q3=>?_)
 replace q3 := gt_ok q3
 simp only [zO,zQ,zR,dp0] at q3
 refine .bind λy4 h16=>.region λe h=>?_
 simp only [seval,EMK,und_70,sz_9,zero_9,(oL 6),q3,ag_9,eInt,eStr]
 refine SpecS.by (slices_Index_string_string_spec h16) (by simp only [seval,FMK,eInt,eStr]) ?_
 simp only [seval,EMK,eInt,eStr]
 refine mU e (.seqK (.bind λe3 q4=>?_)) h
 replace q4 := gt_ok q4
 simp only [zO,zQ,zR,dp0] at q4
 refine .bind λe4 q5=>?_
 replace q5 := gt_ok q5
 simp only [zO,zQ,zR,dp0] at q5
 refine .bind λe5 q6=>?_
 replace q6 := gt_ok q6
 simp only [zO,zQ,zR,dp0] at q6
 refine .regionD [] (by kernel_rfl) λe h=>?_
 simp only [seval,EMK,SB,und_61,sz_2,q4,ag_2,q5,q6,zero_23,pl_23,sz_23,eInt,eStr]
 refine mU e (.seqK (.seqK (.joinV ([.ptr 1 0,U,U,U,U,U,U,U,.d (.int .i64 y4),.ptr 2 0,U,U,U,U,U,U,U,U,U,U,U,U,U,U,U,U,U,U,U,U,U,U,U,U,U,U,U,U,U,U,U,U,U,U,U,U,U,U,U,U,U,U,U,U,U,U,U,U,.d (.bool ((decide (y4 < 0)) || ((e3 == 0) && ((e4 == 0) && (e5 == 0)))))] ++ us 56) ⟨[[.d (.int .i64 0),.d (.int .i64 0),.d (.int .i64 0),.d (.int .i64 0),.d (.int .i64 0),.d (.int .i64 0),.d (.int .i64 0),.d (.int .i64 0),.d (.int .i64 0),.d (.int .i64 0),.d (.int .i64 0),.d (.int .i64 0),.d (.int .i64 0),.d (.int .i64 0),.d (.int .i64 0),.d (.int .i64 0),.d (.int .i64 0),.d (.int .i64 0),.nil],(w6 v1.2.2.2.Work [.own 0 (zG encTableLength v1.2.2.2.Lengths)]),[.d (.int .i64 e3),.d (.int .i64 e4),.d (.int .i64 e5)]],[(65,v1.2.2.2.Lengths.length)]⟩ rfl ?_ ?_))) h
 refine SWs.region ?_
 rcases zL (decide (y4 < 0)) with h17 | h17
 simp only [seval,EMK,SL,PB,h17,eInt,eStr]
 simp only [seval,EMK,SL,PB,ag_23,sz_23,zero_23,pl_23,gE_23,h17,eInt,eStr]
 refine Mir.toK (.cond rfl (λh18=>?_) (λh18=>?_))
 refine .sR λe h=>?_
 simp only [seval,EMK,eInt,eStr]
 refine mU e (.ret λe h=>?_) h
 cases h
 simp only [seval,FMK,eInt,eStr,Tryz.results27]
 refine .skip (Mir.toK (.seqK (Mir.joinO (λv3 : TableTable=>([U,U,U,U,U,U,U,U,.d (.int .i64 y4)] ++ us 106)) (λv3=>⟨[[.d (.int .i64 0),.d (.int .i64 0),.d (.int .i64 0),.d (.int .i64 0),.d (.int .i64 0),.d (.int .i64 0),.d (.int .i64 0),.d (.int .i64 0),.d (.int .i64 0),.d (.int .i64 0),.d (.int .i64 0),.d (.int .i64 0),.d (.int .i64 0),.d (.int .i64 0),.d (.int .i64 0),.d (.int .i64 0),.d (.int .i64 0),.d (.int .i64 0),.nil],(w6 v3.Work [.own 0 (zG encTableLength v3.Lengths)]),[.d (.int .i64 e3),.d (.int .i64 e4),.d (.int .i64 e5)]],[(65,v3.Lengths.length)]⟩) (λ_=>rfl) ?_ ?_)))
 refine .guard λq7=>.ite (λh19=>?_) (λh19=>?_)
 refine .regionD [] (by kernel_rfl) λe h=>?_
 simp only [seval,EMK,SB,ag_23,sz_23,fld_34_0,sz_24,und_24,(eq_of_beq h19),eInt,eStr,h19]
 cases h
 simp only [seval,FMK,eInt,eStr,h19]
 refine .ite (λh20=>?_) (λh20=>?_)
 refine .regionD [] (by kernel_rfl) λe h=>?_
 simp only [seval,EMK,SB,ag_23,sz_23,fld_34_0,sz_24,und_24,(eq_of_beq h20),eInt,eStr,h19,h20]
 cases h
 simp only [seval,FMK,eInt,eStr,h19,h20]
 refine .ite (λh21=>?_) (λh21=>?_)
 refine .regionD [] (by kernel_rfl) λe h=>?_
 simp only [seval,EMK,SB,ag_23,sz_23,fld_34_0,sz_24,und_24,(eq_of_beq h21),eInt,eStr,h19,h20,h21]
 cases h
 simp only [seval,FMK,eInt,eStr,h19,h20,h21]
 refine .ite (λh22=>?_) (λh22=>?_)
 refine .regionD [] (by kernel_rfl) λe h=>?_
 simp only [seval,EMK,SB,ag_23,sz_23,fld_34_0,sz_24,und_24,(eq_of_beq h22),eInt,eStr,h19,h20,h21,h22]
 cases h
 simp only [seval,FMK,eInt,eStr,h19,h20,h21,h22]
 refine .ite (λh23=>?_) (λh23=>?_)
 refine .regionD [] (by kernel_rfl) λe h=>?_
 simp only [seval,EMK,SB,ag_23,sz_23,fld_34_0,sz_24,und_24,(eq_of_beq h23),eInt,eStr,h19,h20,h21,h22,h23]
 cases h
 simp only [seval,FMK,eInt,eStr,h19,h20,h21,h22,h23]
 have h24 : y4 = 5 := by have h0 := of_decide_eq_true q7; have h1 := ne_of_beq_false h19; have h2 := ne_of_beq_false h20; have h3 := ne_of_beq_false h21; have h4 := ne_of_beq_false h22; have h5 := ne_of_beq_false h23; omega
 refine .regionD [] (by kernel_rfl) λe h=>?_
 simp only [seval,EMK,SB,ag_23,sz_23,fld_34_0,sz_24,und_24,h24,eInt,eStr,h19,h20,h21,h22,h23]
 cases h
 simp only [seval,FMK,eInt,eStr,h19,h20,h21,h22,h23]
 intro v3
 refine Mir.toK (.sR λe h=>?_)
 simp only [seval,EMK,eInt,eStr]
 refine mU e (.ret λe h=>?_) h
 cases h
 simp only [seval,FMK,eInt,eStr,Tryz.results27]
 refine .seqK (Mir.joinO (λv4 : Bool=>([.ptr 1 0,U,U,U,U,.d (.list (zG eStr y2)),.d (.list (zG (eInt .i64) y3.1)),U,U,U,U,U,U,U,U,U,U,U,U,U,U,U,U,U,U,U,U,U,U,U,U,U,U,U,U,U,U,U,U,U,U,U,U,U,U,U,U,U,U,U,U,U,U,U,U,U,U,U,U,U,U,U,U,U,U,U,.d (.bool v4)] ++ us 48)) (λv4=>⟨[[.d (.int .i64 0),.d (.int .i64 0),.d (.int .i64 0),.d (.int .i64 0),.d (.int .i64 0),.d (.int .i64 0),.d (.int .i64 0),.d (.int .i64 0),.d (.int .i64 0),.d (.int .i64 0),.d (.int .i64 0),.d (.int .i64 0),.d (.int .i64 0),.d (.int .i64 0),.d (.int .i64 0),.d (.int .i64 0),.d (.int .i64 0),.d (.int .i64 0),.nil],(w6 v1.2.2.2.Work [.own 0 (zG encTableLength v1.2.2.2.Lengths)])],[(65,v1.2.2.2.Lengths.length)]⟩) (λ_=>rfl) ?_ ?_)
 refine .bind λe6 q8=>?_
 replace q8 := gt_ok q8
 simp only [zO,zQ,zR,dp0] at q8
 refine .ite (λh25=>?_) (λh25=>?_)
 refine .region λe h=>?_
 simp only [seval,EMK,und_70,sz_9,q8,ag_9,und_61,eInt,eStr,h25]
 cases h
 simp only [seval,FMK,eInt,eStr,h25]
 refine .region λe h=>?_
 simp only [seval,EMK,und_70,sz_9,q8,ag_9,eInt,eStr,h25]
 cases h
 simp only [seval,FMK,eInt,eStr,h25]
 intro v4
 refine Mir.toK (.cond rfl (λh26=>?_) (λh26=>?_))
 refine .seqK (.bind λe7 q9=>?_)
 replace q9 := gt_ok q9
 simp only [zO,zQ,zR,dp0] at q9
 refine .bind λy5 h27=>.region λe h=>?_
 simp only [seval,EMK,und_70,sz_9,q9,ag_9,eInt,eStr]
 refine SpecE.by (strconv_ParseIntE_spec h27) rfl (λt1 p1=>?_)
 simp only [seval,EMK,eInt,eStr]
 refine mU e (.seqK (.bind λe8 q10=>?_)) h
 replace q10 := gt_ok q10
 simp only [zO,zQ,zR,dp0] at q10
 refine .region λe h=>?_
 simp only [seval,EMK,und_61,sz_2,q10,ag_2,zero_65,pl_65,sz_65,eInt,eStr]
 refine mU e (.seqK (.seqK (Mir.joinO (λv5 : Bool=>([.ptr 1 0,U,U,U,U,U,U,U,U,U,.d (.int .i64 y5.1),U,.ptr 2 0,U,U,U,U,U,U,U,U,U,U,U,U,U,U,U,U,U,U,U,U,U,U,U,U,U,U,U,U,U,U,U,U,U,U,U,U,U,U,U,U,U,U,U,U,U,U,U,U,U,U,U,U,U,U,U,U,U,U,U,U,U,U,U,U,U,U,U,U,U,U,U,U,U,U,U,U,U,U,U,U,U,U,U,U,U,U,U,U,U,.d (.bool v5)] ++ us 12)) (λv5=>⟨[[.d (.int .i64 0),.d (.int .i64 0),.d (.int .i64 0),.d (.int .i64 0),.d (.int .i64 0),.d (.int .i64 0),.d (.int .i64 0),.d (.int .i64 0),.d (.int .i64 0),.d (.int .i64 0),.d (.int .i64 0),.d (.int .i64 0),.d (.int .i64 0),.d (.int .i64 0),.d (.int .i64 0),.d (.int .i64 0),.d (.int .i64 0),.d (.int .i64 0),.nil],(w6 v1.2.2.2.Work [.own 0 (zG encTableLength v1.2.2.2.Lengths)]),[.d (.int .i64 y5.1),.d (.int .i64 e8)]],[(65,v1.2.2.2.Lengths.length)]⟩) (λ_=>rfl) ?_ ?_))) h
 refine .ite (λh28=>?_) (λh28=>?_)
 refine .bind λy6 h29=>.ite (λh30=>?_) (λh30=>?_)
 refine .bind λy7 h31=>.regionD [] (by kernel_rfl) λe h=>?_
 simp only [seval,EMK,SB,bx_ne,(nr (by kernel_rfl) : ifaceT Tryz.prog 57 = true),eInt,eStr,h28,h30]
 refine Spec.by (strconv_FormatInt_spec h29) (by simp only [seval,FMK,eInt,eStr,h28,h30]) ?_
 simp only [seval,EMK,SB,und_70,sz_9,q9,ag_9,ag_65,sz_65,eInt,eStr,h28,h30]
 refine Spec.by (tb_entry_spec h31) (by simp only [seval,FMK,eInt,eStr,h28,h30]) ?_
 simp only [seval,EMK,SB,eInt,eStr,h28,h30]
 cases h
 simp only [seval,FMK,eInt,eStr,h28,h30]
 refine .regionD [] (by kernel_rfl) λe h=>?_
 simp only [seval,EMK,SB,bx_ne,(nr (by kernel_rfl) : ifaceT Tryz.prog 57 = true),eInt,eStr,h28,h30]
 refine Spec.by (strconv_FormatInt_spec h29) (by simp only [seval,FMK,eInt,eStr,h28,h30]) ?_
 simp only [seval,EMK,SB,und_70,sz_9,q9,ag_9,eInt,eStr,h28,h30]
 cases h
 simp only [seval,FMK,eInt,eStr,h28,h30]
 refine .regionD [] (by kernel_rfl) λe h=>?_
 simp only [seval,EMK,SB,bx_ne,(nr (by kernel_rfl) : ifaceT Tryz.prog 57 = true),eInt,eStr,h28]
 cases h
 simp only [seval,FMK,eInt,eStr,h28]
 intro v5
 refine Mir.toK (.cond rfl (λh32=>?_) (λh32=>?_))
 refine .sR λe h=>?_
 simp only [seval,EMK,eInt,eStr]
 refine mU e (.ret λe h=>?_) h
 cases h
 simp only [seval,FMK,eInt,eStr,Tryz.results27]
 refine .skip (Mir.toK (.seqK (.guard λq11=>.regionD [] (by kernel_rfl) λe h=>?_)))
 simp only [seval,EMK,SB,fld_34_1,sz_32,ag_32,ag_65,sz_65,und_32,zero_65,(oL 2),app_32,al_TableLength,q11,eInt,eStr]
 refine mU e (.sR λe h=>?_) h
 simp only [seval,EMK,eInt,eStr]
 refine mU e (.ret λe h=>?_) h
 cases h
 simp only [seval,FMK,eInt,eStr,Tryz.results27]
 refine .skip (Mir.toB (Mir.toK (.sR λe h=>?_)))
 simp only [seval,EMK,eInt,eStr]
 refine mU e (.ret λe h=>?_) h
 cases h
 simp only [seval,FMK,eInt,eStr,Tryz.results27]
 simp only [seval,EMK,eInt,eStr]
 cases h
 simp only [seval,FMK,eInt,eStr,Tryz.results9,ag_34,sz_34]
 refine .skip λe h=>?_
 cases h
 simp only [seval,FMK,eInt,eStr,Tryz.results9,ag_34,sz_34]
 intro v7
 refine Mir.toK (.seqK (.sR λe h=>?_))
 simp only [seval,EMK,eInt,eStr]
 refine mU e (.cond rfl (λh33=>?_) (λh33=>?_)) h
 refine .sR λe h=>?_
 simp only [seval,EMK,zero_34,pl_34,sz_34,eInt,eStr]
 refine mU e (.ret λe h=>?_) h
 cases h
 simp only [seval,FMK,eInt,eStr,Tryz.results9,ag_34,sz_34]
 refine .skip (Mir.toK (.region λe h=>?_))
 simp only [seval,EMK,eInt,eStr]
 refine mU e (.region λe h=>?_) h
 simp only [seval,EMK,eInt,eStr]
 cases h
 simp only [seval,FMK,eInt,eStr,Tryz.results9,ag_34,sz_34]
 refine .exit λe h=>?_
 cases h
 simp only [seval,FMK,eInt,eStr,Tryz.results9,ag_34,sz_34]
 intro v8
 refine Mir.toK (.sR λe h=>?_)
 simp only [seval,EMK,ag_34,sz_34,eInt,eStr]
 refine mU e (.ret λe h=>?_) h
 cases h
 simp only [seval,FMK,eInt,eStr,Tryz.results9,ag_34,sz_34]
def r45_far (a0 : Int) : Option Bool := some ((decide (a0 > 10000000)) || (decide (a0 < (-10000000))))
theorem r45_far_spec {a0 : Int} {y : Bool} (h : r45_far a0 = some y) : Spec gP 74 [.d (.int .i64 a0)] (.d (.bool y)) := by
 refine spec_mir Tryz.func74 rfl (by kernel_rfl) (by kernel_rfl) (λy : Bool=>.d (.bool y)) ?_ h
 unfold r45_far
 simp only [zK,zM,nS,nA,Tryz.ntmps74,SV]
 refine .sR λe h=>?_
 simp only [seval,EMK]
 refine mU e (.seqK (.joinV ([U,U,.d (.bool ((decide (a0 > 10000000)) || (decide (a0 < (-10000000)))))] ++ us 6) ⟨[],[]⟩ rfl ?_ ?_)) h
 refine SWs.region ?_
 rcases zL (decide (a0 > 10000000)) with hb1 | hb1
 simp only [seval,EMK,SL,PB,hb1]
 simp only [seval,EMK,SL,PB,hb1]
 refine Mir.toK (.ret λe h=>?_)
 cases h
 simp only [seval,FMK,Tryz.results74]
def r45_out (a0 : ApiPos) : Option Bool := bindO (bindO (r45_far a0.X) λ(y1 : Bool)=>if y1 = true then some true else bindO (r45_far a0.Y) λ(y2 : Bool)=>if y2 = true then some true else bindO (r45_far a0.Z) λ(y3 : Bool)=>some y3) λ(v1 : Bool)=>some v1
theorem r45_out_spec {a0 : ApiPos} {y : Bool} (h : r45_out a0 = some y) : Spec gP 43 [.agg [.d (.int .i64 a0.X),.d (.int .i64 a0.Y),.d (.int .i64 a0.Z)]] (.d (.bool y)) := by
 refine spec_mir Tryz.func43 rfl (by kernel_rfl) (by kernel_rfl) (λy : Bool=>.d (.bool y)) ?_ h
 unfold r45_out
 simp only [zK,zM,nS,nA,Tryz.ntmps43,SV]
 refine .sR λe h=>?_
 simp only [seval,EMK]
 refine mU e (.seqK (Mir.joinO (λv1 : Bool=>([U,U,.d (.bool v1)] ++ us 13)) (λv1=>⟨[[.d (.int .i64 a0.X),.d (.int .i64 a0.Y),.d (.int .i64 a0.Z)]],[]⟩) (λ_=>rfl) ?_ ?_)) h
 refine .bind λy1 hy1=>.ite (λhb2=>?_) (λhb2=>?_)
 refine .region λe h=>?_
 simp only [seval,EMK,fld_23_0,sz_2,ag_2,hb2]
 refine SpecS.by (r45_far_spec hy1) (by simp only [seval,FMK,hb2]) ?_
 simp only [seval,EMK,hb2]
 cases h
 simp only [seval,FMK,hb2]
 refine .bind λy2 hy3=>.ite (λhb4=>?_) (λhb4=>?_)
 refine .region λe h=>?_
 simp only [seval,EMK,fld_23_0,sz_2,ag_2,hb2,hb4]
 refine SpecS.by (r45_far_spec hy1) (by simp only [seval,FMK,hb2,hb4]) ?_
 simp only [seval,EMK,fld_23_1,sz_2,ag_2,hb2,hb4]
 refine SpecS.by (r45_far_spec hy3) (by simp only [seval,FMK,hb2,hb4]) ?_
 simp only [seval,EMK,hb2,hb4]
 cases h
 simp only [seval,FMK,hb2,hb4]
 refine .bind λy3 hy5=>.region λe h=>?_
 simp only [seval,EMK,fld_23_0,sz_2,ag_2,hb2,hb4]
 refine SpecS.by (r45_far_spec hy1) (by simp only [seval,FMK,hb2,hb4]) ?_
 simp only [seval,EMK,fld_23_1,sz_2,ag_2,hb2,hb4]
 refine SpecS.by (r45_far_spec hy3) (by simp only [seval,FMK,hb2,hb4]) ?_
 simp only [seval,EMK,fld_23_2,sz_2,ag_2,hb2,hb4]
 refine SpecS.by (r45_far_spec hy5) (by simp only [seval,FMK,hb2,hb4]) ?_
 simp only [seval,EMK,hb2,hb4]
 cases h
 simp only [seval,FMK,hb2,hb4]
 intro v1
 refine Mir.toK (.ret λe h=>?_)
 cases h
 simp only [seval,FMK,Tryz.results43]
def r45_entry (a0 : R45Length) : Option Bool := some ((decide (a0.Number ≥ 1)) && ((decide (a0.Number ≤ 999)) && ((decide (a0.Length ≥ 0)) && (decide (a0.Length ≤ 10000000)))))
theorem r45_entry_spec {a0 : R45Length} {y : Bool} (h : r45_entry a0 = some y) : Spec gP 44 [.agg [.d (.int .i64 a0.Number),.d (.int .i64 a0.Length)]] (.d (.bool y)) := by
 refine spec_mir Tryz.func44 rfl (by kernel_rfl) (by kernel_rfl) (λy : Bool=>.d (.bool y)) ?_ h
 unfold r45_entry
 simp only [zK,zM,nS,nA,Tryz.ntmps44,SV]
 refine .sR λe h=>?_
 simp only [seval,EMK]
 refine mU e (.seqK (.joinV ([U,U,.d (.bool ((decide (a0.Number ≥ 1)) && ((decide (a0.Number ≤ 999)) && ((decide (a0.Length ≥ 0)) && (decide (a0.Length ≤ 10000000))))))] ++ us 18) ⟨[[.d (.int .i64 a0.Number),.d (.int .i64 a0.Length)]],[]⟩ rfl ?_ ?_)) h
 refine SWs.region ?_
 rcases zL (decide (a0.Number ≥ 1)) with hb1 | hb1
 rcases zL (decide (a0.Number ≤ 999)) with hb2 | hb2
 rcases zL (decide (a0.Length ≥ 0)) with hb3 | hb3
 simp only [seval,EMK,SL,PB,fld_68_0,sz_2,ag_2,fld_68_1,hb1,hb2,hb3]
 simp only [seval,EMK,SL,PB,fld_68_0,sz_2,ag_2,fld_68_1,hb1,hb2,hb3]
 simp only [seval,EMK,SL,PB,fld_68_0,sz_2,ag_2,hb1,hb2]
 simp only [seval,EMK,SL,PB,fld_68_0,sz_2,ag_2,hb1]
 refine Mir.toK (.ret λe h=>?_)
 cases h
 simp only [seval,FMK,Tryz.results44]
def r45_Valid (a0 : R45Table) : Option Int := bindX (bindO (r45_out a0.Work.e0) λ(y1 : Bool)=>if y1 = true then some (.ret 1) else bindO (r45_out a0.Work.e1) λ(y2 : Bool)=>if y2 = true then some (.ret 1) else bindO (r45_out a0.Work.e2) λ(y3 : Bool)=>if y3 = true then some (.ret 1) else bindO (r45_out a0.Work.e3) λ(y4 : Bool)=>if y4 = true then some (.ret 1) else bindO (r45_out a0.Work.e4) λ(y5 : Bool)=>if y5 = true then some (.ret 1) else bindO (r45_out a0.Work.e5) λ(y6 : Bool)=>if y6 = true then some (.ret 1) else some (.go ())) λ(v1 : Unit)=>bindX (guardO (okIdx a0.Lengths) ( rangeX (λ(i1 : Nat) (e1 : R45Length) (v2 : Unit)=>bindO (bindO (r45_entry e1) λ(y7 : Bool)=>if y7 = true then if (decide ((i1 : Int) > 0)) = true then bindO (gt a0.Lengths (zV.wrap ((i1 : Int) - 1))) λ(e2 : R45Length)=>some (decide (e1.Number ≤ e2.Number)) else some false else some true) λ(v3 : Bool)=>if v3 = true then some (.ret (.ret 1)) else some (.go ())) (λ(v2 : Unit)=>some (.go ())) a0.Lengths 0 ())) λ(v4 : Unit)=>some 0
theorem r45_Valid_spec {a0 : R45Table} {y : Int} (h : r45_Valid a0 = some y) : Spec gP 24 [.agg (w6 a0.Work [.d (.list (zG encR45Length a0.Lengths))])] (.d (.int .i64 y)) := by
 refine spec_mir Tryz.func24 rfl (by kernel_rfl) (by kernel_rfl) (λy : Int=>.d (.int .i64 y)) ?_ h
 unfold r45_Valid
 simp only [zK,zM,nS,nA,Tryz.ntmps24,SV]
 refine .sR λe h=>?_
 simp only [seval,EMK]
 refine mU e (.seqK (.sR λe h=>?_)) h
 simp only [seval,EMK]
 refine mU e (Mir.join (λv1 : Unit=>([U,.ptr 0 0] ++ us 46)) (λv1=>⟨[(w6 a0.Work [.d (.list (zG encR45Length a0.Lengths))])],[]⟩) (λ_=>rfl) ?_ ?_) h
 refine .block (.loopR 15 (.seqK (.sR λe h=>?_)))
 simp only [seval,EMK]
 refine mU e (.condT rfl (.skip (Mir.toK (.seqK (.block (.seqK (.bind λy1 hy33=>.region λe h=>?_))))))) h
 simp only [seval,EMK,fld_27_0,sz_24,und_24,sz_23,ag_23]
 refine SpecS.by (r45_out_spec hy33) (by simp only [seval,FMK]) ?_
 simp only [seval,EMK]
 refine mU e (.cond rfl (λhb35=>?_) (λhb35=>?_)) h
 refine .sR λe h=>?_
 simp only [seval,EMK]
 refine mU e (.ret λe h=>?_) h
 cases h
 simp only [seval,FMK,Tryz.results24]
 refine .skip (Mir.toB (Mir.toK (.region λe h=>?_)))
 simp only [seval,EMK,(nr rfl : zV.wrap 1 = 1)]
 refine Mir.useN (e := e) ?_ h
 refine .seqK (.sR λe h=>?_)
 simp only [seval,EMK]
 refine mU e (.condT rfl (.skip (Mir.toK (.seqK (.block (.seqK (.bind λy2 hy38=>.region λe h=>?_))))))) h
 simp only [seval,EMK,fld_27_0,sz_24,und_24,sz_23,ag_23]
 refine SpecS.by (r45_out_spec hy38) (by simp only [seval,FMK]) ?_
 simp only [seval,EMK]
 refine mU e (.cond rfl (λhb40=>?_) (λhb40=>?_)) h
 refine .sR λe h=>?_
 simp only [seval,EMK]
 refine mU e (.ret λe h=>?_) h
 cases h
 simp only [seval,FMK,Tryz.results24]
 refine .skip (Mir.toB (Mir.toK (.region λe h=>?_)))
 simp only [seval,EMK,(nr rfl : zV.wrap 2 = 2)]
 refine Mir.useN (e := e) ?_ h
 refine .seqK (.sR λe h=>?_)
 simp only [seval,EMK]
 refine mU e (.condT rfl (.skip (Mir.toK (.seqK (.block (.seqK (.bind λy3 hy43=>.region λe h=>?_))))))) h
 simp only [seval,EMK,fld_27_0,sz_24,und_24,sz_23,ag_23]
 refine SpecS.by (r45_out_spec hy43) (by simp only [seval,FMK]) ?_
 simp only [seval,EMK]
 refine mU e (.cond rfl (λhb45=>?_) (λhb45=>?_)) h
 refine .sR λe h=>?_
 simp only [seval,EMK]
 refine mU e (.ret λe h=>?_) h
 cases h
 simp only [seval,FMK,Tryz.results24]
 refine .skip (Mir.toB (Mir.toK (.region λe h=>?_)))
 simp only [seval,EMK,(nr rfl : zV.wrap 3 = 3)]
 refine Mir.useN (e := e) ?_ h
 refine .seqK (.sR λe h=>?_)
 simp only [seval,EMK]
 refine mU e (.condT rfl (.skip (Mir.toK (.seqK (.block (.seqK (.bind λy4 hy48=>.region λe h=>?_))))))) h
 simp only [seval,EMK,fld_27_0,sz_24,und_24,sz_23,ag_23]
 refine SpecS.by (r45_out_spec hy48) (by simp only [seval,FMK]) ?_
 simp only [seval,EMK]
 refine mU e (.cond rfl (λhb50=>?_) (λhb50=>?_)) h
 refine .sR λe h=>?_
 simp only [seval,EMK]
 refine mU e (.ret λe h=>?_) h
 cases h
 simp only [seval,FMK,Tryz.results24]
 refine .skip (Mir.toB (Mir.toK (.region λe h=>?_)))
 simp only [seval,EMK,(nr rfl : zV.wrap 4 = 4)]
 refine Mir.useN (e := e) ?_ h
 refine .seqK (.sR λe h=>?_)
 simp only [seval,EMK]
 refine mU e (.condT rfl (.skip (Mir.toK (.seqK (.block (.seqK (.bind λy5 hy53=>.region λe h=>?_))))))) h
 simp only [seval,EMK,fld_27_0,sz_24,und_24,sz_23,ag_23]
 refine SpecS.by (r45_out_spec hy53) (by simp only [seval,FMK]) ?_
 simp only [seval,EMK]
 refine mU e (.cond rfl (λhb55=>?_) (λhb55=>?_)) h
 refine .sR λe h=>?_
 simp only [seval,EMK]
 refine mU e (.ret λe h=>?_) h
 cases h
 simp only [seval,FMK,Tryz.results24]
 refine .skip (Mir.toB (Mir.toK (.region λe h=>?_)))
 simp only [seval,EMK,(nr rfl : zV.wrap 5 = 5)]
 refine Mir.useN (e := e) ?_ h
 refine .seqK (.sR λe h=>?_)
 simp only [seval,EMK]
 refine mU e (.condT rfl (.skip (Mir.toK (.seqK (.block (.seqK (.bind λy6 hy58=>.region λe h=>?_))))))) h
 simp only [seval,EMK,fld_27_0,sz_24,und_24,sz_23,ag_23]
 refine SpecS.by (r45_out_spec hy58) (by simp only [seval,FMK]) ?_
 simp only [seval,EMK]
 refine mU e (.cond rfl (λhb60=>?_) (λhb60=>?_)) h
 refine .sR λe h=>?_
 simp only [seval,EMK]
 refine mU e (.ret λe h=>?_) h
 cases h
 simp only [seval,FMK,Tryz.results24]
 refine .skip (Mir.toB (Mir.toK (.region λe h=>?_)))
 simp only [seval,EMK,(nr rfl : zV.wrap 6 = 6)]
 refine Mir.useN (e := e) ?_ h
 refine .seqK (.sR λe h=>?_)
 simp only [seval,EMK]
 refine mU e (.condF rfl (.exit λe h=>?_)) h
 cases h
 simp only [seval,FMK,Tryz.results24]
 intro v1
 refine Mir.toK (.seqK (.sR λe h=>?_))
 simp only [seval,EMK]
 refine mU e (Mir.join (λv4 : Unit=>(us 48)) (λv4=>⟨[(w6 a0.Work [.d (.list (zG encR45Length a0.Lengths))])],[]⟩) (λ_=>rfl) ?_ ?_) h
 refine .block (.guard λq1=>Mir.range (λ(i1 : Nat) (v2 : Unit)=>([U,.ptr 0 0,U,U,.d (.int .i64 (i1 : Int))] ++ us 43)) (λi1 v2=>⟨[(w6 a0.Work [.d (.list (zG encR45Length a0.Lengths))])],[]⟩) q1 (λ_ _=>rfl) (by simp only [seval,FMK,zNI]) (by simp only [seval,FMK,zNI]) ?_ ?_)
 intro i1 e1 v2 q2
 refine .seqK (.sR λe h=>?_)
 simp only [seval,EMK,fld_27_1,sz_25,ag_25,und_25,q2]
 refine mU e (.condT rfl (.skip (Mir.toK (.seqK (.block (.seqK (Mir.joinO (λv3 : Bool=>[U,.ptr 0 0,U,U,.d (.int .i64 (i1 : Int)),U,U,U,U,U,U,U,U,U,U,U,U,U,U,U,U,U,U,U,U,U,U,U,U,U,U,U,U,U,U,U,U,U,U,U,U,U,U,U,U,U,U,.d (.bool v3)]) (λv3=>⟨[(w6 a0.Work [.d (.list (zG encR45Length a0.Lengths))])],[]⟩) (λ_=>rfl) ?_ ?_))))))) h
 refine .bind λy7 h1=>.ite (λh2=>?_) (λh2=>?_)
 refine .ite (λh3=>?_) (λh3=>?_)
 refine .bind λe2 q3=>?_
 replace q3 := gt_ok q3
 refine .regionD [] (by kernel_rfl) λe h=>?_
 simp only [seval,EMK,SB,fld_27_1,sz_25,ag_25,und_25,sz_68,q2,zN,ag_68,h2,h3]
 refine Spec.by (r45_entry_spec h1) (by simp only [seval,FMK,h2,h3]) ?_
 simp only [seval,EMK,SB,fld_27_1,sz_25,ag_25,und_25,sz_68,q2,zN,fld_68_0,sz_2,ag_2,q3,h2,h3]
 cases h
 simp only [seval,FMK,h2,h3]
 refine .regionD [] (by kernel_rfl) λe h=>?_
 simp only [seval,EMK,SB,fld_27_1,sz_25,ag_25,und_25,sz_68,q2,zN,ag_68,h2,h3]
 refine Spec.by (r45_entry_spec h1) (by simp only [seval,FMK,h2,h3]) ?_
 simp only [seval,EMK,SB,h2,h3]
 cases h
 simp only [seval,FMK,h2,h3]
 refine .regionD [] (by kernel_rfl) λe h=>?_
 simp only [seval,EMK,SB,fld_27_1,sz_25,ag_25,und_25,sz_68,q2,zN,ag_68,h2]
 refine Spec.by (r45_entry_spec h1) (by simp only [seval,FMK,h2]) ?_
 simp only [seval,EMK,SB,h2]
 cases h
 simp only [seval,FMK,h2]
 intro v3
 refine Mir.toK (.cond rfl (λh4=>?_) (λh4=>?_))
 refine .sR λe h=>?_
 simp only [seval,EMK]
 refine mU e (.ret λe h=>?_) h
 cases h
 simp only [seval,FMK,Tryz.results24]
 refine .skip (Mir.toB (Mir.toK (.region λe h=>?_)))
 simp only [seval,EMK]
 cases h
 simp only [seval,FMK,Tryz.results24,q2]
 intro v2 q4
 refine .seqK (.sR λe h=>?_)
 simp only [seval,EMK,fld_27_1,sz_25,ag_25,und_25,q4]
 refine mU e (.condF rfl (.exit λe h=>?_)) h
 cases h
 simp only [seval,FMK,Tryz.results24]
 intro v4
 refine Mir.toK (.sR λe h=>?_)
 simp only [seval,EMK]
 refine mU e (.ret λe h=>?_) h
 cases h
 simp only [seval,FMK,Tryz.results24]
def r45_digits (a0 : Int) : Option (List UInt8) := bindO (loopX (λ(v1 : Int × (List UInt8))=>if ((decide (v1.1 > 0)) || (v1.2 == [])) = true then guardO (okStr (runeS (IntKind.i32.wrap (zV.wrap (48 + (zS v1.1 10))))) v1.2) ( some (.go (zV.wrap (Int.tdiv v1.1 10),(runeS (IntKind.i32.wrap (zV.wrap (48 + (zS v1.1 10))))) ++ v1.2))) else some (.ret v1.2)) fuel (a0,[])) λ(v2 : (List UInt8))=>some v2
theorem r45_digits_spec {a0 : Int} {y : (List UInt8)} (h : r45_digits a0 = some y) : Spec gP 45 [.d (.int .i64 a0)] (.d (.str y)) := by
 refine spec_mir Tryz.func45 rfl (by kernel_rfl) (by kernel_rfl) (λy : (List UInt8)=>.d (.str y)) ?_ h
 unfold r45_digits
 simp only [zK,zM,nS,nA,Tryz.ntmps45,SV]
 refine .sR λe h=>?_
 simp only [seval,EMK]
 refine mU e (.sR λe h=>?_) h
 simp only [seval,EMK]
 refine mU e (.seqK (Mir.joinO (λv2 : (List UInt8)=>([U,U,U,.d (.str v2)] ++ us 16)) (λv2=>⟨[],[]⟩) (λ_=>rfl) ?_ ?_)) h
 refine .block (Mir.loop (λv1 : Int × (List UInt8)=>([.d (.int .i64 v1.1),U,U,.d (.str v1.2)] ++ us 16)) (λv1=>⟨[],[]⟩) (λ_=>rfl) (by simp only [seval,FMK]) (by simp only [seval,FMK]) λv1=>.seqK (.seqK (.joinV ([.d (.int .i64 v1.1),U,U,.d (.str v1.2),U,U,U,U,U,.d (.bool ((decide (v1.1 > 0)) || (v1.2 == [])))] ++ us 10) ⟨[],[]⟩ rfl ?_ ?_)))
 refine SWs.region ?_
 rcases zL (decide (v1.1 > 0)) with hb25 | hb25
 simp only [seval,EMK,SL,PB,hb25]
 simp only [seval,EMK,SL,PB,hb25]
 refine Mir.toK (.cond rfl (λhb27=>?_) (λhb27=>?_))
 refine .skip (Mir.toK (.block (.seqK (.guard λq28=>?_))))
 replace q28 := okStr_ok q28
 refine .region λe h=>?_
 simp only [seval,EMK,und_2,und_21,und_9,rune_enc,q28]
 refine mU e (.region λe h=>?_) h
 simp only [seval,EMK]
 cases h
 simp only [seval,FMK,Tryz.results45]
 refine .exit λe h=>?_
 cases h
 simp only [seval,FMK,Tryz.results45]
 intro v2
 refine Mir.toK (.sR λe h=>?_)
 simp only [seval,EMK]
 refine mU e (.ret λe h=>?_) h
 cases h
 simp only [seval,FMK,Tryz.results45]
def r45_Lines (a0 : R45Table) : Option (List (List UInt8)) := bindO (bindO (if (!((a0.Work.e0.X == 0) && ((a0.Work.e0.Y == 0) && (a0.Work.e0.Z == 0)))) = true then bindO (r45_digits 54) λ(y1 : (List UInt8))=>guardO (okStr [119,111,114,107,32,71] y1) ( guardO (okStr ([119,111,114,107,32,71] ++ y1) [32]) ( bindO (r06_Millimetres a0.Work.e0.X) λ(y2 : (List UInt8))=>guardO (okStr (([119,111,114,107,32,71] ++ y1) ++ [32]) y2) ( guardO (okStr ((([119,111,114,107,32,71] ++ y1) ++ [32]) ++ y2) [32]) ( bindO (r06_Millimetres a0.Work.e0.Y) λ(y3 : (List UInt8))=>guardO (okStr (((([119,111,114,107,32,71] ++ y1) ++ [32]) ++ y2) ++ [32]) y3) ( guardO (okStr ((((([119,111,114,107,32,71] ++ y1) ++ [32]) ++ y2) ++ [32]) ++ y3) [32]) ( bindO (r06_Millimetres a0.Work.e0.Z) λ(y4 : (List UInt8))=>guardO (okStr (((((([119,111,114,107,32,71] ++ y1) ++ [32]) ++ y2) ++ [32]) ++ y3) ++ [32]) y4) ( some [(((((([119,111,114,107,32,71] ++ y1) ++ [32]) ++ y2) ++ [32]) ++ y3) ++ [32]) ++ y4]))))))) else some []) λ(v1 : (List (List UInt8)))=>bindO (if (!((a0.Work.e1.X == 0) && ((a0.Work.e1.Y == 0) && (a0.Work.e1.Z == 0)))) = true then bindO (r45_digits 55) λ(y5 : (List UInt8))=>guardO (okStr [119,111,114,107,32,71] y5) ( guardO (okStr ([119,111,114,107,32,71] ++ y5) [32]) ( bindO (r06_Millimetres a0.Work.e1.X) λ(y6 : (List UInt8))=>guardO (okStr (([119,111,114,107,32,71] ++ y5) ++ [32]) y6) ( guardO (okStr ((([119,111,114,107,32,71] ++ y5) ++ [32]) ++ y6) [32]) ( bindO (r06_Millimetres a0.Work.e1.Y) λ(y7 : (List UInt8))=>guardO (okStr (((([119,111,114,107,32,71] ++ y5) ++ [32]) ++ y6) ++ [32]) y7) ( guardO (okStr ((((([119,111,114,107,32,71] ++ y5) ++ [32]) ++ y6) ++ [32]) ++ y7) [32]) ( bindO (r06_Millimetres a0.Work.e1.Z) λ(y8 : (List UInt8))=>guardO (okStr (((((([119,111,114,107,32,71] ++ y5) ++ [32]) ++ y6) ++ [32]) ++ y7) ++ [32]) y8) ( guardO (okLen (v1.length + 1)) ( some (v1 ++ [(((((([119,111,114,107,32,71] ++ y5) ++ [32]) ++ y6) ++ [32]) ++ y7) ++ [32]) ++ y8]))))))))) else some v1) λ(v2 : (List (List UInt8)))=>bindO (if (!((a0.Work.e2.X == 0) && ((a0.Work.e2.Y == 0) && (a0.Work.e2.Z == 0)))) = true then bindO (r45_digits 56) λ(y9 : (List UInt8))=>guardO (okStr [119,111,114,107,32,71] y9) ( guardO (okStr ([119,111,114,107,32,71] ++ y9) [32]) ( bindO (r06_Millimetres a0.Work.e2.X) λ(y10 : (List UInt8))=>guardO (okStr (([119,111,114,107,32,71] ++ y9) ++ [32]) y10) ( guardO (okStr ((([119,111,114,107,32,71] ++ y9) ++ [32]) ++ y10) [32]) ( bindO (r06_Millimetres a0.Work.e2.Y) λ(y11 : (List UInt8))=>guardO (okStr (((([119,111,114,107,32,71] ++ y9) ++ [32]) ++ y10) ++ [32]) y11) ( guardO (okStr ((((([119,111,114,107,32,71] ++ y9) ++ [32]) ++ y10) ++ [32]) ++ y11) [32]) ( bindO (r06_Millimetres a0.Work.e2.Z) λ(y12 : (List UInt8))=>guardO (okStr (((((([119,111,114,107,32,71] ++ y9) ++ [32]) ++ y10) ++ [32]) ++ y11) ++ [32]) y12) ( guardO (okLen (v2.length + 1)) ( some (v2 ++ [(((((([119,111,114,107,32,71] ++ y9) ++ [32]) ++ y10) ++ [32]) ++ y11) ++ [32]) ++ y12]))))))))) else some v2) λ(v3 : (List (List UInt8)))=>bindO (if (!((a0.Work.e3.X == 0) && ((a0.Work.e3.Y == 0) && (a0.Work.e3.Z == 0)))) = true then bindO (r45_digits 57) λ(y13 : (List UInt8))=>guardO (okStr [119,111,114,107,32,71] y13) ( guardO (okStr ([119,111,114,107,32,71] ++ y13) [32]) ( bindO (r06_Millimetres a0.Work.e3.X) λ(y14 : (List UInt8))=>guardO (okStr (([119,111,114,107,32,71] ++ y13) ++ [32]) y14) ( guardO (okStr ((([119,111,114,107,32,71] ++ y13) ++ [32]) ++ y14) [32]) ( bindO (r06_Millimetres a0.Work.e3.Y) λ(y15 : (List UInt8))=>guardO (okStr (((([119,111,114,107,32,71] ++ y13) ++ [32]) ++ y14) ++ [32]) y15) ( guardO (okStr ((((([119,111,114,107,32,71] ++ y13) ++ [32]) ++ y14) ++ [32]) ++ y15) [32]) ( bindO (r06_Millimetres a0.Work.e3.Z) λ(y16 : (List UInt8))=>guardO (okStr (((((([119,111,114,107,32,71] ++ y13) ++ [32]) ++ y14) ++ [32]) ++ y15) ++ [32]) y16) ( guardO (okLen (v3.length + 1)) ( some (v3 ++ [(((((([119,111,114,107,32,71] ++ y13) ++ [32]) ++ y14) ++ [32]) ++ y15) ++ [32]) ++ y16]))))))))) else some v3) λ(v4 : (List (List UInt8)))=>bindO (if (!((a0.Work.e4.X == 0) && ((a0.Work.e4.Y == 0) && (a0.Work.e4.Z == 0)))) = true then bindO (r45_digits 58) λ(y17 : (List UInt8))=>guardO (okStr [119,111,114,107,32,71] y17) ( guardO (okStr ([119,111,114,107,32,71] ++ y17) [32]) ( bindO (r06_Millimetres a0.Work.e4.X) λ(y18 : (List UInt8))=>guardO (okStr (([119,111,114,107,32,71] ++ y17) ++ [32]) y18) ( guardO (okStr ((([119,111,114,107,32,71] ++ y17) ++ [32]) ++ y18) [32]) ( bindO (r06_Millimetres a0.Work.e4.Y) λ(y19 : (List UInt8))=>guardO (okStr (((([119,111,114,107,32,71] ++ y17) ++ [32]) ++ y18) ++ [32]) y19) ( guardO (okStr ((((([119,111,114,107,32,71] ++ y17) ++ [32]) ++ y18) ++ [32]) ++ y19) [32]) ( bindO (r06_Millimetres a0.Work.e4.Z) λ(y20 : (List UInt8))=>guardO (okStr (((((([119,111,114,107,32,71] ++ y17) ++ [32]) ++ y18) ++ [32]) ++ y19) ++ [32]) y20) ( guardO (okLen (v4.length + 1)) ( some (v4 ++ [(((((([119,111,114,107,32,71] ++ y17) ++ [32]) ++ y18) ++ [32]) ++ y19) ++ [32]) ++ y20]))))))))) else some v4) λ(v5 : (List (List UInt8)))=>bindO (if (!((a0.Work.e5.X == 0) && ((a0.Work.e5.Y == 0) && (a0.Work.e5.Z == 0)))) = true then bindO (r45_digits 59) λ(y21 : (List UInt8))=>guardO (okStr [119,111,114,107,32,71] y21) ( guardO (okStr ([119,111,114,107,32,71] ++ y21) [32]) ( bindO (r06_Millimetres a0.Work.e5.X) λ(y22 : (List UInt8))=>guardO (okStr (([119,111,114,107,32,71] ++ y21) ++ [32]) y22) ( guardO (okStr ((([119,111,114,107,32,71] ++ y21) ++ [32]) ++ y22) [32]) ( bindO (r06_Millimetres a0.Work.e5.Y) λ(y23 : (List UInt8))=>guardO (okStr (((([119,111,114,107,32,71] ++ y21) ++ [32]) ++ y22) ++ [32]) y23) ( guardO (okStr ((((([119,111,114,107,32,71] ++ y21) ++ [32]) ++ y22) ++ [32]) ++ y23) [32]) ( bindO (r06_Millimetres a0.Work.e5.Z) λ(y24 : (List UInt8))=>guardO (okStr (((((([119,111,114,107,32,71] ++ y21) ++ [32]) ++ y22) ++ [32]) ++ y23) ++ [32]) y24) ( guardO (okLen (v5.length + 1)) ( some (v5 ++ [(((((([119,111,114,107,32,71] ++ y21) ++ [32]) ++ y22) ++ [32]) ++ y23) ++ [32]) ++ y24]))))))))) else some v5) λ(v6 : (List (List UInt8)))=>some v6) λ(v7 : (List (List UInt8)))=>bindO (guardO (okIdx a0.Lengths) ( rangeX (λ(i1 : Nat) (e1 : R45Length) (v8 : (List (List UInt8)))=>bindO (r45_digits e1.Number) λ(y25 : (List UInt8))=>guardO (okStr [108,101,110,103,116,104,32] y25) ( guardO (okStr ([108,101,110,103,116,104,32] ++ y25) [32]) ( bindO (r06_Millimetres e1.Length) λ(y26 : (List UInt8))=>guardO (okStr (([108,101,110,103,116,104,32] ++ y25) ++ [32]) y26) ( guardO (okLen (v8.length + 1)) ( some (.go (v8 ++ [(([108,101,110,103,116,104,32] ++ y25) ++ [32]) ++ y26]))))))) (λ(v8 : (List (List UInt8)))=>some v8) a0.Lengths 0 v7)) λ(v9 : (List (List UInt8)))=>some v9
theorem r45_Lines_spec {a0 : R45Table} {y : (List (List UInt8))} (h : r45_Lines a0 = some y) : Spec gP 25 [.agg (w6 a0.Work [.d (.list (zG encR45Length a0.Lengths))])] (.d (.list (zG eStr y))) := by
 refine spec_mir Tryz.func25 rfl (by kernel_rfl) (by kernel_rfl) (λy : (List (List UInt8))=>.d (.list (zG eStr y))) ?_ h
 unfold r45_Lines
 simp only [zK,zM,nS,nA,Tryz.ntmps25,SV]
 refine .sR λe h=>?_
 simp only [seval,EMK,eStr]
 refine mU e (.sR λe h=>?_) h
 simp only [seval,EMK,eStr]
 refine mU e (.seqK (.sR λe h=>?_)) h
 simp only [seval,EMK,eStr]
 refine mU e (.gh [.slot 3 9] rfl (Mir.joinO (λv7 : (List (List UInt8))=>([U,.ptr 0 0,U,.own 0 (zG eStr v7)] ++ us 64)) (λv7=>⟨[(w6 a0.Work [.d (.list (zG encR45Length a0.Lengths))])],[(9,v7.length)]⟩) (λ_=>rfl) ?_ ?_)) h
 refine .block (.loopR 15 (.seqK (.sR λe h=>?_)))
 simp only [seval,EMK,eStr]
 refine mU e (.condT rfl (.skip (Mir.toK (.seqK (Mir.joinO (λv1 : (List (List UInt8))=>([U,.ptr 0 0,U,.own 0 (zG eStr v1),.d (.int .i64 0)] ++ us 63)) (λv1=>⟨[(w6 a0.Work [.d (.list (zG encR45Length a0.Lengths))])],[(9,v1.length)]⟩) (λ_=>rfl) ?_ ?_))))) h
 refine .block (.sR λe h=>?_)
 simp only [seval,EMK,fld_27_0,sz_24,und_24,sz_23,ag_23,zero_23,eStr]
 refine mU e (.sR λe h=>?_) h
 simp only [seval,EMK,ag_23,sz_23,zero_23,pl_23,gE_23,eStr]
 refine mU e (.cond rfl (λh1=>?_) (λh1=>?_)) h
 refine .bind λy1 h2=>.guard λq1=>?_
 replace q1 := okStr_ok q1
 try simp only [lm,xNA,xCA,xAN,xLC,xLN,xAC,xAL,nA,zJ] at q1
 refine .guard λq2=>?_
 replace q2 := okStr_ok q2
 try simp only [lm,xNA,xCA,xAN,xLC,xLN,xAC,xAL,nA,zJ] at q2
 refine .bind λy2 h3=>.guard λq3=>?_
 replace q3 := okStr_ok q3
 try simp only [lm,xNA,xCA,xAN,xLC,xLN,xAC,xAL,nA,zJ] at q3
 refine .guard λq4=>?_
 replace q4 := okStr_ok q4
 try simp only [lm,xNA,xCA,xAN,xLC,xLN,xAC,xAL,nA,zJ] at q4
 refine .bind λy3 h4=>.guard λq5=>?_
 replace q5 := okStr_ok q5
 try simp only [lm,xNA,xCA,xAN,xLC,xLN,xAC,xAL,nA,zJ] at q5
 refine .guard λq6=>?_
 replace q6 := okStr_ok q6
 try simp only [lm,xNA,xCA,xAN,xLC,xLN,xAC,xAL,nA,zJ] at q6
 refine .bind λy4 h5=>.guard λq7=>?_
 replace q7 := okStr_ok q7
 try simp only [lm,xNA,xCA,xAN,xLC,xLN,xAC,xAL,nA,zJ] at q7
 refine .regionD [] (by kernel_rfl) λe h=>?_
 simp only [seval,EMK,SB,(nr rfl : zV.wrap 54 = 54),eStr]
 refine Spec.by (r45_digits_spec h2) (by simp only [seval,FMK,eStr]) ?_
 simp only [seval,EMK,SB,q1,q2,fld_23_0,sz_2,ag_2,eStr]
 refine Spec.by (r06_Millimetres_spec h3) (by simp only [seval,FMK,eStr]) ?_
 simp only [seval,EMK,SB,q3,q4,fld_23_1,sz_2,ag_2,eStr]
 refine Spec.by (r06_Millimetres_spec h4) (by simp only [seval,FMK,eStr]) ?_
 simp only [seval,EMK,SB,q5,q6,fld_23_2,sz_2,ag_2,eStr]
 refine Spec.by (r06_Millimetres_spec h5) (by simp only [seval,FMK,eStr]) ?_
 simp only [seval,EMK,SB,q7,und_70,sz_9,zero_9,(oL 1),app_70,al_eStr,eStr]
 cases h
 simp only [seval,FMK,eStr,Tryz.results25]
 refine .skip λe h=>?_
 cases h
 simp only [seval,FMK,eStr,Tryz.results25]
 intro v1
 refine Mir.toK (.region λe h=>?_)
 simp only [seval,EMK,(nr rfl : zV.wrap 1 = 1),eStr]
 refine Mir.useN (e := e) ?_ h
 refine .seqK (.sR λe h=>?_)
 simp only [seval,EMK,eStr]
 refine mU e (.condT rfl (.skip (Mir.toK (.seqK (Mir.joinO (λv2 : (List (List UInt8))=>([U,.ptr 0 0,U,.own 0 (zG eStr v2),.d (.int .i64 1)] ++ us 63)) (λv2=>⟨[(w6 a0.Work [.d (.list (zG encR45Length a0.Lengths))])],[(9,v2.length)]⟩) (λ_=>rfl) ?_ ?_))))) h
 refine .block (.sR λe h=>?_)
 simp only [seval,EMK,fld_27_0,sz_24,und_24,sz_23,ag_23,zero_23,eStr]
 refine mU e (.sR λe h=>?_) h
 simp only [seval,EMK,ag_23,sz_23,zero_23,pl_23,gE_23,eStr]
 refine mU e (.cond rfl (λh6=>?_) (λh6=>?_)) h
 refine .bind λy5 h7=>.guard λq8=>?_
 replace q8 := okStr_ok q8
 try simp only [lm,xNA,xCA,xAN,xLC,xLN,xAC,xAL,nA,zJ] at q8
 refine .guard λq9=>?_
 replace q9 := okStr_ok q9
 try simp only [lm,xNA,xCA,xAN,xLC,xLN,xAC,xAL,nA,zJ] at q9
 refine .bind λy6 h8=>.guard λq10=>?_
 replace q10 := okStr_ok q10
 try simp only [lm,xNA,xCA,xAN,xLC,xLN,xAC,xAL,nA,zJ] at q10
 refine .guard λq11=>?_
 replace q11 := okStr_ok q11
 try simp only [lm,xNA,xCA,xAN,xLC,xLN,xAC,xAL,nA,zJ] at q11
 refine .bind λy7 h9=>.guard λq12=>?_
 replace q12 := okStr_ok q12
 try simp only [lm,xNA,xCA,xAN,xLC,xLN,xAC,xAL,nA,zJ] at q12
 refine .guard λq13=>?_
 replace q13 := okStr_ok q13
 try simp only [lm,xNA,xCA,xAN,xLC,xLN,xAC,xAL,nA,zJ] at q13
 refine .bind λy8 h10=>.guard λq14=>?_
 replace q14 := okStr_ok q14
 try simp only [lm,xNA,xCA,xAN,xLC,xLN,xAC,xAL,nA,zJ] at q14
 refine .guard λq15=>.regionD [] (by kernel_rfl) λe h=>?_
 simp only [seval,EMK,SB,(nr rfl : zV.wrap 55 = 55),eStr]
 refine Spec.by (r45_digits_spec h7) (by simp only [seval,FMK,eStr]) ?_
 simp only [seval,EMK,SB,q8,q9,fld_23_0,sz_2,ag_2,eStr]
 refine Spec.by (r06_Millimetres_spec h8) (by simp only [seval,FMK,eStr]) ?_
 simp only [seval,EMK,SB,q10,q11,fld_23_1,sz_2,ag_2,eStr]
 refine Spec.by (r06_Millimetres_spec h9) (by simp only [seval,FMK,eStr]) ?_
 simp only [seval,EMK,SB,q12,q13,fld_23_2,sz_2,ag_2,eStr]
 refine Spec.by (r06_Millimetres_spec h10) (by simp only [seval,FMK,eStr]) ?_
 simp only [seval,EMK,SB,q14,und_70,sz_9,zero_9,(oL 1),app_70,al_eStr,q15,eStr]
 cases h
 simp only [seval,FMK,eStr,Tryz.results25]
 refine .skip λe h=>?_
 cases h
 simp only [seval,FMK,eStr,Tryz.results25]
 intro v2
 refine Mir.toK (.region λe h=>?_)
 simp only [seval,EMK,(nr rfl : zV.wrap 2 = 2),eStr]
 refine Mir.useN (e := e) ?_ h
 refine .seqK (.sR λe h=>?_)
 simp only [seval,EMK,eStr]
 refine mU e (.condT rfl (.skip (Mir.toK (.seqK (Mir.joinO (λv3 : (List (List UInt8))=>([U,.ptr 0 0,U,.own 0 (zG eStr v3),.d (.int .i64 2)] ++ us 63)) (λv3=>⟨[(w6 a0.Work [.d (.list (zG encR45Length a0.Lengths))])],[(9,v3.length)]⟩) (λ_=>rfl) ?_ ?_))))) h
 refine .block (.sR λe h=>?_)
 simp only [seval,EMK,fld_27_0,sz_24,und_24,sz_23,ag_23,zero_23,eStr]
 refine mU e (.sR λe h=>?_) h
 simp only [seval,EMK,ag_23,sz_23,zero_23,pl_23,gE_23,eStr]
 refine mU e (.cond rfl (λh11=>?_) (λh11=>?_)) h
 refine .bind λy9 h12=>.guard λq16=>?_
 replace q16 := okStr_ok q16
 try simp only [lm,xNA,xCA,xAN,xLC,xLN,xAC,xAL,nA,zJ] at q16
 refine .guard λq17=>?_
 replace q17 := okStr_ok q17
 try simp only [lm,xNA,xCA,xAN,xLC,xLN,xAC,xAL,nA,zJ] at q17
 refine .bind λy10 h13=>.guard λq18=>?_
 replace q18 := okStr_ok q18
 try simp only [lm,xNA,xCA,xAN,xLC,xLN,xAC,xAL,nA,zJ] at q18
 refine .guard λq19=>?_
 replace q19 := okStr_ok q19
 try simp only [lm,xNA,xCA,xAN,xLC,xLN,xAC,xAL,nA,zJ] at q19
 refine .bind λy11 h14=>.guard λq20=>?_
 replace q20 := okStr_ok q20
 try simp only [lm,xNA,xCA,xAN,xLC,xLN,xAC,xAL,nA,zJ] at q20
 refine .guard λq21=>?_
 replace q21 := okStr_ok q21
 try simp only [lm,xNA,xCA,xAN,xLC,xLN,xAC,xAL,nA,zJ] at q21
 refine .bind λy12 h15=>.guard λq22=>?_
 replace q22 := okStr_ok q22
 try simp only [lm,xNA,xCA,xAN,xLC,xLN,xAC,xAL,nA,zJ] at q22
 refine .guard λq23=>.regionD [] (by kernel_rfl) λe h=>?_
 simp only [seval,EMK,SB,(nr rfl : zV.wrap 56 = 56),eStr]
 refine Spec.by (r45_digits_spec h12) (by simp only [seval,FMK,eStr]) ?_
 simp only [seval,EMK,SB,q16,q17,fld_23_0,sz_2,ag_2,eStr]
 refine Spec.by (r06_Millimetres_spec h13) (by simp only [seval,FMK,eStr]) ?_
 simp only [seval,EMK,SB,q18,q19,fld_23_1,sz_2,ag_2,eStr]
 refine Spec.by (r06_Millimetres_spec h14) (by simp only [seval,FMK,eStr]) ?_
 simp only [seval,EMK,SB,q20,q21,fld_23_2,sz_2,ag_2,eStr]
 refine Spec.by (r06_Millimetres_spec h15) (by simp only [seval,FMK,eStr]) ?_
 simp only [seval,EMK,SB,q22,und_70,sz_9,zero_9,(oL 1),app_70,al_eStr,q23,eStr]
 cases h
 simp only [seval,FMK,eStr,Tryz.results25]
 refine .skip λe h=>?_
 cases h
 simp only [seval,FMK,eStr,Tryz.results25]
 intro v3
 refine Mir.toK (.region λe h=>?_)
 simp only [seval,EMK,(nr rfl : zV.wrap 3 = 3),eStr]
 refine Mir.useN (e := e) ?_ h
 refine .seqK (.sR λe h=>?_)
 simp only [seval,EMK,eStr]
 refine mU e (.condT rfl (.skip (Mir.toK (.seqK (Mir.joinO (λv4 : (List (List UInt8))=>([U,.ptr 0 0,U,.own 0 (zG eStr v4),.d (.int .i64 3)] ++ us 63)) (λv4=>⟨[(w6 a0.Work [.d (.list (zG encR45Length a0.Lengths))])],[(9,v4.length)]⟩) (λ_=>rfl) ?_ ?_))))) h
 refine .block (.sR λe h=>?_)
 simp only [seval,EMK,fld_27_0,sz_24,und_24,sz_23,ag_23,zero_23,eStr]
 refine mU e (.sR λe h=>?_) h
 simp only [seval,EMK,ag_23,sz_23,zero_23,pl_23,gE_23,eStr]
 refine mU e (.cond rfl (λh16=>?_) (λh16=>?_)) h
 refine .bind λy13 h17=>.guard λq24=>?_
 replace q24 := okStr_ok q24
 try simp only [lm,xNA,xCA,xAN,xLC,xLN,xAC,xAL,nA,zJ] at q24
 refine .guard λq25=>?_
 replace q25 := okStr_ok q25
 try simp only [lm,xNA,xCA,xAN,xLC,xLN,xAC,xAL,nA,zJ] at q25
 refine .bind λy14 h18=>.guard λq26=>?_
 replace q26 := okStr_ok q26
 try simp only [lm,xNA,xCA,xAN,xLC,xLN,xAC,xAL,nA,zJ] at q26
 refine .guard λq27=>?_
 replace q27 := okStr_ok q27
 try simp only [lm,xNA,xCA,xAN,xLC,xLN,xAC,xAL,nA,zJ] at q27
 refine .bind λy15 h19=>.guard λq28=>?_
 replace q28 := okStr_ok q28
 try simp only [lm,xNA,xCA,xAN,xLC,xLN,xAC,xAL,nA,zJ] at q28
 refine .guard λq29=>?_
 replace q29 := okStr_ok q29
 try simp only [lm,xNA,xCA,xAN,xLC,xLN,xAC,xAL,nA,zJ] at q29
 refine .bind λy16 h20=>.guard λq30=>?_
 replace q30 := okStr_ok q30
 try simp only [lm,xNA,xCA,xAN,xLC,xLN,xAC,xAL,nA,zJ] at q30
 refine .guard λq31=>.regionD [] (by kernel_rfl) λe h=>?_
 simp only [seval,EMK,SB,(nr rfl : zV.wrap 57 = 57),eStr]
 refine Spec.by (r45_digits_spec h17) (by simp only [seval,FMK,eStr]) ?_
 simp only [seval,EMK,SB,q24,q25,fld_23_0,sz_2,ag_2,eStr]
 refine Spec.by (r06_Millimetres_spec h18) (by simp only [seval,FMK,eStr]) ?_
 simp only [seval,EMK,SB,q26,q27,fld_23_1,sz_2,ag_2,eStr]
 refine Spec.by (r06_Millimetres_spec h19) (by simp only [seval,FMK,eStr]) ?_
 simp only [seval,EMK,SB,q28,q29,fld_23_2,sz_2,ag_2,eStr]
 refine Spec.by (r06_Millimetres_spec h20) (by simp only [seval,FMK,eStr]) ?_
 simp only [seval,EMK,SB,q30,und_70,sz_9,zero_9,(oL 1),app_70,al_eStr,q31,eStr]
 cases h
 simp only [seval,FMK,eStr,Tryz.results25]
 refine .skip λe h=>?_
 cases h
 simp only [seval,FMK,eStr,Tryz.results25]
 intro v4
 refine Mir.toK (.region λe h=>?_)
 simp only [seval,EMK,(nr rfl : zV.wrap 4 = 4),eStr]
 refine Mir.useN (e := e) ?_ h
 refine .seqK (.sR λe h=>?_)
 simp only [seval,EMK,eStr]
 refine mU e (.condT rfl (.skip (Mir.toK (.seqK (Mir.joinO (λv5 : (List (List UInt8))=>([U,.ptr 0 0,U,.own 0 (zG eStr v5),.d (.int .i64 4)] ++ us 63)) (λv5=>⟨[(w6 a0.Work [.d (.list (zG encR45Length a0.Lengths))])],[(9,v5.length)]⟩) (λ_=>rfl) ?_ ?_))))) h
 refine .block (.sR λe h=>?_)
 simp only [seval,EMK,fld_27_0,sz_24,und_24,sz_23,ag_23,zero_23,eStr]
 refine mU e (.sR λe h=>?_) h
 simp only [seval,EMK,ag_23,sz_23,zero_23,pl_23,gE_23,eStr]
 refine mU e (.cond rfl (λh21=>?_) (λh21=>?_)) h
 refine .bind λy17 h22=>.guard λq32=>?_
 replace q32 := okStr_ok q32
 try simp only [lm,xNA,xCA,xAN,xLC,xLN,xAC,xAL,nA,zJ] at q32
 refine .guard λq33=>?_
 replace q33 := okStr_ok q33
 try simp only [lm,xNA,xCA,xAN,xLC,xLN,xAC,xAL,nA,zJ] at q33
 refine .bind λy18 h23=>.guard λq34=>?_
 replace q34 := okStr_ok q34
 try simp only [lm,xNA,xCA,xAN,xLC,xLN,xAC,xAL,nA,zJ] at q34
 refine .guard λq35=>?_
 replace q35 := okStr_ok q35
 try simp only [lm,xNA,xCA,xAN,xLC,xLN,xAC,xAL,nA,zJ] at q35
 refine .bind λy19 h24=>.guard λq36=>?_
 replace q36 := okStr_ok q36
 try simp only [lm,xNA,xCA,xAN,xLC,xLN,xAC,xAL,nA,zJ] at q36
 refine .guard λq37=>?_
 replace q37 := okStr_ok q37
 try simp only [lm,xNA,xCA,xAN,xLC,xLN,xAC,xAL,nA,zJ] at q37
 refine .bind λy20 h25=>.guard λq38=>?_
 replace q38 := okStr_ok q38
 try simp only [lm,xNA,xCA,xAN,xLC,xLN,xAC,xAL,nA,zJ] at q38
 refine .guard λq39=>.regionD [] (by kernel_rfl) λe h=>?_
 simp only [seval,EMK,SB,(nr rfl : zV.wrap 58 = 58),eStr]
 refine Spec.by (r45_digits_spec h22) (by simp only [seval,FMK,eStr]) ?_
 simp only [seval,EMK,SB,q32,q33,fld_23_0,sz_2,ag_2,eStr]
 refine Spec.by (r06_Millimetres_spec h23) (by simp only [seval,FMK,eStr]) ?_
 simp only [seval,EMK,SB,q34,q35,fld_23_1,sz_2,ag_2,eStr]
 refine Spec.by (r06_Millimetres_spec h24) (by simp only [seval,FMK,eStr]) ?_
 simp only [seval,EMK,SB,q36,q37,fld_23_2,sz_2,ag_2,eStr]
 refine Spec.by (r06_Millimetres_spec h25) (by simp only [seval,FMK,eStr]) ?_
 simp only [seval,EMK,SB,q38,und_70,sz_9,zero_9,(oL 1),app_70,al_eStr,q39,eStr]
 cases h
 simp only [seval,FMK,eStr,Tryz.results25]
 refine .skip λe h=>?_
 cases h
 simp only [seval,FMK,eStr,Tryz.results25]
 intro v5
 refine Mir.toK (.region λe h=>?_)
 simp only [seval,EMK,(nr rfl : zV.wrap 5 = 5),eStr]
 refine Mir.useN (e := e) ?_ h
 refine .seqK (.sR λe h=>?_)
 simp only [seval,EMK,eStr]
 refine mU e (.condT rfl (.skip (Mir.toK (.seqK (Mir.joinO (λv6 : (List (List UInt8))=>([U,.ptr 0 0,U,.own 0 (zG eStr v6),.d (.int .i64 5)] ++ us 63)) (λv6=>⟨[(w6 a0.Work [.d (.list (zG encR45Length a0.Lengths))])],[(9,v6.length)]⟩) (λ_=>rfl) ?_ ?_))))) h
 refine .block (.sR λe h=>?_)
 simp only [seval,EMK,fld_27_0,sz_24,und_24,sz_23,ag_23,zero_23,eStr]
 refine mU e (.sR λe h=>?_) h
 simp only [seval,EMK,ag_23,sz_23,zero_23,pl_23,gE_23,eStr]
 refine mU e (.cond rfl (λh26=>?_) (λh26=>?_)) h
 refine .bind λy21 h27=>.guard λq40=>?_
 replace q40 := okStr_ok q40
 try simp only [lm,xNA,xCA,xAN,xLC,xLN,xAC,xAL,nA,zJ] at q40
 refine .guard λq41=>?_
 replace q41 := okStr_ok q41
 try simp only [lm,xNA,xCA,xAN,xLC,xLN,xAC,xAL,nA,zJ] at q41
 refine .bind λy22 h28=>.guard λq42=>?_
 replace q42 := okStr_ok q42
 try simp only [lm,xNA,xCA,xAN,xLC,xLN,xAC,xAL,nA,zJ] at q42
 refine .guard λq43=>?_
 replace q43 := okStr_ok q43
 try simp only [lm,xNA,xCA,xAN,xLC,xLN,xAC,xAL,nA,zJ] at q43
 refine .bind λy23 h29=>.guard λq44=>?_
 replace q44 := okStr_ok q44
 try simp only [lm,xNA,xCA,xAN,xLC,xLN,xAC,xAL,nA,zJ] at q44
 refine .guard λq45=>?_
 replace q45 := okStr_ok q45
 try simp only [lm,xNA,xCA,xAN,xLC,xLN,xAC,xAL,nA,zJ] at q45
 refine .bind λy24 h30=>.guard λq46=>?_
 replace q46 := okStr_ok q46
 try simp only [lm,xNA,xCA,xAN,xLC,xLN,xAC,xAL,nA,zJ] at q46
 refine .guard λq47=>.regionD [] (by kernel_rfl) λe h=>?_
 simp only [seval,EMK,SB,(nr rfl : zV.wrap 59 = 59),eStr]
 refine Spec.by (r45_digits_spec h27) (by simp only [seval,FMK,eStr]) ?_
 simp only [seval,EMK,SB,q40,q41,fld_23_0,sz_2,ag_2,eStr]
 refine Spec.by (r06_Millimetres_spec h28) (by simp only [seval,FMK,eStr]) ?_
 simp only [seval,EMK,SB,q42,q43,fld_23_1,sz_2,ag_2,eStr]
 refine Spec.by (r06_Millimetres_spec h29) (by simp only [seval,FMK,eStr]) ?_
 simp only [seval,EMK,SB,q44,q45,fld_23_2,sz_2,ag_2,eStr]
 refine Spec.by (r06_Millimetres_spec h30) (by simp only [seval,FMK,eStr]) ?_
 simp only [seval,EMK,SB,q46,und_70,sz_9,zero_9,(oL 1),app_70,al_eStr,q47,eStr]
 cases h
 simp only [seval,FMK,eStr,Tryz.results25]
 refine .skip λe h=>?_
 cases h
 simp only [seval,FMK,eStr,Tryz.results25]
 intro v6
 refine Mir.toK (.region λe h=>?_)
 simp only [seval,EMK,(nr rfl : zV.wrap 6 = 6),eStr]
 refine Mir.useN (e := e) ?_ h
 refine .seqK (.sR λe h=>?_)
 simp only [seval,EMK,eStr]
 refine mU e (.condF rfl (.exit λe h=>?_)) h
 cases h
 simp only [seval,FMK,eStr,Tryz.results25]
 intro v7
 refine Mir.toK (.seqK (.sR λe h=>?_))
 simp only [seval,EMK,eStr]
 refine mU e (Mir.joinO (λv9 : (List (List UInt8))=>([U,U,U,.own 0 (zG eStr v9)] ++ us 64)) (λv9=>⟨[(w6 a0.Work [.d (.list (zG encR45Length a0.Lengths))])],[(9,v9.length)]⟩) (λ_=>rfl) ?_ ?_) h
 refine .block (.guard λq48=>Mir.range (λ(i1 : Nat) (v8 : (List (List UInt8)))=>([U,.ptr 0 0,U,.own 0 (zG eStr v8),U,U,.d (.int .i64 (i1 : Int))] ++ us 61)) (λi1 v8=>⟨[(w6 a0.Work [.d (.list (zG encR45Length a0.Lengths))])],[(9,v8.length)]⟩) q48 (λ_ _=>rfl) (by simp only [seval,FMK,eStr,zNI]) (by simp only [seval,FMK,eStr,zNI]) ?_ ?_)
 intro i1 e1 v8 q49
 refine .seqK (.sR λe h=>?_)
 simp only [seval,EMK,fld_27_1,sz_25,ag_25,und_25,q49,eStr]
 refine mU e (.condT rfl (.skip (Mir.toK (.seqK (.block (.bind λy25 h31=>.guard λq50=>?_)))))) h
 replace q50 := okStr_ok q50
 try simp only [lm,xNA,xCA,xAN,xLC,xLN,xAC,xAL,nA,zJ] at q50
 refine .guard λq51=>?_
 replace q51 := okStr_ok q51
 try simp only [lm,xNA,xCA,xAN,xLC,xLN,xAC,xAL,nA,zJ] at q51
 refine .bind λy26 h32=>.guard λq52=>?_
 replace q52 := okStr_ok q52
 try simp only [lm,xNA,xCA,xAN,xLC,xLN,xAC,xAL,nA,zJ] at q52
 refine .guard λq53=>.regionD [] (by kernel_rfl) λe h=>?_
 simp only [seval,EMK,SB,fld_27_1,sz_25,ag_25,und_25,sz_68,q49,zN,fld_68_0,sz_2,ag_2,eStr]
 refine Spec.by (r45_digits_spec h31) (by simp only [seval,FMK,eStr]) ?_
 simp only [seval,EMK,SB,q50,q51,fld_27_1,sz_25,ag_25,und_25,sz_68,q49,zN,fld_68_1,sz_2,ag_2,eStr]
 refine Spec.by (r06_Millimetres_spec h32) (by simp only [seval,FMK,eStr]) ?_
 simp only [seval,EMK,SB,q52,und_70,sz_9,zero_9,(oL 1),app_70,al_eStr,q53,eStr]
 refine mU e (.region λe h=>?_) h
 simp only [seval,EMK,eStr]
 cases h
 simp only [seval,FMK,eStr,Tryz.results25,q49]
 intro v8 q54
 refine .seqK (.sR λe h=>?_)
 simp only [seval,EMK,fld_27_1,sz_25,ag_25,und_25,q54,eStr]
 refine mU e (.condF rfl (.exit λe h=>?_)) h
 cases h
 simp only [seval,FMK,eStr,Tryz.results25]
 intro v9
 refine Mir.toK (.sR λe h=>?_)
 simp only [seval,EMK,eStr]
 refine mU e (.ret λe h=>?_) h
 cases h
 simp only [seval,FMK,eStr,Tryz.results25]
end Go.Proofs.YtjamgiobipdfhaaGreatDoor
