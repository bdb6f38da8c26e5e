import Derived.Test.YtgbafiejgciilaaGreatDoorG1
import Derived.Test.YtgbafiejgciilaaGreatDoorTy
import Derived.Test.YtgbafiejgciilaaGreatDoorGz
import Derived.Test.YtgbafiejgciilaaGreatDoorSzz
import Derived.Test.YtgbafiejgciilaaGreatDoorSzk
import Derived.Test.YtgbafiejgciilaaGreatDoorMI
import Derived.Test.YtgbafiejgciilaaGreatDoorMQ
import Derived.Test.YtgbafiejgciilaaGreatDoorMB
open Nat renaming le_of_ble_eq_true → zA
open And renaming intro → zB
open Bool renaming eq_false_or_eq_true → zD
open List renaming map → zE,replicate → zH,length → zI
open Int renaming tdiv → zF,toNat_natCast → zG,tmod → zJ
open Go.IntKind renaming i64 → zK
namespace Go.Proofs.YtgbafiejgciilaaGreatDoor
set_option linter.defProp false
open Go.RowKit
open Nat renaming reduceAdd → nA,reduceSub → nS,reduceMul → nM,reduceEqDiff → nE,reduceLeDiff → nL,reduceLT → nT,reduceBEq → nB
open Int renaming reduceLT → iT,reduceToNat → iN,reduceEq → iE
set_option linter.unusedVariables false
set_option linter.unusedSimpArgs false
set_option maxRecDepth 100000
set_option maxHeartbeats 8000000
structure cu where
 Number:Int
 Length:Int
 deriving DecidableEq
def aL(x:cu):List D:=[.int .i64 x.Number,.int .i64 x.Length]
abbrev cO(x:cu):List V:=[.d (.int .i64 x.Number),.d (.int .i64 x.Length)]
structure cY where
 Work:aZ
 Lengths:(List cu)
 deriving DecidableEq
def encR45Table(x:cY):List D:=[.int .i64 x.Work.e0.X,.int .i64 x.Work.e0.Y,.int .i64 x.Work.e0.Z,.int .i64 x.Work.e1.X,.int .i64 x.Work.e1.Y,.int .i64 x.Work.e1.Z,.int .i64 x.Work.e2.X,.int .i64 x.Work.e2.Y,.int .i64 x.Work.e2.Z,.int .i64 x.Work.e3.X,.int .i64 x.Work.e3.Y,.int .i64 x.Work.e3.Z,.int .i64 x.Work.e4.X,.int .i64 x.Work.e4.Y,.int .i64 x.Work.e4.Z,.int .i64 x.Work.e5.X,.int .i64 x.Work.e5.Y,.int .i64 x.Work.e5.Z,.list (zE aL x.Lengths)]
def ENMH:=zB @aL.eq_1<|@encR45Table.eq_1
def TMH:=zB @Tryz.ntmps10<|zB @Tryz.ntmps11<|zB @Tryz.ntmps17<|zB @Tryz.ntmps18<|zB @Tryz.ntmps21<|zB @Tryz.ntmps22<|zB @Tryz.ntmps27<|zB @Tryz.ntmps36<|zB @Tryz.ntmps37<|zB @Tryz.ntmps39<|zB @Tryz.ntmps40<|zB @Tryz.ntmps5<|zB @Tryz.ntmps58<|zB @Tryz.ntmps76<|zB @Tryz.ntmps8<|zB @Tryz.ntmps9<|zB @Tryz.results10<|zB @Tryz.results11<|zB @Tryz.results110<|zB @Tryz.results17<|zB @Tryz.results18<|zB @Tryz.results21<|zB @Tryz.results22<|zB @Tryz.results24<|zB @Tryz.results27<|zB @Tryz.results36<|zB @Tryz.results37<|zB @Tryz.results39<|zB @Tryz.results40<|zB @Tryz.results5<|zB @Tryz.results58<|zB @Tryz.results76<|zB @Tryz.results8<|zB @Tryz.results9<|zB @ag_24<|zB @ag_25<|zB @ag_81<|zB @al_TableLength<|zB @app_48<|zB @fld_27_0<|zB @fld_27_1<|zB @fld_81_0<|zB @fld_81_1<|zB @aP<|zB @pl_104<|zB @pl_50<|zB @sz_25<|zB @sz_81<|zB @und_25<|zB @zero_50<|@zero_81
def EMH:=zB @EMB<|zB @ENMH<|@TMH
def FMH:=zB @FMB<|zB @ENMH<|@TMH
theorem QH{α:Type}{x:α}{p:α→Prop}(e:p x:=by simp only[seval,FMH]):∀y,some x=some y→p y:=λ_ i=>Option.some.inj i▸e
theorem WH{p q:Prop}(h:q)(e:p=q:=by simp only[seval,EMH];rfl):p:=Eq.mpr e h
theorem mH{P:Program}{g:Pg P}{fr:Fr}{s:Sg}{ε:Type}{Φ:ε→SQ}{m:Option ε}{c:Code}{e:ε}{p:Prop}(h:Mir g c fr s m Φ)(i:m=some e)(w:p=SWs g c (Φ e) fr s:=by simp only[seval,EMH];rfl):p:=Eq.mpr w (h e i)
theorem Mir.sH{P:Program}{g g':Pg P}{fr fr':Fr}{s s':Sg}{ε:Type}{Φ:ε→SQ}{m:Option ε}{id:Nat}{ops:Array Oper}{k c:Code}(h:Mir g' c fr' s' m Φ)(e:∀e,regS g false ops ops.toList fr s (kQ g k Φ e .normal)=SWs g' c (Φ e) fr' s':=by intro e;simp only[seval,EMH];rfl):Mir g (.seq (.region id ops false) k) fr s m Φ:=Mir.sR λy i=>Eq.mpr (e y) (h y i)
theorem SpecS.byH{P:Program}{g:Pg P}{f:FuncId}{args:List V}{s:Sg}{R:V→Sg→Prop}{r:V}{args':List V}(h:Spec g f args' r)(hR:R r s)(ha:args.map V.clean=args':=by simp only[seval,FMH]):SpecS g f args s R:=SpecS.by h ha hR
theorem auH{P:Program}{g:Pg P}{f:FuncId}{fn:Func}{c:Code}(hf:P.funcs[f]? = some fn){args:List V}{ρ:Type}(en:ρ→V){m:Option ρ}{fr:Fr}(h:Mir g c fr ⟨[],[]⟩ m (fnQ g fn.results.toList en)){y:ρ}(hy:m=some y)(hb:fn.body=some c:=by rfl)(he:bj P f=true:=by kernel_rfl)(hd:bP c=true:=by kernel_rfl)(e:args++List.replicate (fn.ntmps-args.length) .undef=fr:=by simp only[List.replicate,List.length,nS,nA,SV,TMH];rfl):Spec g f args (en y):=d4 hf hb he hd en (e▸h) hy
def r45_far(a0:Int):Option Bool:=some ((decide (a0>10000000))||(decide (a0<(-10000000))))
theorem eg{a0:Int}{y:Bool}(h:r45_far a0=some y):Spec gP 58 [.d (.int .i64 a0)] (.d (.bool y)):=by
 refine auH Tryz.func58 (λy:Bool=>.d (.bool y)) ?_ h
 unfold r45_far
 refine .sH ?_
 refine .seqK (.joinV ([U,U,.d (.bool ((decide (a0>10000000))||(decide (a0<(-10000000)))))]++us 6) ⟨[],[]⟩ rfl ?_ ?_)
 refine SWs.region ?_
 rcases zD (decide (a0>10000000))with hb1 | hb1
 simp only[seval,EMH,SL,PB,hb1]
 simp only[seval,EMH,SL,PB,hb1]
 refine Mir.toK (.ret QH)
def gL(a0:aa):Option Bool:=bindO (bindO (r45_far a0.X) λ(y1:Bool)=>if y1=true then some true else bindO (r45_far a0.Y) λ(y2:Bool)=>if y2=true then some true else bindO (r45_far a0.Z) λ(y3:Bool)=>some y3) λ(v1:Bool)=>some v1
theorem ef{a0:aa}{y:Bool}(h:gL a0=some y):Spec gP 17 [.agg (cH a0)] (.d (.bool y)):=by
 refine auH Tryz.func17 (λy:Bool=>.d (.bool y)) ?_ h
 unfold gL
 refine .sH ?_
 refine .seqK (Mir.joinO (λv1:Bool=>([U,U,.d (.bool v1)]++us 13)) (λv1=>⟨[(cH a0)],[]⟩) (λ_=>rfl) ?_ ?_)
 refine .bind λy1 hy1=>.ite (λhb2=>?_) (λhb2=>?_)
 refine .region λe h=>?_
 simp only[seval,EMH,hb2]
 refine SpecS.by (eg hy1) (by simp only[seval,FMH,hb2]) ?_
 simp only[seval,EMH,hb2]
 cases h
 simp only[seval,FMH,hb2]
 refine .bind λy2 hy3=>.ite (λhb4=>?_) (λhb4=>?_)
 refine .region λe h=>?_
 simp only[seval,EMH,hb2,hb4]
 refine SpecS.by (eg hy1) (by simp only[seval,FMH,hb2,hb4]) ?_
 simp only[seval,EMH,hb2,hb4]
 refine SpecS.by (eg hy3) (by simp only[seval,FMH,hb2,hb4]) ?_
 simp only[seval,EMH,hb2,hb4]
 cases h
 simp only[seval,FMH,hb2,hb4]
 refine .bind λy3 hy5=>.region λe h=>?_
 simp only[seval,EMH,hb2,hb4]
 refine SpecS.by (eg hy1) (by simp only[seval,FMH,hb2,hb4]) ?_
 simp only[seval,EMH,hb2,hb4]
 refine SpecS.by (eg hy3) (by simp only[seval,FMH,hb2,hb4]) ?_
 simp only[seval,EMH,hb2,hb4]
 refine SpecS.by (eg hy5) (by simp only[seval,FMH,hb2,hb4]) ?_
 simp only[seval,EMH,hb2,hb4]
 cases h
 simp only[seval,FMH,hb2,hb4]
 intro v1
 refine Mir.toK (.ret QH)
def jp(a0:cu):Option Bool:=some ((decide (a0.Number≥1))&&((decide (a0.Number≤999))&&((decide (a0.Length≥0))&&(decide (a0.Length≤10000000)))))
theorem gM{a0:cu}{y:Bool}(h:jp a0=some y):Spec gP 18 [.agg [.d (.int .i64 a0.Number),.d (.int .i64 a0.Length)]] (.d (.bool y)):=by
 refine auH Tryz.func18 (λy:Bool=>.d (.bool y)) ?_ h
 unfold jp
 refine .sH ?_
 refine .seqK (.joinV ([U,U,.d (.bool ((decide (a0.Number≥1))&&((decide (a0.Number≤999))&&((decide (a0.Length≥0))&&(decide (a0.Length≤10000000))))))]++us 18) ⟨[[.d (.int .i64 a0.Number),.d (.int .i64 a0.Length)]],[]⟩ rfl ?_ ?_)
 refine SWs.region ?_
 rcases zD (decide (a0.Number≥1))with hb1 | hb1
 rcases zD (decide (a0.Number≤999))with hb2 | hb2
 rcases zD (decide (a0.Length≥0))with hb3 | hb3
 simp only[seval,EMH,SL,PB,hb1,hb2,hb3]
 simp only[seval,EMH,SL,PB,hb1,hb2,hb3]
 simp only[seval,EMH,SL,PB,hb1,hb2]
 simp only[seval,EMH,SL,PB,hb1]
 refine Mir.toK (.ret QH)
def jq(a0:cY):Option Int:=bindX (bindO (gL a0.Work.e0) λ(y1:Bool)=>if y1=true then some (.ret 1)else bindO (gL a0.Work.e1) λ(y2:Bool)=>if y2=true then some (.ret 1)else bindO (gL a0.Work.e2) λ(y3:Bool)=>if y3=true then some (.ret 1)else bindO (gL a0.Work.e3) λ(y4:Bool)=>if y4=true then some (.ret 1)else bindO (gL a0.Work.e4) λ(y5:Bool)=>if y5=true then some (.ret 1)else bindO (gL a0.Work.e5) λ(y6:Bool)=>if y6=true then some (.ret 1)else some (.go ())) λ(v1:Unit)=>bindX (aB (okIdx a0.Lengths) ( aS (λ(i1:Nat) (e1:cu) (v2:Unit)=>bindO (bindO (jp e1) λ(y7:Bool)=>if y7=true then if (decide ((i1:Int)>0))=true then bindO (gt a0.Lengths (zK.wrap ((i1:Int)-1))) λ(e2:cu)=>some (decide (e1.Number≤e2.Number))else some false else some true) λ(v3:Bool)=>if v3=true then some (.ret (.ret 1))else some (.go ())) (λ(v2:Unit)=>some (.go ())) a0.Lengths 0 ())) λ(v4:Unit)=>some 0
theorem r45_Valid_spec{a0:cY}{y:Int}(h:jq a0=some y):Spec gP 5 [.agg (w6 a0.Work [.d (.list (zE aL a0.Lengths))])] (.d (.int .i64 y)):=by
 refine auH Tryz.func5 (λy:Int=>.d (.int .i64 y)) ?_ h
 unfold jq
 refine .sH ?_
 refine .seqK (.sH ?_)
 refine Mir.join (λv1:Unit=>([U,.ptr 0 0]++us 46)) (λv1=>⟨[(w6 a0.Work [.d (.list (zE aL a0.Lengths))])],[]⟩) (λ_=>rfl) ?_ ?_
 refine .block (.loopR 15 (.seqK (.sH ?_)))
 refine .condT rfl (.skip (Mir.toK (.seqK (.block (.seqK (.bind λy1 hy33=>.region λe h=>WH ?_))))))
 refine .byH (ef hy33) (mH ?_ h)
 refine .cond rfl (λhb35=>?_) (λhb35=>?_)
 refine .sH ?_
 refine .ret QH
 refine .skip (Mir.toB (Mir.toK (.region λe h=>?_)))
 simp only[seval,EMH,(nr rfl:zK.wrap 1=1)]
 refine Mir.useN (e:=e) ?_ h
 refine .seqK (.sH ?_)
 refine .condT rfl (.skip (Mir.toK (.seqK (.block (.seqK (.bind λy2 hy38=>.region λe h=>WH ?_))))))
 refine .byH (ef hy38) (mH ?_ h)
 refine .cond rfl (λhb40=>?_) (λhb40=>?_)
 refine .sH ?_
 refine .ret QH
 refine .skip (Mir.toB (Mir.toK (.region λe h=>?_)))
 simp only[seval,EMH,(nr rfl:zK.wrap 2=2)]
 refine Mir.useN (e:=e) ?_ h
 refine .seqK (.sH ?_)
 refine .condT rfl (.skip (Mir.toK (.seqK (.block (.seqK (.bind λy3 hy43=>.region λe h=>WH ?_))))))
 refine .byH (ef hy43) (mH ?_ h)
 refine .cond rfl (λhb45=>?_) (λhb45=>?_)
 refine .sH ?_
 refine .ret QH
 refine .skip (Mir.toB (Mir.toK (.region λe h=>?_)))
 simp only[seval,EMH,(nr rfl:zK.wrap 3=3)]
 refine Mir.useN (e:=e) ?_ h
 refine .seqK (.sH ?_)
 refine .condT rfl (.skip (Mir.toK (.seqK (.block (.seqK (.bind λy4 hy48=>.region λe h=>WH ?_))))))
 refine .byH (ef hy48) (mH ?_ h)
 refine .cond rfl (λhb50=>?_) (λhb50=>?_)
 refine .sH ?_
 refine .ret QH
 refine .skip (Mir.toB (Mir.toK (.region λe h=>?_)))
 simp only[seval,EMH,(nr rfl:zK.wrap 4=4)]
 refine Mir.useN (e:=e) ?_ h
 refine .seqK (.sH ?_)
 refine .condT rfl (.skip (Mir.toK (.seqK (.block (.seqK (.bind λy5 hy53=>.region λe h=>WH ?_))))))
 refine .byH (ef hy53) (mH ?_ h)
 refine .cond rfl (λhb55=>?_) (λhb55=>?_)
 refine .sH ?_
 refine .ret QH
 refine .skip (Mir.toB (Mir.toK (.region λe h=>?_)))
 simp only[seval,EMH,(nr rfl:zK.wrap 5=5)]
 refine Mir.useN (e:=e) ?_ h
 refine .seqK (.sH ?_)
 refine .condT rfl (.skip (Mir.toK (.seqK (.block (.seqK (.bind λy6 hy58=>.region λe h=>WH ?_))))))
 refine .byH (ef hy58) (mH ?_ h)
 refine .cond rfl (λhb60=>?_) (λhb60=>?_)
 refine .sH ?_
 refine .ret QH
 refine .skip (Mir.toB (Mir.toK (.region λe h=>?_)))
 simp only[seval,EMH,(nr rfl:zK.wrap 6=6)]
 refine Mir.useN (e:=e) ?_ h
 refine .seqK (.sH ?_)
 refine .condF rfl (.exit QH)
 intro v1
 refine Mir.toK (.seqK (.sH ?_))
 refine Mir.join (λv4:Unit=>(us 48)) (λv4=>⟨[(w6 a0.Work [.d (.list (zE aL a0.Lengths))])],[]⟩) (λ_=>rfl) ?_ ?_
 refine .block (.guard λq1=>Mir.range (λ(i1:Nat) (v2:Unit)=>([U,.ptr 0 0,U,U,.d (.int .i64 (i1:Int))]++us 43)) (λi1 v2=>⟨[(w6 a0.Work [.d (.list (zE aL a0.Lengths))])],[]⟩) q1 (λ_ _=>rfl) (by simp only[seval,FMH,zNI]) (by simp only[seval,FMH,zNI]) ?_ ?_)
 intro i1 e1 v2 q2
 refine .seqK (.sR λe h=>?_)
 simp only[seval,EMH,q2]
 refine mU e (.condT rfl (.skip (Mir.toK (.seqK (.block (.seqK (Mir.joinO (λv3:Bool=>[U,.ptr 0 0,U,U,.d (.int .i64 (i1:Int)),U,U,U,U,U,U,U,U,U,U,U,U,U,U,U,U,U,U,U,U,U,U,U,U,U,U,U,U,U,U,U,U,U,U,U,U,U,U,U,U,U,U,.d (.bool v3)]) (λv3=>⟨[(w6 a0.Work [.d (.list (zE aL a0.Lengths))])],[]⟩) (λ_=>rfl) ?_ ?_))))))) h
 refine .bind λy7 h1=>.ite (λh2=>?_) (λh2=>?_)
 refine .ite (λh3=>?_) (λh3=>?_)
 refine .bind λe2 q3=>?_
 replace q3:=gt_ok q3
 refine .regionD [] (by kernel_rfl) λe h=>?_
 simp only[seval,EMH,SB,q2,zG,h2,h3]
 refine Spec.by (gM h1) (by simp only[seval,FMH,h2,h3]) ?_
 simp only[seval,EMH,SB,q2,zG,q3,h2,h3]
 cases h
 simp only[seval,FMH,h2,h3]
 refine .regionD [] (by kernel_rfl) λe h=>?_
 simp only[seval,EMH,SB,q2,zG,h2,h3]
 refine Spec.by (gM h1) (by simp only[seval,FMH,h2,h3]) ?_
 simp only[seval,EMH,SB,h2,h3]
 cases h
 simp only[seval,FMH,h2,h3]
 refine .regionD [] (by kernel_rfl) λe h=>?_
 simp only[seval,EMH,SB,q2,zG,h2]
 refine Spec.by (gM h1) (by simp only[seval,FMH,h2]) ?_
 simp only[seval,EMH,SB,h2]
 cases h
 simp only[seval,FMH,h2]
 intro v3
 refine Mir.toK (.cond rfl (λh4=>?_) (λh4=>?_))
 refine .sH ?_
 refine .ret QH
 refine .skip (Mir.toB (Mir.toK (.region λe h=>?_)))
 simp only[seval,EMH]
 cases h
 simp only[seval,FMH,q2]
 intro v2 q4
 refine .seqK (.sR λe h=>?_)
 simp only[seval,EMH,q4]
 refine mU e (.condF rfl (.exit QH)) h
 intro v4
 refine Mir.toK (.sH ?_)
 refine .ret QH
def bs(a0:List aG):Option (List aG):=aB (okLen a0.length) (some a0)
theorem dh{c0:Nat}{y:List aG}(h:(some [])=some y):Spec gP 110 [.d (.other (.slice none 0 c0))] (.d (.list (zE ag y))):=by
 refine d4 Tryz.func110 rfl (by kernel_rfl) (by kernel_rfl) (λy:List aG=>.d (.list (zE ag y))) ?_ h
 simp only[zH,zI,nS,nA,Tryz.ntmps110,SV]
 refine .sH ?_
 refine .seqK (.sH ?_)
 refine .condT rfl (.sH ?_)
 refine .ret QH
theorem dg{p0:Addr}{c0:Nat}{y:List aG}(h:(some [])=some y):Spec gP 110 [.d (.other (.slice (some p0) 0 c0))] (.d (.list (zE ag y))):=by
 refine d4 Tryz.func110 rfl (by kernel_rfl) (by kernel_rfl) (λy:List aG=>.d (.list (zE ag y))) ?_ h
 simp only[zH,zI,nS,nA,Tryz.ntmps110,SV]
 refine .sH ?_
 refine .seqK (.sH ?_)
 refine .condF rfl (.skip (Mir.toK (.sR λe h=>?_)))
 simp only[seval,EMH,(oL 0),List.all_cons,List.all_nil]
 refine mU e (.ret QH) h
theorem di{x0:aG}{l0:List aG}{y:List aG}(h:(aB (okLen ((x0::l0).length)) (   some (x0::l0)))=some y):Spec gP 110 [.d (.list (zE ag (x0::l0)))] (.d (.list (zE ag y))):=by
 refine d4 Tryz.func110 rfl (by kernel_rfl) (by kernel_rfl) (λy:List aG=>.d (.list (zE ag y))) ?_ h
 simp only[zH,zI,nS,nA,Tryz.ntmps110,SV]
 refine .sH ?_
 refine .seqK (.sH ?_)
 refine .condF rfl (.skip (Mir.toK (.seqK (.guard λq1=>.region λe h=>?_))))
 simp only[seval,EMH,(oL 0),q1]
 refine mU e (.ret QH) h
theorem cz{a0:List aG}{y:List aG}(h:bs a0=some y):Spec gP 110 [.d (.list (zE ag a0))] (.d (.list (zE ag y))):=by
 obtain⟨hl,h⟩:=iY h
 cases h
 cases a0 with
 | nil =>
  refine Spec.nilcase λA c=>?_
  cases A with
  | none=>exact dh rfl
  | some p=>exact dg rfl
 | cons x l=>exact di (by simp only[aB,hl])
def tb_clone(a0:al):Option al:=bindO (bs a0.Lengths) λ(y1:(List aG))=>some (al.mk a0.Work y1)
theorem tb_clone_spec{a0:al}{y:al}(h:tb_clone a0=some y):Spec gP 76 [.agg (w6 a0.Work [.d (.list (zE ag a0.Lengths))])] (.agg (w6 y.Work [.d (.list (zE ag y.Lengths))])):=by
 refine auH Tryz.func76 (λy:al=>.agg (w6 y.Work [.d (.list (zE ag y.Lengths))])) ?_ h
 unfold tb_clone
 refine .sH ?_
 refine .seqK (.bind λy1 hy1=>.region λe h=>WH ?_)
 refine .byH (cz hy1) (mH ?_ h)
 refine .sH ?_
 refine .ret QH
def fJ(a0:al)(a1:Int)(a2:aa):Option (al×Int):=bindO (br a0) λ(y1:Int)=>if (y1 != 0)=true then some (al.mk (aZ.mk (aa.mk 0 0 0) (aa.mk 0 0 0) (aa.mk 0 0 0) (aa.mk 0 0 0) (aa.mk 0 0 0) (aa.mk 0 0 0)) [],y1)else bindO (kL a1) λ(y2:Int×Int)=>if (y2.2 != 0)=true then some (al.mk (aZ.mk (aa.mk 0 0 0) (aa.mk 0 0 0) (aa.mk 0 0 0) (aa.mk 0 0 0) (aa.mk 0 0 0) (aa.mk 0 0 0)) [],y2.2)else bindO (gW a2) λ(y3:Bool)=>if y3=true then some (al.mk (aZ.mk (aa.mk 0 0 0) (aa.mk 0 0 0) (aa.mk 0 0 0) (aa.mk 0 0 0) (aa.mk 0 0 0) (aa.mk 0 0 0)) [],11)else bindO (tb_clone a0) λ(y4:al)=>bindO (aB (decide (0≤y2.1∧y2.1<6)) ( if (y2.1==0)=true then some (al.mk (aZ.mk a2 y4.Work.e1 y4.Work.e2 y4.Work.e3 y4.Work.e4 y4.Work.e5) y4.Lengths)else if (y2.1==1)=true then some (al.mk (aZ.mk y4.Work.e0 a2 y4.Work.e2 y4.Work.e3 y4.Work.e4 y4.Work.e5) y4.Lengths)else if (y2.1==2)=true then some (al.mk (aZ.mk y4.Work.e0 y4.Work.e1 a2 y4.Work.e3 y4.Work.e4 y4.Work.e5) y4.Lengths)else if (y2.1==3)=true then some (al.mk (aZ.mk y4.Work.e0 y4.Work.e1 y4.Work.e2 a2 y4.Work.e4 y4.Work.e5) y4.Lengths)else if (y2.1==4)=true then some (al.mk (aZ.mk y4.Work.e0 y4.Work.e1 y4.Work.e2 y4.Work.e3 a2 y4.Work.e5) y4.Lengths)else some (al.mk (aZ.mk y4.Work.e0 y4.Work.e1 y4.Work.e2 y4.Work.e3 y4.Work.e4 a2) y4.Lengths))) λ(v1:al)=>some (v1,0)
theorem jl{a0:al}{a1:Int}{a2:aa}{y:al×Int}(h:fJ a0 a1 a2=some y):Spec gP 40 [.agg (w6 a0.Work [.d (.list (zE ag a0.Lengths))]),.d (.int .i64 a1),.agg (cH a2)] (.tuple [.agg (w6 y.1.Work [.d (.list (zE ag y.1.Lengths))]),.d (.int .i64 y.2)]):=by
 refine auH Tryz.func40 (λy:al×Int=>.tuple [.agg (w6 y.1.Work [.d (.list (zE ag y.1.Lengths))]),.d (.int .i64 y.2)]) ?_ h
 unfold fJ
 refine .sH ?_
 refine .seqK (.seqK (.bind λy1 hy1=>.region λe h=>WH ?_))
 refine .byH (ey hy1) (mH ?_ h)
 refine .sH ?_
 refine .cond rfl (λhb3=>?_) (λhb3=>?_)
 refine .sH ?_
 refine .ret QH
 refine .skip (Mir.toK (.seqK (.bind λy2 hy4=>.region λe h=>WH ?_)))
 refine .byH (tb_slot_spec hy4) (mH ?_ h)
 refine .seqK (.sH ?_)
 refine .cond rfl (λhb6=>?_) (λhb6=>?_)
 refine .sH ?_
 refine .ret QH
 refine .skip (Mir.toK (.seqK (.seqK (.bind λy3 hy7=>.region λe h=>WH ?_))))
 refine .byH (cv hy7) (mH ?_ h)
 refine .cond rfl (λhb9=>?_) (λhb9=>?_)
 refine .sH ?_
 refine .ret QH
 refine .skip (Mir.toK (.seqK (.bind λy4 hy10=>.region λe h=>WH ?_)))
 refine .byH (tb_clone_spec hy10) (mH ?_ h)
 refine .seqK (Mir.joinO (λv1:al=>([U,U,U,U,U,U,.ptr 2 0,U,U,U,U,.ptr 3 0]++us 25)) (λv1=>⟨[(w6 a0.Work [.d (.list (zE ag a0.Lengths))]),(cH a2),[.d (.int .i64 0),.d (.int .i64 0),.d (.int .i64 0),.d (.int .i64 0),.d (.int .i64 0),.d (.int .i64 0),.d (.int .i64 0),.d (.int .i64 0),.d (.int .i64 0),.d (.int .i64 0),.d (.int .i64 0),.d (.int .i64 0),.d (.int .i64 0),.d (.int .i64 0),.d (.int .i64 0),.d (.int .i64 0),.d (.int .i64 0),.d (.int .i64 0),.nil],(w6 v1.Work [.d (.list (zE ag v1.Lengths))])],[]⟩) (λ_=>rfl) ?_ ?_)
 refine .guard λqi11=>.ite (λhb12=>?_) (λhb12=>?_)
 refine .region λe h=>?_
 simp only[seval,EMH,(eq_of_beq hb12),hb12]
 cases h
 simp only[seval,FMH,hb12]
 refine .ite (λhb13=>?_) (λhb13=>?_)
 refine .region λe h=>?_
 simp only[seval,EMH,(eq_of_beq hb13),hb12,hb13]
 cases h
 simp only[seval,FMH,hb12,hb13]
 refine .ite (λhb14=>?_) (λhb14=>?_)
 refine .region λe h=>?_
 simp only[seval,EMH,(eq_of_beq hb14),hb12,hb13,hb14]
 cases h
 simp only[seval,FMH,hb12,hb13,hb14]
 refine .ite (λhb15=>?_) (λhb15=>?_)
 refine .region λe h=>?_
 simp only[seval,EMH,(eq_of_beq hb15),hb12,hb13,hb14,hb15]
 cases h
 simp only[seval,FMH,hb12,hb13,hb14,hb15]
 refine .ite (λhb16=>?_) (λhb16=>?_)
 refine .region λe h=>?_
 simp only[seval,EMH,(eq_of_beq hb16),hb12,hb13,hb14,hb15,hb16]
 cases h
 simp only[seval,FMH,hb12,hb13,hb14,hb15,hb16]
 have hz17:y2.1=5:=by have h0:=of_decide_eq_true qi11;have h1:=aE hb12;have h2:=aE hb13;have h3:=aE hb14;have h4:=aE hb15;have h5:=aE hb16;omega
 refine .region λe h=>?_
 simp only[seval,EMH,hz17,hb12,hb13,hb14,hb15,hb16]
 cases h
 simp only[seval,FMH,hb12,hb13,hb14,hb15,hb16]
 intro v1
 refine Mir.toK (.sH ?_)
 refine .ret QH
def cn(a0:Int)(a1:Int)(a2:Int):Option Int:=if ((decide (a0<0))||((decide (a0>2))||(if (a1 != 1)=true then (a1 != (-1))||((decide (a2<1))||(decide (a2>10000000)))else (decide (a2<1))||(decide (a2>10000000)))))=true then some 1 else some 0
theorem bL{a0:Int}{a1:Int}{a2:Int}{y:Int}(h:cn a0 a1 a2=some y):Spec gP 21 [.d (.int .i64 a0),.d (.int .i64 a1),.d (.int .i64 a2)] (.d (.int .i64 y)):=by
 refine auH Tryz.func21 (λy:Int=>.d (.int .i64 y)) ?_ h
 unfold cn
 refine .sH ?_
 refine .seqK (.seqK (.joinV [U,U,U,U,U,U,U,U,U,U,U,U,U,U,U,U,U,U,U,U,U,U,U,U,U,U,U,U,.d (.bool ((decide (a0<0))||((decide (a0>2))||(if (a1 != 1)=true then (a1 != (-1))||((decide (a2<1))||(decide (a2>10000000)))else (decide (a2<1))||(decide (a2>10000000))))))] ⟨[],[]⟩ rfl ?_ ?_))
 refine SWs.region ?_
 rcases zD (decide (a0<0))with hb1 | hb1
 simp only[seval,EMH,SL,PB,hb1]
 rcases zD (decide (a0>2))with hb2 | hb2
 simp only[seval,EMH,SL,PB,hb1,hb2]
 rcases zD (a1 != 1)with hb3 | hb3
 rcases zD (a1 != (-1))with hb4 | hb4
 simp only[seval,EMH,SL,PB,hb1,hb2,hb3,hb4]
 rcases zD (decide (a2<1))with hb5 | hb5
 simp only[seval,EMH,SL,PB,hb1,hb2,hb3,hb4,hb5]
 simp only[seval,EMH,SL,PB,hb1,hb2,hb3,hb4,hb5]
 rcases zD (decide (a2<1))with hb6 | hb6
 simp only[seval,EMH,SL,PB,hb1,hb2,hb3,hb6]
 simp only[seval,EMH,SL,PB,hb1,hb2,hb3,hb6]
 refine Mir.toK (.cond rfl (λhb8=>?_) (λhb8=>?_))
 refine .sH ?_
 refine .ret QH
 refine .skip (Mir.toK (.sH ?_))
 refine .ret QH
def pb_in(a0:Int):Option Bool:=some ((decide (a0≥(-10000000)))&&(decide (a0≤10000000)))
theorem bg{a0:Int}{y:Bool}(h:pb_in a0=some y):Spec gP 36 [.d (.int .i64 a0)] (.d (.bool y)):=by
 refine auH Tryz.func36 (λy:Bool=>.d (.bool y)) ?_ h
 unfold pb_in
 refine .sH ?_
 refine .seqK (.joinV ([U,U,.d (.bool ((decide (a0≥(-10000000)))&&(decide (a0≤10000000))))]++us 6) ⟨[],[]⟩ rfl ?_ ?_)
 refine SWs.region ?_
 rcases zD (decide (a0≥(-10000000)))with hb1 | hb1
 simp only[seval,EMH,SL,PB,hb1]
 simp only[seval,EMH,SL,PB,hb1]
 refine Mir.toK (.ret QH)
def eE(a0:aa):Option Bool:=bindO (bindO (pb_in a0.X) λ(y1:Bool)=>if y1=true then bindO (pb_in a0.Y) λ(y2:Bool)=>if y2=true then bindO (pb_in a0.Z) λ(y3:Bool)=>some y3 else some false else some false) λ(v1:Bool)=>some v1
theorem dS{a0:aa}{y:Bool}(h:eE a0=some y):Spec gP 22 [.agg (cH a0)] (.d (.bool y)):=by
 refine auH Tryz.func22 (λy:Bool=>.d (.bool y)) ?_ h
 unfold eE
 refine .sH ?_
 refine .seqK (Mir.joinO (λv1:Bool=>([U,U,.d (.bool v1)]++us 13)) (λv1=>⟨[(cH a0)],[]⟩) (λ_=>rfl) ?_ ?_)
 refine .bind λy1 hy1=>.ite (λhb2=>?_) (λhb2=>?_)
 refine .bind λy2 hy3=>.ite (λhb4=>?_) (λhb4=>?_)
 refine .bind λy3 hy5=>.region λe h=>?_
 simp only[seval,EMH,hb2,hb4]
 refine SpecS.by (bg hy1) (by simp only[seval,FMH,hb2,hb4]) ?_
 simp only[seval,EMH,hb2,hb4]
 refine SpecS.by (bg hy3) (by simp only[seval,FMH,hb2,hb4]) ?_
 simp only[seval,EMH,hb2,hb4]
 refine SpecS.by (bg hy5) (by simp only[seval,FMH,hb2,hb4]) ?_
 simp only[seval,EMH,hb2,hb4]
 cases h
 simp only[seval,FMH,hb2,hb4]
 refine .region λe h=>?_
 simp only[seval,EMH,hb2,hb4]
 refine SpecS.by (bg hy1) (by simp only[seval,FMH,hb2,hb4]) ?_
 simp only[seval,EMH,hb2,hb4]
 refine SpecS.by (bg hy3) (by simp only[seval,FMH,hb2,hb4]) ?_
 simp only[seval,EMH,hb2,hb4]
 cases h
 simp only[seval,FMH,hb2,hb4]
 refine .region λe h=>?_
 simp only[seval,EMH,hb2]
 refine SpecS.by (bg hy1) (by simp only[seval,FMH,hb2]) ?_
 simp only[seval,EMH,hb2]
 cases h
 simp only[seval,FMH,hb2]
 intro v1
 refine Mir.toK (.ret QH)
def d6(a0:Int)(a1:Int):Option Int:=if (a0==2)=true then some 0 else some a1
theorem bW{a0:Int}{a1:Int}{y:Int}(h:d6 a0 a1=some y):Spec gP 27 [.d (.int .i64 a0),.d (.int .i64 a1)] (.d (.int .i64 y)):=by
 refine auH Tryz.func27 (λy:Int=>.d (.int .i64 y)) ?_ h
 unfold d6
 refine .sH ?_
 refine .seqK (.sH ?_)
 refine .cond rfl (λhb2=>?_) (λhb2=>?_)
 refine .sH ?_
 refine .ret QH
 refine .skip (Mir.toK (.sH ?_))
 refine .ret QH
def g8(a0:aa)(a2:Int)(a3:Int):Option (Int×Int):=bindO (cn 0 a2 a3) λ(y1:Int)=>if (y1 != 0)=true then some (0,y1)else bindO (eE a0) λ(y2:Bool)=>if (!y2)=true then some (0,11)else bindO (some ()) λ(v1:Unit)=>bindO (d6 0 a3) λ(y3:Int)=>bindO (pb_in (zK.wrap (a0.X+(zK.wrap (a2*y3))))) λ(y4:Bool)=>if (!y4)=true then some (0,11)else some (zK.wrap (a0.X+(zK.wrap (a2*y3))),0)
theorem pb_Wall_k0_spec{a0:aa}{a2:Int}{a3:Int}{y:Int×Int}(h:g8 a0 a2 a3=some y):Spec gP 37 [.agg (cH a0),.d (.int .i64 0),.d (.int .i64 a2),.d (.int .i64 a3)] (.tuple [.d (.int .i64 y.1),.d (.int .i64 y.2)]):=by
 refine auH Tryz.func37 (λy:Int×Int=>.tuple [.d (.int .i64 y.1),.d (.int .i64 y.2)]) ?_ h
 unfold g8
 refine .sH ?_
 refine .seqK (.seqK (.bind λy1 hy1=>.region λe h=>WH ?_))
 refine .byH (bL hy1) (mH ?_ h)
 refine .sH ?_
 refine .cond rfl (λhb3=>?_) (λhb3=>?_)
 refine .sH ?_
 refine .ret QH
 refine .skip (Mir.toK (.seqK (.seqK (.bind λy2 hy4=>.region λe h=>WH ?_))))
 refine .byH (dS hy4) (mH ?_ h)
 refine .cond rfl (λhb6=>?_) (λhb6=>?_)
 refine .sH ?_
 refine .ret QH
 refine .skip (Mir.toK (.seqK (.bind λv1 hv7=>.bind λy3 hy8=>Mir.regionA 0 [] ([.agg (cH a0),.d (.int .i64 0),.d (.int .i64 a2),.d (.int .i64 a3),.ptr 0 0,U,U,U,.d (.int .i64 0),.d (.int .i64 0),.d (.int .i64 y1),.d (.int .i64 (zK.wrap (a0.X+(zK.wrap (a2*y3))))),.d (.int .i64 0),.d (.int .i64 a2),.d (.int .i64 a3),.d (.int .i64 y1),.d (.int .i64 y1),.d (.bool (y1 != 0)),U,.agg (cH a0),.d (.bool y2),.d (.bool (!y2)),.d (.int .i64 0),.ptr 0 0,.ptr 0 0,.d (.int .i64 a0.X),.d (.int .i64 a2),.d (.int .i64 0),.d (.int .i64 a3),.d (.int .i64 y3),.d (.int .i64 (zK.wrap (a2*y3))),.d (.int .i64 (zK.wrap (a0.X+(zK.wrap (a2*y3)))))]++us 4) ⟨[(cH a0)],[]⟩ (by kernel_rfl) (λe h=>?_) (λe h=>?_))))
 simp only[seval,EMH,SB]
 refine regA.pureB (j:=0) (d:=22) (by kernel_rfl) rfl rfl (by kernel_rfl) rfl rfl (zA rfl) ?_
 simp only[seval,EMH]
 refine⟨rfl,?_⟩
 refine regA.pureB (j:=4) (d:=26) (by kernel_rfl) rfl rfl (by kernel_rfl) rfl rfl (zA rfl) ?_
 simp only[seval,EMH]
 refine⟨rfl,?_⟩
 refine regA.pureB (j:=5) (d:=27) (by kernel_rfl) rfl rfl (by kernel_rfl) rfl rfl (zA rfl) ?_
 simp only[seval,EMH]
 refine⟨rfl,?_⟩
 refine regA.pureB (j:=6) (d:=28) (by kernel_rfl) rfl rfl (by kernel_rfl) rfl rfl (zA rfl) ?_
 simp only[seval,EMH]
 refine⟨rfl,?_⟩
 refine regA.one (j:=1) (by kernel_rfl) rfl (regW.of ?_)
 simp only[seval,EMH]
 refine SpecS.inl Tryz.func24 rfl (by kernel_rfl) (by kernel_rfl) (λv1:Unit=>.ptr 0 0) (λv1=>⟨[(cH a0)],[]⟩) hv7 rfl ?_ ?_
 simp only[zH,zI,nS,nA,Tryz.ntmps24,SV]
 refine .sH ?_
 refine .seqK (.regionD [] (by kernel_rfl) λe h=>?_)
 simp only[seval,EMH,SB,(oL 3)]
 refine mU e (.ret QH) h
 simp only[seval,EMH]
 refine regA.two (j:=2) (k:=7) (by kernel_rfl) rfl rfl ?_ ?_
 refine regW.of ?_
 simp only[seval,EMH]
 refine regA.two (j:=3) (k:=7) (by kernel_rfl) rfl rfl ?_ ?_
 refine regW.of ?_
 simp only[seval,EMH]
 refine regA.one (j:=7) (by kernel_rfl) rfl (regW.of ?_)
 simp only[seval,EMH]
 refine .byH (bW hy8) (WH ?_)
 refine regA.pureB (j:=8) (d:=30) (by kernel_rfl) rfl rfl (by kernel_rfl) rfl rfl (zA rfl) ?_
 simp only[seval,EMH]
 refine⟨rfl,?_⟩
 refine regA.pureB (j:=9) (d:=31) (by kernel_rfl) rfl rfl (by kernel_rfl) rfl rfl (zA rfl) ?_
 simp only[seval,EMH]
 refine⟨rfl,?_⟩
 refine regA.pureB (j:=10) (d:=11) (by kernel_rfl) rfl rfl (by kernel_rfl) rfl rfl (zA rfl) ?_
 simp only[seval,EMH]
 refine⟨rfl,?_⟩
 exact regA.nil (by kernel_rfl) ⟨by first | rfl | simp only[seval,FMH,aP,xMA,xLA],by first | rfl | simp only[seval,FMH,aP,xMA,xLA]⟩
 refine regW.of ?_
 simp only[seval,EMH]
 refine .byH (bW hy8) (WH ?_)
 refine regA.pureB (j:=8) (d:=30) (by kernel_rfl) rfl rfl (by kernel_rfl) rfl rfl (zA rfl) ?_
 simp only[seval,EMH]
 refine⟨rfl,?_⟩
 refine regA.one (j:=3) (by kernel_rfl) rfl (regW.of ?_)
 simp only[seval,EMH]
 refine regA.pureB (j:=9) (d:=31) (by kernel_rfl) rfl rfl (by kernel_rfl) rfl rfl (zA rfl) ?_
 simp only[seval,EMH]
 refine⟨rfl,?_⟩
 refine regA.pureB (j:=10) (d:=11) (by kernel_rfl) rfl rfl (by kernel_rfl) rfl rfl (zA rfl) ?_
 simp only[seval,EMH]
 refine⟨rfl,?_⟩
 exact regA.nil (by kernel_rfl) ⟨by first | rfl | simp only[seval,FMH,aP,xMA,xLA],by first | rfl | simp only[seval,FMH,aP,xMA,xLA]⟩
 refine regW.of ?_
 simp only[seval,EMH]
 refine .byH (bW hy8) (WH ?_)
 refine regA.pureB (j:=8) (d:=30) (by kernel_rfl) rfl rfl (by kernel_rfl) rfl rfl (zA rfl) ?_
 simp only[seval,EMH]
 refine⟨rfl,?_⟩
 refine regA.one (j:=2) (by kernel_rfl) rfl (regW.of ?_)
 simp only[seval,EMH]
 refine regA.one (j:=3) (by kernel_rfl) rfl (regW.of ?_)
 simp only[seval,EMH]
 refine regA.pureB (j:=9) (d:=31) (by kernel_rfl) rfl rfl (by kernel_rfl) rfl rfl (zA rfl) ?_
 simp only[seval,EMH]
 refine⟨rfl,?_⟩
 refine regA.pureB (j:=10) (d:=11) (by kernel_rfl) rfl rfl (by kernel_rfl) rfl rfl (zA rfl) ?_
 simp only[seval,EMH]
 refine⟨rfl,?_⟩
 exact regA.nil (by kernel_rfl) ⟨by first | rfl | simp only[seval,FMH,aP,xMA,xLA],by first | rfl | simp only[seval,FMH,aP,xMA,xLA]⟩
 refine mU e (.seqK (.seqK (.bind λy4 hy9=>.region λe h=>WH ?_))) h
 refine .byH (bg hy9) (mH ?_ h)
 refine .cond rfl (λhb11=>?_) (λhb11=>?_)
 refine .sH ?_
 refine .ret QH
 refine .skip (Mir.toK (.sH ?_))
 refine .ret QH
def g7(a0:aa)(a2:Int)(a3:Int):Option (Int×Int):=bindO (cn 1 a2 a3) λ(y1:Int)=>if (y1 != 0)=true then some (0,y1)else bindO (eE a0) λ(y2:Bool)=>if (!y2)=true then some (0,11)else bindO (some ()) λ(v1:Unit)=>bindO (d6 1 a3) λ(y3:Int)=>bindO (pb_in (zK.wrap (a0.Y+(zK.wrap (a2*y3))))) λ(y4:Bool)=>if (!y4)=true then some (0,11)else some (zK.wrap (a0.Y+(zK.wrap (a2*y3))),0)
theorem pb_Wall_k1_spec{a0:aa}{a2:Int}{a3:Int}{y:Int×Int}(h:g7 a0 a2 a3=some y):Spec gP 37 [.agg (cH a0),.d (.int .i64 1),.d (.int .i64 a2),.d (.int .i64 a3)] (.tuple [.d (.int .i64 y.1),.d (.int .i64 y.2)]):=by
 refine auH Tryz.func37 (λy:Int×Int=>.tuple [.d (.int .i64 y.1),.d (.int .i64 y.2)]) ?_ h
 unfold g7
 refine .sH ?_
 refine .seqK (.seqK (.bind λy1 hy1=>.region λe h=>WH ?_))
 refine .byH (bL hy1) (mH ?_ h)
 refine .sH ?_
 refine .cond rfl (λhb3=>?_) (λhb3=>?_)
 refine .sH ?_
 refine .ret QH
 refine .skip (Mir.toK (.seqK (.seqK (.bind λy2 hy4=>.region λe h=>WH ?_))))
 refine .byH (dS hy4) (mH ?_ h)
 refine .cond rfl (λhb6=>?_) (λhb6=>?_)
 refine .sH ?_
 refine .ret QH
 refine .skip (Mir.toK (.seqK (.bind λv1 hv7=>.bind λy3 hy8=>Mir.regionA 0 [] ([.agg (cH a0),.d (.int .i64 1),.d (.int .i64 a2),.d (.int .i64 a3),.ptr 0 0,U,U,U,.d (.int .i64 0),.d (.int .i64 0),.d (.int .i64 y1),.d (.int .i64 (zK.wrap (a0.Y+(zK.wrap (a2*y3))))),.d (.int .i64 1),.d (.int .i64 a2),.d (.int .i64 a3),.d (.int .i64 y1),.d (.int .i64 y1),.d (.bool (y1 != 0)),U,.agg (cH a0),.d (.bool y2),.d (.bool (!y2)),.d (.int .i64 1),.ptr 0 1,.ptr 0 1,.d (.int .i64 a0.Y),.d (.int .i64 a2),.d (.int .i64 1),.d (.int .i64 a3),.d (.int .i64 y3),.d (.int .i64 (zK.wrap (a2*y3))),.d (.int .i64 (zK.wrap (a0.Y+(zK.wrap (a2*y3)))))]++us 4) ⟨[(cH a0)],[]⟩ (by kernel_rfl) (λe h=>?_) (λe h=>?_))))
 simp only[seval,EMH,SB]
 refine regA.pureB (j:=0) (d:=22) (by kernel_rfl) rfl rfl (by kernel_rfl) rfl rfl (zA rfl) ?_
 simp only[seval,EMH]
 refine⟨rfl,?_⟩
 refine regA.pureB (j:=4) (d:=26) (by kernel_rfl) rfl rfl (by kernel_rfl) rfl rfl (zA rfl) ?_
 simp only[seval,EMH]
 refine⟨rfl,?_⟩
 refine regA.pureB (j:=5) (d:=27) (by kernel_rfl) rfl rfl (by kernel_rfl) rfl rfl (zA rfl) ?_
 simp only[seval,EMH]
 refine⟨rfl,?_⟩
 refine regA.pureB (j:=6) (d:=28) (by kernel_rfl) rfl rfl (by kernel_rfl) rfl rfl (zA rfl) ?_
 simp only[seval,EMH]
 refine⟨rfl,?_⟩
 refine regA.one (j:=1) (by kernel_rfl) rfl (regW.of ?_)
 simp only[seval,EMH]
 refine SpecS.inl Tryz.func24 rfl (by kernel_rfl) (by kernel_rfl) (λv1:Unit=>.ptr 0 1) (λv1=>⟨[(cH a0)],[]⟩) hv7 rfl ?_ ?_
 simp only[zH,zI,nS,nA,Tryz.ntmps24,SV]
 refine .sH ?_
 refine .seqK (.regionD [] (by kernel_rfl) λe h=>?_)
 simp only[seval,EMH,SB,(oL 3)]
 refine mU e (.ret QH) h
 simp only[seval,EMH]
 refine regA.two (j:=2) (k:=7) (by kernel_rfl) rfl rfl ?_ ?_
 refine regW.of ?_
 simp only[seval,EMH]
 refine regA.two (j:=3) (k:=7) (by kernel_rfl) rfl rfl ?_ ?_
 refine regW.of ?_
 simp only[seval,EMH]
 refine regA.one (j:=7) (by kernel_rfl) rfl (regW.of ?_)
 simp only[seval,EMH]
 refine .byH (bW hy8) (WH ?_)
 refine regA.pureB (j:=8) (d:=30) (by kernel_rfl) rfl rfl (by kernel_rfl) rfl rfl (zA rfl) ?_
 simp only[seval,EMH]
 refine⟨rfl,?_⟩
 refine regA.pureB (j:=9) (d:=31) (by kernel_rfl) rfl rfl (by kernel_rfl) rfl rfl (zA rfl) ?_
 simp only[seval,EMH]
 refine⟨rfl,?_⟩
 refine regA.pureB (j:=10) (d:=11) (by kernel_rfl) rfl rfl (by kernel_rfl) rfl rfl (zA rfl) ?_
 simp only[seval,EMH]
 refine⟨rfl,?_⟩
 exact regA.nil (by kernel_rfl) ⟨by first | rfl | simp only[seval,FMH,aP,xMA,xLA],by first | rfl | simp only[seval,FMH,aP,xMA,xLA]⟩
 refine regW.of ?_
 simp only[seval,EMH]
 refine .byH (bW hy8) (WH ?_)
 refine regA.pureB (j:=8) (d:=30) (by kernel_rfl) rfl rfl (by kernel_rfl) rfl rfl (zA rfl) ?_
 simp only[seval,EMH]
 refine⟨rfl,?_⟩
 refine regA.one (j:=3) (by kernel_rfl) rfl (regW.of ?_)
 simp only[seval,EMH]
 refine regA.pureB (j:=9) (d:=31) (by kernel_rfl) rfl rfl (by kernel_rfl) rfl rfl (zA rfl) ?_
 simp only[seval,EMH]
 refine⟨rfl,?_⟩
 refine regA.pureB (j:=10) (d:=11) (by kernel_rfl) rfl rfl (by kernel_rfl) rfl rfl (zA rfl) ?_
 simp only[seval,EMH]
 refine⟨rfl,?_⟩
 exact regA.nil (by kernel_rfl) ⟨by first | rfl | simp only[seval,FMH,aP,xMA,xLA],by first | rfl | simp only[seval,FMH,aP,xMA,xLA]⟩
 refine regW.of ?_
 simp only[seval,EMH]
 refine .byH (bW hy8) (WH ?_)
 refine regA.pureB (j:=8) (d:=30) (by kernel_rfl) rfl rfl (by kernel_rfl) rfl rfl (zA rfl) ?_
 simp only[seval,EMH]
 refine⟨rfl,?_⟩
 refine regA.one (j:=2) (by kernel_rfl) rfl (regW.of ?_)
 simp only[seval,EMH]
 refine regA.one (j:=3) (by kernel_rfl) rfl (regW.of ?_)
 simp only[seval,EMH]
 refine regA.pureB (j:=9) (d:=31) (by kernel_rfl) rfl rfl (by kernel_rfl) rfl rfl (zA rfl) ?_
 simp only[seval,EMH]
 refine⟨rfl,?_⟩
 refine regA.pureB (j:=10) (d:=11) (by kernel_rfl) rfl rfl (by kernel_rfl) rfl rfl (zA rfl) ?_
 simp only[seval,EMH]
 refine⟨rfl,?_⟩
 exact regA.nil (by kernel_rfl) ⟨by first | rfl | simp only[seval,FMH,aP,xMA,xLA],by first | rfl | simp only[seval,FMH,aP,xMA,xLA]⟩
 refine mU e (.seqK (.seqK (.bind λy4 hy9=>.region λe h=>WH ?_))) h
 refine .byH (bg hy9) (mH ?_ h)
 refine .cond rfl (λhb11=>?_) (λhb11=>?_)
 refine .sH ?_
 refine .ret QH
 refine .skip (Mir.toK (.sH ?_))
 refine .ret QH
def ju(a0:aa)(a1:aa)(a2:Int)(a3:Int)(a4:Int):Option (be×Int):=bindO (bindO (cn 0 a2 a4) λ(y1:Int)=>if (y1 != 0)=true then some true else bindO (cn 1 a3 a4) λ(y2:Int)=>some (y2 != 0)) λ(v1:Bool)=>if v1=true then some (be.mk 0 0,1)else bindO (g8 a0 a2 a4) λ(y3:Int×Int)=>bindO (g7 a1 a3 a4) λ(y4:Int×Int)=>if ((y3.2 != 0)||(y4.2 != 0))=true then some (be.mk 0 0,11)else some (be.mk y3.1 y4.1,0)
theorem pb_Corner_spec{a0:aa}{a1:aa}{a2:Int}{a3:Int}{a4:Int}{y:be×Int}(h:ju a0 a1 a2 a3 a4=some y):Spec gP 8 [.agg (cH a0),.agg (cH a1),.d (.int .i64 a2),.d (.int .i64 a3),.d (.int .i64 a4)] (.tuple [.agg [.d (.int .i64 y.1.X),.d (.int .i64 y.1.Y)],.d (.int .i64 y.2)]):=by
 refine auH Tryz.func8 (λy:be×Int=>.tuple [.agg [.d (.int .i64 y.1.X),.d (.int .i64 y.1.Y)],.d (.int .i64 y.2)]) ?_ h
 unfold ju
 refine .sH ?_
 refine .seqK (.seqK (Mir.joinO (λv1:Bool=>([U,U,.d (.int .i64 a2),.d (.int .i64 a3),.d (.int .i64 a4),.ptr 0 0,.ptr 1 0,U,U,U,.ptr 2 0,U,U,U,U,U,U,U,U,U,U,U,U,U,U,.d (.bool v1)]++us 25)) (λv1=>⟨[(cH a0),(cH a1),[.d (.int .i64 0),.d (.int .i64 0)]],[]⟩) (λ_=>rfl) ?_ ?_))
 refine .bind λy1 hy1=>.ite (λhb2=>?_) (λhb2=>?_)
 refine .region λe h=>?_
 simp only[seval,EMH,hb2]
 refine SpecS.by (bL hy1) (by simp only[seval,FMH,hb2]) ?_
 simp only[seval,EMH,hb2]
 cases h
 simp only[seval,FMH,hb2]
 refine .bind λy2 hy3=>.region λe h=>?_
 simp only[seval,EMH,hb2]
 refine SpecS.by (bL hy1) (by simp only[seval,FMH,hb2]) ?_
 simp only[seval,EMH,hb2]
 refine SpecS.by (bL hy3) (by simp only[seval,FMH,hb2]) ?_
 simp only[seval,EMH,hb2]
 cases h
 simp only[seval,FMH,hb2]
 intro v1
 refine Mir.toK (.cond rfl (λhb5=>?_) (λhb5=>?_))
 refine .sH ?_
 refine .ret QH
 refine .skip (Mir.toK (.seqK (.bind λy3 hy6=>.region λe h=>WH ?_)))
 refine .byH (pb_Wall_k0_spec hy6) (mH ?_ h)
 refine .seqK (.bind λy4 hy7=>.region λe h=>WH ?_)
 refine .byH (pb_Wall_k1_spec hy7) (mH ?_ h)
 refine .seqK (.seqK (.joinV ([U,U,U,U,U,U,U,U,U,U,.ptr 2 0,U,.d (.int .i64 y3.1),U,.d (.int .i64 y4.1),U,U,U,U,U,U,U,U,U,U,U,U,U,U,U,U,U,U,U,U,U,U,U,U,U,U,U,U,U,U,U,.d (.bool ((y3.2 != 0)||(y4.2 != 0)))]++us 4) ⟨[(cH a0),(cH a1),[.d (.int .i64 0),.d (.int .i64 0)]],[]⟩ rfl ?_ ?_))
 refine SWs.region ?_
 rcases zD (y3.2 != 0)with hb8 | hb8
 simp only[seval,EMH,SL,PB,hb8]
 simp only[seval,EMH,SL,PB,hb8]
 refine Mir.toK (.cond rfl (λhb10=>?_) (λhb10=>?_))
 refine .sH ?_
 refine .ret QH
 refine .skip (Mir.toK (.sH ?_))
 refine .ret QH
def jt(a0:al)(a1:Int):Option (aa×Int):=if ((decide (a1<54000))||(((zJ a1 1000) != 0)||(decide ((zK.wrap (zF (zK.wrap (a1-54000)) 1000))≥6))))=true then some (aa.mk 0 0 0,4)else bindO (aB (decide (0≤(zK.wrap (zF (zK.wrap (a1-54000)) 1000))∧(zK.wrap (zF (zK.wrap (a1-54000)) 1000))<6)) ( if ((zK.wrap (zF (zK.wrap (a1-54000)) 1000))==0)=true then some a0.Work.e0 else if ((zK.wrap (zF (zK.wrap (a1-54000)) 1000))==1)=true then some a0.Work.e1 else if ((zK.wrap (zF (zK.wrap (a1-54000)) 1000))==2)=true then some a0.Work.e2 else if ((zK.wrap (zF (zK.wrap (a1-54000)) 1000))==3)=true then some a0.Work.e3 else if ((zK.wrap (zF (zK.wrap (a1-54000)) 1000))==4)=true then some a0.Work.e4 else some a0.Work.e5)) λ(v1:aa)=>some (v1,0)
theorem ky{a0:al}{a1:Int}{y:aa×Int}(h:jt a0 a1=some y):Spec gP 39 [.agg (w6 a0.Work [.d (.list (zE ag a0.Lengths))]),.d (.int .i64 a1)] (.tuple [.agg [.d (.int .i64 y.1.X),.d (.int .i64 y.1.Y),.d (.int .i64 y.1.Z)],.d (.int .i64 y.2)]):=by
 refine auH Tryz.func39 (λy:aa×Int=>.tuple [.agg [.d (.int .i64 y.1.X),.d (.int .i64 y.1.Y),.d (.int .i64 y.1.Z)],.d (.int .i64 y.2)]) ?_ h
 unfold jt
 refine .sH ?_
 refine .sH ?_
 refine .seqK (.seqK (.joinV ([U,U,.ptr 0 0,U,.ptr 1 0,U,.d (.int .i64 (zK.wrap (zF (zK.wrap (a1-54000)) 1000))),U,U,U,U,U,U,U,U,U,U,U,U,U,.d (.bool ((decide (a1<54000))||(((zJ a1 1000) != 0)||(decide ((zK.wrap (zF (zK.wrap (a1-54000)) 1000))≥6)))))]++us 5) ⟨[(w6 a0.Work [.d (.list (zE ag a0.Lengths))]),[.d (.int .i64 0),.d (.int .i64 0),.d (.int .i64 0)]],[]⟩ rfl ?_ ?_))
 refine SWs.region ?_
 rcases zD (decide (a1<54000))with hb1 | hb1
 simp only[seval,EMH,SL,PB,hb1]
 rcases zD ((zJ a1 1000) != 0)with hb2 | hb2
 simp only[seval,EMH,SL,PB,hb1,hb2]
 simp only[seval,EMH,SL,PB,hb1,hb2]
 refine Mir.toK (.cond rfl (λhb4=>?_) (λhb4=>?_))
 refine .sH ?_
 refine .ret QH
 refine .skip (Mir.toK (.seqK (Mir.joinO (λv1:aa=>([U,U,U,U,.ptr 1 0,.d (.int .i64 0)]++us 20)) (λv1=>⟨[(w6 a0.Work [.d (.list (zE ag a0.Lengths))]),(cH v1)],[]⟩) (λ_=>rfl) ?_ ?_)))
 refine .guard λqi5=>.ite (λhb6=>?_) (λhb6=>?_)
 refine .region λe h=>?_
 simp only[seval,EMH,(eq_of_beq hb6),hb6]
 cases h
 simp only[seval,FMH,hb6]
 refine .ite (λhb7=>?_) (λhb7=>?_)
 refine .region λe h=>?_
 simp only[seval,EMH,(eq_of_beq hb7),hb6,hb7]
 cases h
 simp only[seval,FMH,hb6,hb7]
 refine .ite (λhb8=>?_) (λhb8=>?_)
 refine .region λe h=>?_
 simp only[seval,EMH,(eq_of_beq hb8),hb6,hb7,hb8]
 cases h
 simp only[seval,FMH,hb6,hb7,hb8]
 refine .ite (λhb9=>?_) (λhb9=>?_)
 refine .region λe h=>?_
 simp only[seval,EMH,(eq_of_beq hb9),hb6,hb7,hb8,hb9]
 cases h
 simp only[seval,FMH,hb6,hb7,hb8,hb9]
 refine .ite (λhb10=>?_) (λhb10=>?_)
 refine .region λe h=>?_
 simp only[seval,EMH,(eq_of_beq hb10),hb6,hb7,hb8,hb9,hb10]
 cases h
 simp only[seval,FMH,hb6,hb7,hb8,hb9,hb10]
 have hz11:zK.wrap (zF (zK.wrap (a1-54000)) 1000)=5:=by have h0:=of_decide_eq_true qi5;have h1:=aE hb6;have h2:=aE hb7;have h3:=aE hb8;have h4:=aE hb9;have h5:=aE hb10;omega
 refine .region λe h=>?_
 simp only[seval,EMH,hz11,hb6,hb7,hb8,hb9,hb10]
 cases h
 simp only[seval,FMH,hb6,hb7,hb8,hb9,hb10]
 intro v1
 refine Mir.toK (.ret QH)
def ia(a0:al)(a1:Int)(a2:be)(a3:be):Option (al×Int):=bindO (br a0) λ(y1:Int)=>if (y1 != 0)=true then some (al.mk (aZ.mk (aa.mk 0 0 0) (aa.mk 0 0 0) (aa.mk 0 0 0) (aa.mk 0 0 0) (aa.mk 0 0 0) (aa.mk 0 0 0)) [],1)else bindO (bindO (pb_in a2.X) λ(y2:Bool)=>if y2=true then bindO (pb_in a2.Y) λ(y3:Bool)=>if y3=true then bindO (pb_in a3.X) λ(y4:Bool)=>if y4=true then bindO (pb_in a3.Y) λ(y5:Bool)=>some (!y5)else some true else some true else some true) λ(v1:Bool)=>if v1=true then some (al.mk (aZ.mk (aa.mk 0 0 0) (aa.mk 0 0 0) (aa.mk 0 0 0) (aa.mk 0 0 0) (aa.mk 0 0 0) (aa.mk 0 0 0)) [],11)else bindO (jt a0 a1) λ(y6:aa×Int)=>if (y6.2 != 0)=true then some (al.mk (aZ.mk (aa.mk 0 0 0) (aa.mk 0 0 0) (aa.mk 0 0 0) (aa.mk 0 0 0) (aa.mk 0 0 0) (aa.mk 0 0 0)) [],y6.2)else bindO (fJ a0 a1 (aa.mk (zK.wrap (y6.1.X+(zK.wrap (a3.X-a2.X)))) (zK.wrap (y6.1.Y+(zK.wrap (a3.Y-a2.Y)))) y6.1.Z)) λ(y7:al×Int)=>some (y7.1,y7.2)
theorem pb_Correct_spec{a0:al}{a1:Int}{a2:be}{a3:be}{y:al×Int}(h:ia a0 a1 a2 a3=some y):Spec gP 9 [.agg (w6 a0.Work [.d (.list (zE ag a0.Lengths))]),.d (.int .i64 a1),.agg (cN a2),.agg (cN a3)] (.tuple [.agg (w6 y.1.Work [.d (.list (zE ag y.1.Lengths))]),.d (.int .i64 y.2)]):=by
 refine auH Tryz.func9 (λy:al×Int=>.tuple [.agg (w6 y.1.Work [.d (.list (zE ag y.1.Lengths))]),.d (.int .i64 y.2)]) ?_ h
 unfold ia
 refine .sH ?_
 refine .seqK (.seqK (.bind λy1 hy1=>.region λe h=>WH ?_))
 refine .byH (ey hy1) (mH ?_ h)
 refine .cond rfl (λhb3=>?_) (λhb3=>?_)
 refine .sH ?_
 refine .ret QH
 refine .skip (Mir.toK (.seqK (.seqK (Mir.joinO (λv1:Bool=>([U,.d (.int .i64 a1),U,U,.ptr 0 0,U,.ptr 1 0,.ptr 2 0,.ptr 3 0,U,U,U,U,U,U,U,U,U,U,U,U,U,U,U,U,U,U,U,U,U,U,U,U,U,U,U,U,.d (.bool v1)]++us 35)) (λv1=>⟨[(w6 a0.Work [.d (.list (zE ag a0.Lengths))]),(cN a2),(cN a3),[.d (.int .i64 0),.d (.int .i64 0),.d (.int .i64 0),.d (.int .i64 0),.d (.int .i64 0),.d (.int .i64 0),.d (.int .i64 0),.d (.int .i64 0),.d (.int .i64 0),.d (.int .i64 0),.d (.int .i64 0),.d (.int .i64 0),.d (.int .i64 0),.d (.int .i64 0),.d (.int .i64 0),.d (.int .i64 0),.d (.int .i64 0),.d (.int .i64 0),.nil]],[]⟩) (λ_=>rfl) ?_ ?_))))
 refine .bind λy2 hy4=>.ite (λhb5=>?_) (λhb5=>?_)
 refine .bind λy3 hy6=>.ite (λhb7=>?_) (λhb7=>?_)
 refine .bind λy4 hy8=>.ite (λhb9=>?_) (λhb9=>?_)
 refine .bind λy5 hy10=>.region λe h=>?_
 simp only[seval,EMH,hb5,hb7,hb9]
 refine SpecS.by (bg hy4) (by simp only[seval,FMH,hb5,hb7,hb9]) ?_
 simp only[seval,EMH,hb5,hb7,hb9]
 refine SpecS.by (bg hy6) (by simp only[seval,FMH,hb5,hb7,hb9]) ?_
 simp only[seval,EMH,hb5,hb7,hb9]
 refine SpecS.by (bg hy8) (by simp only[seval,FMH,hb5,hb7,hb9]) ?_
 simp only[seval,EMH,hb5,hb7,hb9]
 refine SpecS.by (bg hy10) (by simp only[seval,FMH,hb5,hb7,hb9]) ?_
 simp only[seval,EMH,hb5,hb7,hb9]
 cases h
 simp only[seval,FMH,hb5,hb7,hb9]
 refine .region λe h=>?_
 simp only[seval,EMH,hb5,hb7,hb9]
 refine SpecS.by (bg hy4) (by simp only[seval,FMH,hb5,hb7,hb9]) ?_
 simp only[seval,EMH,hb5,hb7,hb9]
 refine SpecS.by (bg hy6) (by simp only[seval,FMH,hb5,hb7,hb9]) ?_
 simp only[seval,EMH,hb5,hb7,hb9]
 refine SpecS.by (bg hy8) (by simp only[seval,FMH,hb5,hb7,hb9]) ?_
 simp only[seval,EMH,hb5,hb7,hb9]
 cases h
 simp only[seval,FMH,hb5,hb7,hb9]
 refine .region λe h=>?_
 simp only[seval,EMH,hb5,hb7]
 refine SpecS.by (bg hy4) (by simp only[seval,FMH,hb5,hb7]) ?_
 simp only[seval,EMH,hb5,hb7]
 refine SpecS.by (bg hy6) (by simp only[seval,FMH,hb5,hb7]) ?_
 simp only[seval,EMH,hb5,hb7]
 cases h
 simp only[seval,FMH,hb5,hb7]
 refine .region λe h=>?_
 simp only[seval,EMH,hb5]
 refine SpecS.by (bg hy4) (by simp only[seval,FMH,hb5]) ?_
 simp only[seval,EMH,hb5]
 cases h
 simp only[seval,FMH,hb5]
 intro v1
 refine Mir.toK (.cond rfl (λhb12=>?_) (λhb12=>?_))
 refine .sH ?_
 refine .ret QH
 refine .skip (Mir.toK (.seqK (.bind λy6 hy13=>.region λe h=>WH ?_)))
 refine .byH (ky hy13) (mH ?_ h)
 refine .seqK (.sH ?_)
 refine .cond rfl (λhb15=>?_) (λhb15=>?_)
 refine .sH ?_
 refine .ret QH
 refine .skip (Mir.toK (.sH ?_))
 refine .sH ?_
 refine .seqK (.bind λy7 hy16=>.region λe h=>WH ?_)
 refine .byH (jl hy16) (mH ?_ h)
 refine .ret QH
def g9(a0:al)(a1:Int)(a2:Int):Option (al×Int):=bindO (br a0) λ(y1:Int)=>if (y1 != 0)=true then some (al.mk (aZ.mk (aa.mk 0 0 0) (aa.mk 0 0 0) (aa.mk 0 0 0) (aa.mk 0 0 0) (aa.mk 0 0 0) (aa.mk 0 0 0)) [],1)else bindO (pb_in a2) λ(y2:Bool)=>if (!y2)=true then some (al.mk (aZ.mk (aa.mk 0 0 0) (aa.mk 0 0 0) (aa.mk 0 0 0) (aa.mk 0 0 0) (aa.mk 0 0 0) (aa.mk 0 0 0)) [],11)else bindO (jt a0 a1) λ(y3:aa×Int)=>if (y3.2 != 0)=true then some (al.mk (aZ.mk (aa.mk 0 0 0) (aa.mk 0 0 0) (aa.mk 0 0 0) (aa.mk 0 0 0) (aa.mk 0 0 0) (aa.mk 0 0 0)) [],y3.2)else bindO (fJ a0 a1 (aa.mk y3.1.X y3.1.Y a2)) λ(y4:al×Int)=>some (y4.1,y4.2)
theorem pb_Surface_spec{a0:al}{a1:Int}{a2:Int}{y:al×Int}(h:g9 a0 a1 a2=some y):Spec gP 11 [.agg (w6 a0.Work [.d (.list (zE ag a0.Lengths))]),.d (.int .i64 a1),.d (.int .i64 a2)] (.tuple [.agg (w6 y.1.Work [.d (.list (zE ag y.1.Lengths))]),.d (.int .i64 y.2)]):=by
 refine auH Tryz.func11 (λy:al×Int=>.tuple [.agg (w6 y.1.Work [.d (.list (zE ag y.1.Lengths))]),.d (.int .i64 y.2)]) ?_ h
 unfold g9
 refine .sH ?_
 refine .seqK (.seqK (.bind λy1 hy1=>.region λe h=>WH ?_))
 refine .byH (ey hy1) (mH ?_ h)
 refine .cond rfl (λhb3=>?_) (λhb3=>?_)
 refine .sH ?_
 refine .ret QH
 refine .skip (Mir.toK (.seqK (.seqK (.bind λy2 hy4=>.region λe h=>WH ?_))))
 refine .byH (bg hy4) (mH ?_ h)
 refine .cond rfl (λhb6=>?_) (λhb6=>?_)
 refine .sH ?_
 refine .ret QH
 refine .skip (Mir.toK (.seqK (.bind λy3 hy7=>.region λe h=>WH ?_)))
 refine .byH (ky hy7) (mH ?_ h)
 refine .seqK (.sH ?_)
 refine .cond rfl (λhb9=>?_) (λhb9=>?_)
 refine .sH ?_
 refine .ret QH
 refine .skip (Mir.toK (.sH ?_))
 refine .seqK (.bind λy4 hy10=>.region λe h=>WH ?_)
 refine .byH (jl hy10) (mH ?_ h)
 refine .ret QH
def fO(a0:cY):Option al:=bindO (aB (okIdx a0.Lengths) ( aS (λ(i1:Nat) (e1:cu) (v1:(List aG))=>aB (okLen (v1.length+1)) ( some (.go (v1++[aG.mk e1.Number e1.Length])))) (λ(v1:(List aG))=>some v1) a0.Lengths 0 [])) λ(v2:(List aG))=>some (al.mk a0.Work v2)
theorem top_table51_spec{a0:cY}{y:al}(h:fO a0=some y):Spec gP 10 [.agg (w6 a0.Work [.d (.list (zE aL a0.Lengths))])] (.agg (w6 y.Work [.d (.list (zE ag y.Lengths))])):=by
 refine auH Tryz.func10 (λy:al=>.agg (w6 y.Work [.d (.list (zE ag y.Lengths))])) ?_ h
 unfold fO
 refine .sH ?_
 refine .sH ?_
 refine .seqK (.sH ?_)
 refine .gh [.cell 2 18 104] rfl (Mir.joinO (λv2:(List aG)=>([U,U,.ptr 1 0,.ptr 2 0]++us 24)) (λv2=>⟨[(w6 a0.Work [.d (.list (zE aL a0.Lengths))]),[.d (.int .i64 0),.d (.int .i64 0),.d (.int .i64 0),.d (.int .i64 0),.d (.int .i64 0),.d (.int .i64 0),.d (.int .i64 0),.d (.int .i64 0),.d (.int .i64 0),.d (.int .i64 0),.d (.int .i64 0),.d (.int .i64 0),.d (.int .i64 0),.d (.int .i64 0),.d (.int .i64 0),.d (.int .i64 0),.d (.int .i64 0),.d (.int .i64 0),.nil],(w6 a0.Work [.own 0 (zE ag v2)])],[(104,v2.length)]⟩) (λ_=>rfl) ?_ ?_)
 refine .block (.guard λqg65=>Mir.range (λ(i1:Nat) (v1:(List aG))=>([U,U,.ptr 1 0,.ptr 2 0,U,U,U,U,U,U,.d (.list (zE aL a0.Lengths)),.d (.int .i64 (a0.Lengths.length:Int)),.d (.int .i64 (i1:Int))]++us 15)) (λi1 v1=>⟨[(w6 a0.Work [.d (.list (zE aL a0.Lengths))]),[.d (.int .i64 0),.d (.int .i64 0),.d (.int .i64 0),.d (.int .i64 0),.d (.int .i64 0),.d (.int .i64 0),.d (.int .i64 0),.d (.int .i64 0),.d (.int .i64 0),.d (.int .i64 0),.d (.int .i64 0),.d (.int .i64 0),.d (.int .i64 0),.d (.int .i64 0),.d (.int .i64 0),.d (.int .i64 0),.d (.int .i64 0),.d (.int .i64 0),.nil],(w6 a0.Work [.own 0 (zE ag v1)])],[(104,v1.length)]⟩) qg65 (λ_ _=>rfl) (by simp only[seval,FMH,zNI]) (by simp only[seval,FMH,zNI]) ?_ ?_)
 intro i1 e1 v1 qr63
 refine .sR λe h=>?_
 simp only[seval,EMH,qr63]
 refine mU e (.seqK (.condT rfl (.skip (Mir.toK (.seqK (.block (.sR λe h=>?_))))))) h
 simp only[seval,EMH,qr63,zG]
 refine mU e (.guard λq67=>.region λe h=>?_) h
 simp only[seval,EMH,(oL 2),q67]
 refine mU e (.region λe h=>?_) h
 simp only[seval,EMH]
 cases h
 simp only[seval,FMH,qr63]
 intro v1 qd64
 refine .sR λe h=>?_
 simp only[seval,EMH,qd64]
 refine mU e (.seqK (.condF rfl (.exit QH))) h
 intro v2
 refine Mir.toK (.sH ?_)
 refine .ret QH
end Go.Proofs.YtgbafiejgciilaaGreatDoor
