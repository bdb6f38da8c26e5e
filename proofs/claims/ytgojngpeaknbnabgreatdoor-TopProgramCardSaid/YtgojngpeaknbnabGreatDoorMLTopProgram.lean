import Derived.Test.YtgojngpeaknbnabGreatDoorG1
import Derived.Test.YtgojngpeaknbnabGreatDoorTy
import Derived.Test.YtgojngpeaknbnabGreatDoorGog
import Derived.Test.YtgojngpeaknbnabGreatDoorMB
import Derived.Test.YtgojngpeaknbnabGreatDoorMH
import Derived.Test.YtgojngpeaknbnabGreatDoorMwe
open List renaming map → zA
open Nat renaming le_refl → zB
namespace Go.Proofs.YtgojngpeaknbnabGreatDoor
set_option linter.defProp false
open Go.RowKit
open Nat renaming reduceAdd → nA,reduceSub → nS,reduceMul → nM,reduceEqDiff → nE,reduceLeDiff → nL,reduceLT → nT,reduceBEq → nB
open Int renaming reduceLT → iT,reduceToNat → iN,reduceEq → iE
set_option linter.unusedVariables false
set_option linter.unusedSimpArgs false
set_option maxRecDepth 100000
set_option maxHeartbeats 8000000
def iP:=And.intro @Tryz.ntmps3<|And.intro @Tryz.results3<|And.intro @ag_26<|@sz_26
def aP:=And.intro @EMH<|@iP
def bu:=And.intro @FMH<|@iP
theorem QL{α:Type}{x:α}{p:α→Prop}(e:p x:=by simp only[seval,bu]):∀y,some x=some y→p y:=λ_ i=>Option.some.inj i▸e
theorem WL{p q:Prop}(h:q)(e:p=q:=by simp only[seval,aP];rfl):p:=Eq.mpr e h
theorem mL{P:Program}{g:Pg P}{fr:Fr}{s:Sg}{ε:Type}{Φ:ε→SQ}{m:Option ε}{c:Code}{e:ε}{p:Prop}(h:Mir g c fr s m Φ)(i:m=some e)(w:p=SWs g c (Φ e) fr s:=by simp only[seval,aP];rfl):p:=Eq.mpr w (h e i)
theorem Mir.sL{P:Program}{g g':Pg P}{fr fr':Fr}{s s':Sg}{ε:Type}{Φ:ε→SQ}{m:Option ε}{id:Nat}{ops:Array Oper}{k c:Code}(h:Mir g' c fr' s' m Φ)(e:∀e,regS g false ops ops.toList fr s (kQ g k Φ e .normal)=SWs g' c (Φ e) fr' s':=by intro e;simp only[seval,aP];rfl):Mir g (.seq (.region id ops false) k) fr s m Φ:=Mir.sR λy i=>Eq.mpr (e y) (h y i)
theorem SpecS.byL{P:Program}{g:Pg P}{f:FuncId}{args:List V}{s:Sg}{R:V→Sg→Prop}{r:V}{args':List V}(h:Spec g f args' r)(hR:R r s)(ha:args.map V.clean=args':=by simp only[seval,bu]):SpecS g f args s R:=SpecS.by h ha hR
theorem auL{P:Program}{g:Pg P}{f:FuncId}{fn:Func}{c:Code}(hf:P.funcs[f]? = some fn){args:List V}{ρ:Type}(en:ρ→V){m:Option ρ}{fr:Fr}(h:Mir g c fr ⟨[],[]⟩ m (fnQ g fn.results.toList en)){y:ρ}(hy:m=some y)(hb:fn.body=some c:=by rfl)(he:bk P f=true:=by kernel_rfl)(hd:bP c=true:=by kernel_rfl)(e:args++List.replicate (fn.ntmps-args.length) .undef=fr:=by simp only[List.replicate,List.length,nS,nA,SV,iP];rfl):Spec g f args (en y):=fA hf hb he hd en (e▸h) hy
def dy(a0:bA)(a1:Int):Option Bool:=bindO (bindO (fS ) λ(y1:Bool)=>if y1=true then bindO (jg a0) λ(y2:Bool)=>some (!y2)else some true) λ(v1:Bool)=>if v1=true then bindO (fS ) λ(y3:Bool)=>some y3 else bindO (ef a1) λ(y4:br)=>bindO (gM a0.Stages a0.Start y4) λ(y5:(List UInt8)×Int)=>if (y5.2 != 0)=true then some (y5.1==[])else bindO (eg a0.Offset) λ(y6:av)=>bindO (bW y6 55000 0 a0.Start) λ(y7:ae×Int)=>if (y7.2 != 0)=true then some false else bindO (inp_Run y5.1 y6 y7.1) λ(y8:(List ag)×aH×Int)=>if ((y8.2.2 != 0)||(!((y8.2.1.Block==(-1))&&(y8.2.1.Code==0))))=true then some false else bindX (ax (okIdx a0.Stages) ( aB (λ(i1:Nat) (e1:aR) (v2:(List ag)×ae)=>bindX (bindO (fW y6 55000 e1.Tool v2.2) λ(y9:ae×Int)=>bindO (fM y9.1 e1.Moves e1.Tool) λ(y10:(List ag)×Int)=>if ((y9.2 != 0)||(y10.2 != 0))=true then some (.ret (.ret (.ret false)))else ax (okIdx y10.1) ( aB (λ(i2:Nat) (e2:ag) (v3:(List ag)×ae)=>bindO (bW y6 55000 e1.Tool e2.To) λ(y11:ae×Int)=>if (y11.2 != 0)=true then some (.ret (.ret (.ret (.ret false))))else ax (okLen (v3.1.length+1)) ( some (.go (v3.1++[ag.mk v3.2 y11.1 e2.Rate e1.Tool 0],y11.1)))) (λ(v3:(List ag)×ae)=>some (.go (v3.1,v3.2))) y10.1 0 (v2.1,v2.2))) λ(v4:(List ag)×ae)=>some (.go (v4.1,v4.2))) (λ(v2:(List ag)×ae)=>some (.go (v2.1,v2.2))) a0.Stages 0 ([],y7.1))) λ(v5:(List ag)×ae)=>bindO (fR y8.1) λ(y12:(List ag))=>bindO (bd y12 v5.1) λ(y13:Bool)=>some y13
theorem kw{a0:bA}{a1:Int}{y:Bool}(h:dy a0 a1=some y):Spec gP 3 [.agg (cD a0),.d (.int .u8 a1)] (.d (.bool y)):=by
 refine auL Tryz.func3 (λy:Bool=>.d (.bool y)) ?_ h
 unfold dy
 refine .sL ?_
 refine .seqK (.seqK (Mir.joinO (λv1:Bool=>([U,.d (.int .u8 a1),.ptr 0 0,U,U,U,U,U,U,U,U,U,U,U,U,U,U,U,U,U,U,U,U,U,U,U,U,U,U,.d (.bool v1)]++us 107)) (λv1=>⟨[(cD a0)],[]⟩) (λ_=>rfl) ?_ ?_))
 refine .bind λy1 hy1=>.ite (λhb2=>?_) (λhb2=>?_)
 refine .bind λy2 hy3=>.region λe h=>?_
 simp only[seval,aP,hb2]
 refine SpecS.by (fh hy1) (rfl) ?_
 simp only[seval,aP,hb2]
 refine SpecS.by (top_few53_spec hy3) (by simp only[seval,bu,hb2]) ?_
 simp only[seval,aP,hb2]
 cases h
 simp only[seval,bu,hb2]
 refine .region λe h=>?_
 simp only[seval,aP,hb2]
 refine SpecS.by (fh hy1) (rfl) ?_
 simp only[seval,aP,hb2]
 cases h
 simp only[seval,bu,hb2]
 intro v1
 refine Mir.toK (.cond rfl (λhb6=>?_) (λhb6=>?_))
 refine .seqK (.bind λy3 hy7=>.region λe h=>WL ?_)
 refine SpecS.by (fh hy7) (rfl) ?_
 simp only[seval,aP]
 refine mU e (.ret QL) h
 refine .skip (Mir.toK (.seqK (.bind λy4 hy8=>.bind λy5 hy9=>.regionD [] (by kernel_rfl) λe h=>?_)))
 simp only[seval,aP,SB]
 refine Spec.by (top_options53_spec hy8) (by simp only[seval,bu]) ?_
 simp only[seval,aP,SB]
 refine Spec.by (po_Emit_spec hy9) (by simp only[seval,bu]) ?_
 simp only[seval,aP,SB]
 refine mU e (.seqK (.sL ?_)) h
 refine .cond rfl (λhb11=>?_) (λhb11=>?_)
 refine .sL ?_
 refine .ret QL
 refine .skip (Mir.toK (.seqK (.bind λy6 hy12=>.region λe h=>WL ?_)))
 refine .byL (gC hy12) (mL ?_ h)
 refine .seqK (.bind λy7 hy13=>.region λe h=>WL ?_)
 refine .byL (fX hy13) (mL ?_ h)
 refine .seqK (.sL ?_)
 refine .cond rfl (λhb15=>?_) (λhb15=>?_)
 refine .sL ?_
 refine .ret QL
 refine .skip (Mir.toK (.seqK (.bind λy8 hy16=>.region λe h=>WL ?_)))
 refine .byL (inp_Run_spec hy16) (mL ?_ h)
 refine .seqK (.seqK (.joinV ([U,U,.ptr 0 0,U,U,U,U,.ptr 1 0,.ptr 2 0,.d (.list (zA au y8.1)),U,U,U,U,U,U,U,U,U,U,U,U,U,U,U,U,U,U,U,U,U,U,U,U,U,U,U,U,U,U,U,U,U,U,U,U,U,U,U,U,U,U,U,U,U,U,U,U,U,U,U,U,U,U,U,U,U,U,U,U,U,.d (.bool ((y8.2.2 != 0)||(!((y8.2.1.Block==(-1))&&(y8.2.1.Code==0)))))]++us 65) ⟨[(cD a0),(w6 y6.Work [.d (.list (zA aq y6.Lengths))]),(cF y7.1),(cM y8.2.1)],[]⟩ rfl ?_ ?_))
 refine SWs.region ?_
 rcases Bool.eq_false_or_eq_true (y8.2.2 != 0)with hb17 | hb17
 simp only[seval,aP,SL,PB,hb17]
 simp only[seval,aP,SL,PB,gE_44,hb17]
 refine Mir.toK (.cond rfl (λhb19=>?_) (λhb19=>?_))
 refine .sL ?_
 refine .ret QL
 refine .skip (Mir.toK (.sL ?_))
 refine .sL ?_
 refine .seqK (.sL ?_)
 refine .gh [.slot 11 53] rfl (Mir.join (λv5:(List ag)×ae=>([U,U,U,U,U,U,U,U,U,.d (.list (zA au y8.1)),U,.own 0 (zA au v5.1)]++us 125)) (λv5=>⟨[(cD a0),(w6 y6.Work [.d (.list (zA aq y6.Lengths))]),(cF y7.1),(cM y8.2.1),(cF v5.2)],[(53,v5.1.length)]⟩) (λ_=>rfl) ?_ ?_)
 refine .block (.guard λq1=>Mir.range (λ(i1:Nat) (v2:(List ag)×ae)=>([U,U,U,U,U,U,U,.ptr 1 0,U,.d (.list (zA au y8.1)),U,.own 0 (zA au v2.1),.ptr 4 0,U,U,U,U,U,U,U,U,U,U,U,U,U,U,U,U,U,U,U,U,U,U,U,U,U,U,U,U,U,U,U,U,U,U,U,U,U,U,U,U,U,U,U,U,U,U,U,U,U,U,U,U,U,U,U,U,U,U,U,U,U,.d (.list (zA aY a0.Stages)),.d (.int .i64 (a0.Stages.length:Int)),.d (.int .i64 (i1:Int))]++us 60)) (λi1 v2=>⟨[(cD a0),(w6 y6.Work [.d (.list (zA aq y6.Lengths))]),(cF y7.1),(cM y8.2.1),(cF v2.2)],[(53,v2.1.length)]⟩) q1 (λ_ _=>rfl) (by simp only[seval,bu,zNI]) (by simp only[seval,bu,zNI]) ?_ ?_)
 intro i1 e1 v2 q2
 refine .sR λe h=>?_
 simp only[seval,aP,q2]
 refine mU e (.seqK (.condT rfl (.skip (Mir.toK (.seqK (Mir.join (λv4:(List ag)×ae=>([U,U,U,U,U,U,U,.ptr 1 0,U,.d (.list (zA au y8.1)),U,.own 0 (zA au v4.1),.ptr 4 0,U,U,U,U,U,U,U,U,U,U,U,U,U,U,U,U,U,U,U,U,U,U,U,U,U,U,U,U,U,U,U,U,U,U,U,U,U,U,U,U,U,U,U,U,U,U,U,U,U,U,U,U,U,U,U,U,U,U,U,U,U,.d (.list (zA aY a0.Stages)),.d (.int .i64 (a0.Stages.length:Int)),.d (.int .i64 (i1:Int))]++us 60)) (λv4=>⟨[(cD a0),(w6 y6.Work [.d (.list (zA aq y6.Lengths))]),(cF y7.1),(cM y8.2.1),(cF v4.2)],[(53,v4.1.length)]⟩) (λ_=>rfl) ?_ ?_)))))) h
 refine .block (.sR λe h=>?_)
 simp only[seval,aP,q2,Int.toNat_natCast]
 refine mU e (.seqK (.bind λy9 h1=>.region λe h=>WL ?_)) h
 refine .byL (tb_Work_spec h1) (mL ?_ h)
 refine .seqK (.bind λy10 h2=>.region λe h=>WL ?_)
 refine .byL (ip_Motions_spec h2) (mL ?_ h)
 refine .seqK (.seqK (.joinV ([U,U,U,U,U,U,U,.ptr 1 0,U,.d (.list (zA au y8.1)),U,.own 0 (zA au v2.1),.ptr 4 0,U,.ptr 5 0,U,U,.d (.list (zA au y10.1)),U,U,U,U,U,U,U,U,U,U,U,U,U,U,U,U,U,U,U,U,U,U,U,U,U,U,U,U,U,U,U,U,U,U,U,U,U,U,U,U,U,U,U,U,U,U,U,U,U,U,U,U,U,U,U,U,.d (.list (zA aY a0.Stages)),.d (.int .i64 (a0.Stages.length:Int)),.d (.int .i64 (i1:Int)),U,U,U,U,U,U,U,U,U,U,U,U,U,U,U,U,U,U,U,U,U,U,U,U,U,.d (.bool ((y9.2 != 0)||(y10.2 != 0)))]++us 34) ⟨[(cD a0),(w6 y6.Work [.d (.list (zA aq y6.Lengths))]),(cF y7.1),(cM y8.2.1),(cF v2.2),(cH e1),(cF y9.1)],[(53,v2.1.length)]⟩ rfl ?_ ?_))
 refine SWs.region ?_
 rcases Bool.eq_false_or_eq_true (y9.2 != 0)with h3 | h3
 simp only[seval,aP,SL,PB,h3]
 simp only[seval,aP,SL,PB,h3]
 refine Mir.toK (.cond rfl (λh4=>?_) (λh4=>?_))
 refine .sL ?_
 refine .ret QL
 refine .skip (Mir.toK (.sL ?_))
 refine .block (.guard λq3=>Mir.range (λ(i2:Nat) (v3:(List ag)×ae)=>([U,U,U,U,U,U,U,.ptr 1 0,U,.d (.list (zA au y8.1)),U,.own 0 (zA au v3.1),.ptr 4 0,U,.ptr 5 0,U,U,U,U,U,U,U,U,U,U,U,U,U,U,U,U,U,U,U,U,U,U,U,U,U,U,U,U,U,U,U,U,U,U,U,U,U,U,U,U,U,U,U,U,U,U,U,U,U,U,U,U,U,U,U,U,U,U,U,.d (.list (zA aY a0.Stages)),.d (.int .i64 (a0.Stages.length:Int)),.d (.int .i64 (i1:Int)),U,U,U,U,U,U,U,U,U,U,U,U,U,U,U,U,U,U,U,U,U,U,U,U,U,U,.d (.list (zA au y10.1)),.d (.int .i64 (y10.1.length:Int)),.d (.int .i64 (i2:Int))]++us 31)) (λi2 v3=>⟨[(cD a0),(w6 y6.Work [.d (.list (zA aq y6.Lengths))]),(cF y7.1),(cM y8.2.1),(cF v3.2),(cH e1),(cF y9.1)],[(53,v3.1.length)]⟩) q3 (λ_ _=>rfl) (by simp only[seval,bu,zNI]) (by simp only[seval,bu,zNI]) ?_ ?_)
 intro i2 e2 v3 q4
 refine .sR λe h=>?_
 simp only[seval,aP,q4]
 refine mU e (.seqK (.condT rfl (.skip (Mir.toK (.seqK (.block (.sR λe h=>?_))))))) h
 simp only[seval,aP,q4,Int.toNat_natCast]
 refine mU e (.seqK (.bind λy11 h5=>.region λe h=>WL ?_)) h
 refine .byL (fX h5) (mL ?_ h)
 refine .seqK (.sL ?_)
 refine .cond rfl (λh6=>?_) (λh6=>?_)
 refine .sL ?_
 refine .ret QL
 refine .skip (Mir.toK (.seqK (.guard λq5=>.region λe h=>?_)))
 simp only[seval,aP,(oL 9),q5]
 refine mU e (.region λe h=>WL ?_) h
 refine mU e (.region λe h=>?_) h
 simp only[seval,aP]
 cases h
 simp only[seval,bu,q4]
 intro v3 q6
 refine .sR λe h=>?_
 simp only[seval,aP,q6]
 refine mU e (.seqK (.condF rfl (.exit QL))) h
 intro v4
 refine Mir.toK (.region λe h=>?_)
 simp only[seval,aP]
 cases h
 simp only[seval,bu,q2]
 intro v2 q7
 refine .sR λe h=>?_
 simp only[seval,aP,q7]
 refine mU e (.seqK (.condF rfl (.exit QL))) h
 intro v5
 refine Mir.toK (.seqK (.bind λy12 h7=>.bind λy13 h8=>.region λe h=>WL ?_))
 refine .byL (top_plain53_spec h7) (WL ?_)
 refine .byL (cW h8) (mL ?_ h)
 refine .ret QL
theorem co_3:Tryz.prog.cellsOf 3=1:=by kernel_rfl
theorem opn_3:Opn Tryz.prog 3 (eInt .i64) (inInt .i64):=Opn.int Tryz.underlying3
theorem co_2:Tryz.prog.cellsOf 2=1:=by kernel_rfl
theorem opn_2:Opn Tryz.prog 2 (eInt .i64) (inInt .i64):=Opn.int Tryz.underlying2
def inApiPos(x:ae):Prop:=(inInt .i64) x.X∧(inInt .i64) x.Y∧(inInt .i64) x.Z
theorem co_24:Tryz.prog.cellsOf 24=3:=by kernel_rfl
theorem opn_24:Opn Tryz.prog 24 bg inApiPos:=by
 intro w H enc fuel cs x h
 obtain⟨xs,n,_,_,hl,hxl,hf⟩:=DataW.trod_struct Tryz.underlying24 h
 have hxl':xs.length=3:=hxl
 obtain⟨s0,r0,o0⟩:=Opn.field hf 0 2 0 1 rfl co_2 (by omega) opn_2
 obtain⟨s1,r1,o1⟩:=Opn.field hf 1 2 1 1 rfl co_2 (by omega) opn_2
 obtain⟨s2,r2,o2⟩:=Opn.field hf 2 2 2 1 rfl co_2 (by omega) opn_2
 refine⟨⟨s0,s1,s2⟩,?_,o0,o1,o2⟩
 exact (RelC.cut 0 1 r0 rfl (RelC.cut 1 1 r1 rfl (RelC.cut 2 1 r2 rfl (RelC.nil (n:=3) (by rw[hl,co_24];exact zB _)))))
def inApiGrid2(x:bx):Prop:=(inInt .i64) x.X∧(inInt .i64) x.Y
theorem co_58:Tryz.prog.cellsOf 58=2:=by kernel_rfl
theorem opn_58:Opn Tryz.prog 58 encApiGrid2 inApiGrid2:=by
 intro w H enc fuel cs x h
 obtain⟨xs,n,_,_,hl,hxl,hf⟩:=DataW.trod_struct Tryz.underlying58 h
 have hxl':xs.length=2:=hxl
 obtain⟨s0,r0,o0⟩:=Opn.field hf 0 2 0 1 rfl co_2 (by omega) opn_2
 obtain⟨s1,r1,o1⟩:=Opn.field hf 1 2 1 1 rfl co_2 (by omega) opn_2
 refine⟨⟨s0,s1⟩,?_,o0,o1⟩
 exact (RelC.cut 0 1 r0 rfl (RelC.cut 1 1 r1 rfl (RelC.nil (n:=2) (by rw[hl,co_58];exact zB _))))
def inApiMove(x:aw):Prop:=(inInt .i64) x.Kind∧inApiPos x.To∧inApiGrid2 x.Center∧(inInt .i64) x.Rate
theorem co_60:Tryz.prog.cellsOf 60=7:=by kernel_rfl
theorem opn_60:Opn Tryz.prog 60 bh inApiMove:=by
 intro w H enc fuel cs x h
 obtain⟨xs,n,_,_,hl,hxl,hf⟩:=DataW.trod_struct Tryz.underlying60 h
 have hxl':xs.length=4:=hxl
 obtain⟨s0,r0,o0⟩:=Opn.field hf 0 3 0 1 rfl co_3 (by omega) opn_3
 obtain⟨s1,r1,o1⟩:=Opn.field hf 1 24 1 3 rfl co_24 (by omega) opn_24
 obtain⟨s2,r2,o2⟩:=Opn.field hf 2 58 4 2 rfl co_58 (by omega) opn_58
 obtain⟨s3,r3,o3⟩:=Opn.field hf 3 2 6 1 rfl co_2 (by omega) opn_2
 refine⟨⟨s0,s1,s2,s3⟩,?_,o0,o1,o2,o3⟩
 exact (RelC.cut 0 1 r0 rfl (RelC.cut 1 3 r1 rfl (RelC.cut 4 2 r2 rfl (RelC.cut 6 1 r3 rfl (RelC.nil (n:=7) (by rw[hl,co_60];exact zB _))))))
theorem co_47:Tryz.prog.cellsOf 47=1:=by kernel_rfl
theorem opn_47:Opn Tryz.prog 47 (eList bh) (inList inApiMove):=Opn.slice Tryz.underlying47 opn_60 (λ_=>(rfl:_=7).trans co_60.symm) (by rw[co_60];decide)
def inApiStage(x:aR):Prop:=(inInt .i64) x.Tool∧(inList inApiMove) x.Moves
theorem co_49:Tryz.prog.cellsOf 49=2:=by kernel_rfl
theorem opn_49:Opn Tryz.prog 49 aY inApiStage:=by
 intro w H enc fuel cs x h
 obtain⟨xs,n,_,_,hl,hxl,hf⟩:=DataW.trod_struct Tryz.underlying49 h
 have hxl':xs.length=2:=hxl
 obtain⟨s0,r0,o0⟩:=Opn.field hf 0 3 0 1 rfl co_3 (by omega) opn_3
 obtain⟨s1,r1,o1⟩:=Opn.field hf 1 47 1 1 rfl co_47 (by omega) opn_47
 refine⟨⟨s0,s1⟩,?_,o0,o1⟩
 exact (RelC.cut 0 1 r0 rfl (RelC.cut 1 1 r1 rfl (RelC.nil (n:=2) (by rw[hl,co_49];exact zB _))))
theorem co_22:Tryz.prog.cellsOf 22=1:=by kernel_rfl
theorem opn_22:Opn Tryz.prog 22 (eList aY) (inList inApiStage):=Opn.slice Tryz.underlying22 opn_49 (λ_=>(rfl:_=2).trans co_49.symm) (by rw[co_49];decide)
def gk(x:bA):Prop:=(inList inApiStage) x.Stages∧inApiPos x.Start∧inApiPos x.Offset
theorem co_26:Tryz.prog.cellsOf 26=7:=by kernel_rfl
theorem opn_26:Opn Tryz.prog 26 iW gk:=by
 intro w H enc fuel cs x h
 obtain⟨xs,n,_,_,hl,hxl,hf⟩:=DataW.trod_struct Tryz.underlying26 h
 have hxl':xs.length=3:=hxl
 obtain⟨s0,r0,o0⟩:=Opn.field hf 0 22 0 1 rfl co_22 (by omega) opn_22
 obtain⟨s1,r1,o1⟩:=Opn.field hf 1 24 1 3 rfl co_24 (by omega) opn_24
 obtain⟨s2,r2,o2⟩:=Opn.field hf 2 24 4 3 rfl co_24 (by omega) opn_24
 refine⟨⟨s0,s1,s2⟩,?_,o0,o1,o2⟩
 exact (RelC.cut 0 1 r0 rfl (RelC.cut 1 3 r1 rfl (RelC.cut 4 3 r2 rfl (RelC.nil (n:=7) (by rw[hl,co_26];exact zB _)))))
theorem opn_5:Opn Tryz.prog 5 (eInt .u8) (inInt .u8):=Opn.int Tryz.underlying5
end Go.Proofs.YtgojngpeaknbnabGreatDoor
