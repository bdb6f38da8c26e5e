import Derived.Test.YtgojngpeaknbnaaGreatDoorG1
import Derived.Test.YtgojngpeaknbnaaGreatDoorTy
import Derived.Test.YtgojngpeaknbnaaGreatDoorGog
import Derived.Test.YtgojngpeaknbnaaGreatDoorMB
import Derived.Test.YtgojngpeaknbnaaGreatDoorMH
import Derived.Test.YtgojngpeaknbnaaGreatDoorMwe
open And renaming intro → zA
open Nat renaming le_refl → zB
open Go.IntKind renaming i64 → zD
namespace Go.Proofs.YtgojngpeaknbnaaGreatDoor
set_option linter.defProp false
open Go.RowKit
open Nat renaming reduceAdd → nA,reduceSub → nS,reduceMul → nM,reduceEqDiff → nE,reduceLeDiff → nL,reduceLT → nT,reduceBEq → nB
open Int renaming reduceLT → iT,reduceToNat → iN,reduceEq → iE
set_option linter.unusedVariables false
set_option linter.unusedSimpArgs false
set_option maxRecDepth 100000
set_option maxHeartbeats 8000000
def iH:=zA @Tryz.ntmps3<|zA @Tryz.results3<|zA @ag_26<|zA @ag_29<|zA @fld_42_1<|zA @sz_26<|@sz_29
def aS:=zA @EMH<|@iH
def bg:=zA @FMH<|@iH
theorem QL{α:Type}{x:α}{p:α→Prop}(e:p x:=by simp only[seval,bg]):∀y,some x=some y→p y:=λ_ i=>Option.some.inj i▸e
theorem WL{p q:Prop}(h:q)(e:p=q:=by simp only[seval,aS];rfl):p:=Eq.mpr e h
theorem mL{P:Program}{g:Pg P}{fr:Fr}{s:Sg}{ε:Type}{Φ:ε→SQ}{m:Option ε}{c:Code}{e:ε}{p:Prop}(h:Mir g c fr s m Φ)(i:m=some e)(w:p=SWs g c (Φ e) fr s:=by simp only[seval,aS];rfl):p:=Eq.mpr w (h e i)
theorem Mir.sL{P:Program}{g g':Pg P}{fr fr':Fr}{s s':Sg}{ε:Type}{Φ:ε→SQ}{m:Option ε}{id:Nat}{ops:Array Oper}{k c:Code}(h:Mir g' c fr' s' m Φ)(e:∀e,regS g false ops ops.toList fr s (kQ g k Φ e .normal)=SWs g' c (Φ e) fr' s':=by intro e;simp only[seval,aS];rfl):Mir g (.seq (.region id ops false) k) fr s m Φ:=Mir.sR λy i=>Eq.mpr (e y) (h y i)
theorem SpecS.byL{P:Program}{g:Pg P}{f:FuncId}{args:List V}{s:Sg}{R:V→Sg→Prop}{r:V}{args':List V}(h:Spec g f args' r)(hR:R r s)(ha:args.map V.clean=args':=by simp only[seval,bg]):SpecS g f args s R:=SpecS.by h ha hR
theorem auL{P:Program}{g:Pg P}{f:FuncId}{fn:Func}{c:Code}(hf:P.funcs[f]? = some fn){args:List V}{ρ:Type}(en:ρ→V){m:Option ρ}{fr:Fr}(h:Mir g c fr ⟨[],[]⟩ m (fnQ g fn.results.toList en)){y:ρ}(hy:m=some y)(hb:fn.body=some c:=by rfl)(he:bl P f=true:=by kernel_rfl)(hd:bN c=true:=by kernel_rfl)(e:args++List.replicate (fn.ntmps-args.length) .undef=fr:=by simp only[List.replicate,List.length,nS,nA,SV,iH];rfl):Spec g f args (en y):=fA hf hb he hd en (e▸h) hy
def dz(a0:bz)(a1:Int)(a2:Int):Option Bool:=bindO (bindO (fR ) λ(y1:Bool)=>if y1=true then bindO (iZ a0) λ(y2:Bool)=>some (!y2)else some true) λ(v1:Bool)=>if v1=true then bindO (fR ) λ(y3:Bool)=>some y3 else bindO (da a1) λ(y4:bo)=>bindO (fY a0.Stages a0.Start y4) λ(y5:(List UInt8)×Int)=>bindO (da a2) λ(y6:bo)=>bindO (fY a0.Stages a0.Start y6) λ(y7:(List UInt8)×Int)=>if ((y5.2 != 0)||(y7.2 != 0))=true then some (y5.2==y7.2)else bindO (ee a0.Offset) λ(y8:aw)=>bindO (ky y5.1 y8 (ae.mk (zD.wrap (a0.Start.X+a0.Offset.X)) (zD.wrap (a0.Start.Y+a0.Offset.Y)) (zD.wrap (a0.Start.Z+a0.Offset.Z)))) λ(y9:(List am)×aH×Int)=>bindO (ky y7.1 y8 (ae.mk (zD.wrap (a0.Start.X+a0.Offset.X)) (zD.wrap (a0.Start.Y+a0.Offset.Y)) (zD.wrap (a0.Start.Z+a0.Offset.Z)))) λ(y10:(List am)×aH×Int)=>bindO (if (y9.2.2==0)=true then if (y10.2.2==0)=true then if (y9.2.1.Code==y10.2.1.Code)=true then bindO (eK y9.1) λ(y11:(List am))=>bindO (eK y10.1) λ(y12:(List am))=>bindO (be y11 y12) λ(y13:Bool)=>some y13 else some false else some false else some false) λ(v2:Bool)=>some v2
theorem km{a0:bz}{a1:Int}{a2:Int}{y:Bool}(h:dz a0 a1 a2=some y):Spec gP 3 [.agg (cD a0),.d (.int .u8 a1),.d (.int .u8 a2)] (.d (.bool y)):=by
 refine auL Tryz.func3 (λy:Bool=>.d (.bool y)) ?_ h
 unfold dz
 refine .sL ?_
 refine .seqK (.seqK (Mir.joinO (λv1:Bool=>([U,.d (.int .u8 a1),.d (.int .u8 a2),.ptr 0 0,U,U,U,U,U,U,U,U,U,U,U,U,U,U,U,U,U,U,U,.d (.bool v1)]++us 91)) (λv1=>⟨[(cD a0)],[]⟩) (λ_=>rfl) ?_ ?_))
 refine .bind λy1 hy1=>.ite (λhb2=>?_) (λhb2=>?_)
 refine .bind λy2 hy3=>.region λe h=>?_
 simp only[seval,aS,hb2]
 refine SpecS.by (fi hy1) (rfl) ?_
 simp only[seval,aS,hb2]
 refine SpecS.by (top_few53_spec hy3) (by simp only[seval,bg,hb2]) ?_
 simp only[seval,aS,hb2]
 cases h
 simp only[seval,bg,hb2]
 refine .region λe h=>?_
 simp only[seval,aS,hb2]
 refine SpecS.by (fi hy1) (rfl) ?_
 simp only[seval,aS,hb2]
 cases h
 simp only[seval,bg,hb2]
 intro v1
 refine Mir.toK (.cond rfl (λhb6=>?_) (λhb6=>?_))
 refine .seqK (.bind λy3 hy7=>.region λe h=>WL ?_)
 refine SpecS.by (fi hy7) (rfl) ?_
 simp only[seval,aS]
 refine mU e (.ret QL) h
 refine .skip (Mir.toK (.seqK (.bind λy4 hy8=>.bind λy5 hy9=>.regionD [] (by kernel_rfl) λe h=>?_)))
 simp only[seval,aS,SB]
 refine Spec.by (gy hy8) (by simp only[seval,bg]) ?_
 simp only[seval,aS,SB]
 refine Spec.by (jj hy9) (by simp only[seval,bg]) ?_
 simp only[seval,aS,SB]
 refine mU e (.seqK (.bind λy6 hy10=>.bind λy7 hy11=>.regionD [] (by kernel_rfl) λe h=>?_)) h
 simp only[seval,aS,SB]
 refine Spec.by (gy hy10) (by simp only[seval,bg]) ?_
 simp only[seval,aS,SB]
 refine Spec.by (jj hy11) (by simp only[seval,bg]) ?_
 simp only[seval,aS,SB]
 refine mU e (.seqK (.seqK (.joinV ([U,U,U,.ptr 0 0,U,U,U,.d (.str y5.1),.d (.int .i64 y5.2),.d (.str y7.1),.d (.int .i64 y7.2),U,U,U,U,U,U,U,U,U,U,U,U,U,U,U,U,U,U,U,U,U,U,U,U,U,U,U,U,U,U,U,U,U,U,U,U,U,U,U,.d (.bool ((y5.2 != 0)||(y7.2 != 0)))]++us 64) ⟨[(cD a0)],[]⟩ rfl ?_ ?_))) h
 refine SWs.region ?_
 rcases Bool.eq_false_or_eq_true (y5.2 != 0)with hb12 | hb12
 simp only[seval,aS,SL,PB,hb12]
 simp only[seval,aS,SL,PB,hb12]
 refine Mir.toK (.cond rfl (λhb14=>?_) (λhb14=>?_))
 refine .sL ?_
 refine .ret QL
 refine .skip (Mir.toK (.seqK (.bind λy8 hy15=>.region λe h=>WL ?_)))
 refine .byL (gz hy15) (mL ?_ h)
 refine .sL ?_
 refine .seqK (.bind λy9 hy16=>.region λe h=>WL ?_)
 refine .byL (ju hy16) (mL ?_ h)
 refine .seqK (.bind λy10 hy17=>.region λe h=>WL ?_)
 refine .byL (ju hy17) (mL ?_ h)
 refine .seqK (Mir.joinO (λv2:Bool=>([U,U,U,U,U,U,.d (.bool v2)]++us 108)) (λv2=>⟨[(cD a0),(w6 y8.Work [.d (.list (List.map ar y8.Lengths))]),[.d (.int .i64 (zD.wrap (a0.Start.X+a0.Offset.X))),.d (.int .i64 (zD.wrap (a0.Start.Y+a0.Offset.Y))),.d (.int .i64 (zD.wrap (a0.Start.Z+a0.Offset.Z)))],(cM y9.2.1),(cM y10.2.1)],[]⟩) (λ_=>rfl) ?_ ?_)
 refine .ite (λhb18=>?_) (λhb18=>?_)
 refine .ite (λhb19=>?_) (λhb19=>?_)
 refine .ite (λhb20=>?_) (λhb20=>?_)
 refine .bind λy11 hy21=>.bind λy12 hy22=>.bind λy13 hy23=>.region λe h=>?_
 simp only[seval,aS,hb18,hb19,hb20]
 refine SpecS.by (iI hy21) (by simp only[seval,bg,hb18,hb19,hb20]) ?_
 simp only[seval,aS,hb18,hb19,hb20]
 refine SpecS.by (iI hy22) (by simp only[seval,bg,hb18,hb19,hb20]) ?_
 simp only[seval,aS,hb18,hb19,hb20]
 refine SpecS.by (cV hy23) (by simp only[seval,bg,hb18,hb19,hb20]) ?_
 simp only[seval,aS,hb18,hb19,hb20]
 cases h
 simp only[seval,bg,hb18,hb19,hb20]
 refine .region λe h=>?_
 simp only[seval,aS,hb18,hb19,hb20]
 cases h
 simp only[seval,bg,hb18,hb19,hb20]
 refine .region λe h=>?_
 simp only[seval,aS,hb18,hb19]
 cases h
 simp only[seval,bg,hb18,hb19]
 refine .region λe h=>?_
 simp only[seval,aS,hb18]
 cases h
 simp only[seval,bg,hb18]
 intro v2
 refine Mir.toK (.ret QL)
theorem co_3:Tryz.prog.cellsOf 3=1:=by kernel_rfl
theorem opn_3:Opn Tryz.prog 3 (eInt .i64) (inInt .i64):=Opn.int Tryz.underlying3
theorem co_2:Tryz.prog.cellsOf 2=1:=by kernel_rfl
theorem opn_2:Opn Tryz.prog 2 (eInt .i64) (inInt .i64):=Opn.int Tryz.underlying2
def inApiPos(x:ae):Prop:=(inInt .i64) x.X∧(inInt .i64) x.Y∧(inInt .i64) x.Z
theorem co_24:Tryz.prog.cellsOf 24=3:=by kernel_rfl
theorem opn_24:Opn Tryz.prog 24 bt inApiPos:=by
 intro w H enc fuel cs x h
 obtain⟨xs,n,_,_,hl,hxl,hf⟩:=DataW.trod_struct Tryz.underlying24 h
 have hxl':xs.length=3:=hxl
 obtain⟨s0,r0,o0⟩:=Opn.field hf 0 2 0 1 rfl co_2 (by omega) opn_2
 obtain⟨s1,r1,o1⟩:=Opn.field hf 1 2 1 1 rfl co_2 (by omega) opn_2
 obtain⟨s2,r2,o2⟩:=Opn.field hf 2 2 2 1 rfl co_2 (by omega) opn_2
 refine⟨⟨s0,s1,s2⟩,?_,o0,o1,o2⟩
 exact (RelC.cut 0 1 r0 rfl (RelC.cut 1 1 r1 rfl (RelC.cut 2 1 r2 rfl (RelC.nil (n:=3) (by rw[hl,co_24];exact zB _)))))
def inApiGrid2(x:bw):Prop:=(inInt .i64) x.X∧(inInt .i64) x.Y
theorem co_51:Tryz.prog.cellsOf 51=2:=by kernel_rfl
theorem opn_51:Opn Tryz.prog 51 encApiGrid2 inApiGrid2:=by
 intro w H enc fuel cs x h
 obtain⟨xs,n,_,_,hl,hxl,hf⟩:=DataW.trod_struct Tryz.underlying51 h
 have hxl':xs.length=2:=hxl
 obtain⟨s0,r0,o0⟩:=Opn.field hf 0 2 0 1 rfl co_2 (by omega) opn_2
 obtain⟨s1,r1,o1⟩:=Opn.field hf 1 2 1 1 rfl co_2 (by omega) opn_2
 refine⟨⟨s0,s1⟩,?_,o0,o1⟩
 exact (RelC.cut 0 1 r0 rfl (RelC.cut 1 1 r1 rfl (RelC.nil (n:=2) (by rw[hl,co_51];exact zB _))))
def inApiMove(x:ay):Prop:=(inInt .i64) x.Kind∧inApiPos x.To∧inApiGrid2 x.Center∧(inInt .i64) x.Rate
theorem co_53:Tryz.prog.cellsOf 53=7:=by kernel_rfl
theorem opn_53:Opn Tryz.prog 53 ci inApiMove:=by
 intro w H enc fuel cs x h
 obtain⟨xs,n,_,_,hl,hxl,hf⟩:=DataW.trod_struct Tryz.underlying53 h
 have hxl':xs.length=4:=hxl
 obtain⟨s0,r0,o0⟩:=Opn.field hf 0 3 0 1 rfl co_3 (by omega) opn_3
 obtain⟨s1,r1,o1⟩:=Opn.field hf 1 24 1 3 rfl co_24 (by omega) opn_24
 obtain⟨s2,r2,o2⟩:=Opn.field hf 2 51 4 2 rfl co_51 (by omega) opn_51
 obtain⟨s3,r3,o3⟩:=Opn.field hf 3 2 6 1 rfl co_2 (by omega) opn_2
 refine⟨⟨s0,s1,s2,s3⟩,?_,o0,o1,o2,o3⟩
 exact (RelC.cut 0 1 r0 rfl (RelC.cut 1 3 r1 rfl (RelC.cut 4 2 r2 rfl (RelC.cut 6 1 r3 rfl (RelC.nil (n:=7) (by rw[hl,co_53];exact zB _))))))
theorem co_54:Tryz.prog.cellsOf 54=1:=by kernel_rfl
theorem opn_54:Opn Tryz.prog 54 (eList ci) (inList inApiMove):=Opn.slice Tryz.underlying54 opn_53 (λ_=>(rfl:_=7).trans co_53.symm) (by rw[co_53];decide)
def inApiStage(x:aW):Prop:=(inInt .i64) x.Tool∧(inList inApiMove) x.Moves
theorem co_56:Tryz.prog.cellsOf 56=2:=by kernel_rfl
theorem opn_56:Opn Tryz.prog 56 bi inApiStage:=by
 intro w H enc fuel cs x h
 obtain⟨xs,n,_,_,hl,hxl,hf⟩:=DataW.trod_struct Tryz.underlying56 h
 have hxl':xs.length=2:=hxl
 obtain⟨s0,r0,o0⟩:=Opn.field hf 0 3 0 1 rfl co_3 (by omega) opn_3
 obtain⟨s1,r1,o1⟩:=Opn.field hf 1 54 1 1 rfl co_54 (by omega) opn_54
 refine⟨⟨s0,s1⟩,?_,o0,o1⟩
 exact (RelC.cut 0 1 r0 rfl (RelC.cut 1 1 r1 rfl (RelC.nil (n:=2) (by rw[hl,co_56];exact zB _))))
theorem co_22:Tryz.prog.cellsOf 22=1:=by kernel_rfl
theorem opn_22:Opn Tryz.prog 22 (eList bi) (inList inApiStage):=Opn.slice Tryz.underlying22 opn_56 (λ_=>(rfl:_=2).trans co_56.symm) (by rw[co_56];decide)
def gc(x:bz):Prop:=(inList inApiStage) x.Stages∧inApiPos x.Start∧inApiPos x.Offset
theorem co_26:Tryz.prog.cellsOf 26=7:=by kernel_rfl
theorem opn_26:Opn Tryz.prog 26 iP gc:=by
 intro w H enc fuel cs x h
 obtain⟨xs,n,_,_,hl,hxl,hf⟩:=DataW.trod_struct Tryz.underlying26 h
 have hxl':xs.length=3:=hxl
 obtain⟨s0,r0,o0⟩:=Opn.field hf 0 22 0 1 rfl co_22 (by omega) opn_22
 obtain⟨s1,r1,o1⟩:=Opn.field hf 1 24 1 3 rfl co_24 (by omega) opn_24
 obtain⟨s2,r2,o2⟩:=Opn.field hf 2 24 4 3 rfl co_24 (by omega) opn_24
 refine⟨⟨s0,s1,s2⟩,?_,o0,o1,o2⟩
 exact (RelC.cut 0 1 r0 rfl (RelC.cut 1 3 r1 rfl (RelC.cut 4 3 r2 rfl (RelC.nil (n:=7) (by rw[hl,co_26];exact zB _)))))
theorem opn_5:Opn Tryz.prog 5 (eInt .u8) (inInt .u8):=Opn.int Tryz.underlying5
end Go.Proofs.YtgojngpeaknbnaaGreatDoor
