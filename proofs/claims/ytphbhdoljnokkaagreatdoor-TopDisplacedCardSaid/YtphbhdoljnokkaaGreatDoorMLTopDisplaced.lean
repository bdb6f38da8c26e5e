import Derived.Test.YtphbhdoljnokkaaGreatDoorMA
import Derived.Test.YtphbhdoljnokkaaGreatDoorMI
import Derived.Test.YtphbhdoljnokkaaGreatDoorMQ
import Derived.Test.YtphbhdoljnokkaaGreatDoorMR
import Derived.Test.YtphbhdoljnokkaaGreatDoorMD
import Derived.Test.YtphbhdoljnokkaaGreatDoorMT
import Derived.Test.YtphbhdoljnokkaaGreatDoorMB
import Derived.Test.YtphbhdoljnokkaaGreatDoorMH
import Derived.Test.YtphbhdoljnokkaaGreatDoorMW
import Derived.Test.YtphbhdoljnokkaaGreatDoorME
open Nat renaming le_refl → zA
namespace Go.Proofs.YtphbhdoljnokkaaGreatDoor
open Go.RowKit
open Nat renaming reduceAdd → nA,reduceSub → nS,reduceMul → nM,reduceEqDiff → nE,reduceLeDiff → nL,reduceLT → nT,reduceBEq → nB
open Int renaming reduceLT → iT,reduceToNat → iN,reduceEq → iE
set_option linter.unusedVariables false
set_option linter.unusedSimpArgs false
set_option maxRecDepth 100000
set_option maxHeartbeats 8000000
def bI(a0:ag)(a1:ag):Option ag:=some (ag.mk (IntKind.i64.wrap (a0.X+a1.X)) (IntKind.i64.wrap (a0.Y+a1.Y)) (IntKind.i64.wrap (a0.Z+a1.Z)))
theorem iJ{a0:ag}{a1:ag}{y:ag}(h:bI a0 a1=some y):Spec gP 7 [.agg (cF a0),.agg (cF a1)] (.agg [.d (.int .i64 y.X),.d (.int .i64 y.Y),.d (.int .i64 y.Z)]):=by
 refine auA Tryz.func7 (λy:ag=>.agg [.d (.int .i64 y.X),.d (.int .i64 y.Y),.d (.int .i64 y.Z)]) ?_ h
 unfold bI
 exact zzA
instance:Sp 7 (type_of% @iJ):=⟨@iJ⟩
def gj(a0:ck)(a1:ag)(a2:mw):Option Bool:=ac (ac (kY ) λ(y1:Bool)=>if y1=true then ac (my a0) λ(y2:Bool)=>if y2=true then ac (my (ck.mk [] a1 (ag.mk 0 0 0))) λ(y3:Bool)=>some (!y3)else some true else some true) λ(v1:Bool)=>jR 1 ([U,U,U,.ptr 0 0,.ptr 1 0,.ptr 2 0]++us 30++[dB v1]++us 129) ⟨[(cT a0),(cF a1),(cV a2)],[]⟩ ( if v1=true then ac (kY ) λ(y4:Bool)=>some y4 else ac (oN a0.Stages a0.Start (dP.mk 55000 false 0 0)) λ(y5:(List UInt8)×Int)=>if (y5.2 != 0)=true then some true else ac (bI a0.Start a0.Offset) λ(y6:ag)=>ac (gU a0.Offset) λ(y7:aw)=>ac (qM y5.1 y7 y6) λ(y8:(List aq)×aQ×Int)=>ac (bI a0.Offset a1) λ(y9:ag)=>ac (gU y9) λ(y10:aw)=>ac (bI y6 a1) λ(y11:ag)=>ac (qM y5.1 y10 y11) λ(y12:(List aq)×aQ×Int)=>jV 10 ([U,U,U,U,.ptr 1 0,.ptr 2 0,U,U,U,U,U,dL aS y8.1,U,dL aS y12.1]++us 84++[dB ((y8.2.2 != 0)||((y12.2.2 != 0)||(!((y8.2.1.Block==y12.2.1.Block)&&(y8.2.1.Code==y12.2.1.Code))||((y8.1.length:Int) != (y12.1.length:Int)))))]++us 67) ⟨[(cT a0),(cF a1),(cV a2),(cF y6),(cK y8.2.1),(cK y12.2.1)],[]⟩ ( if ((y8.2.2 != 0)||((y12.2.2 != 0)||(!((y8.2.1.Block==y12.2.1.Block)&&(y8.2.1.Code==y12.2.1.Code))||((y8.1.length:Int) != (y12.1.length:Int)))))=true then some false else gF [.slot 16 50] ( ac (ac (bK 1 1) λ(y13:cf)=>ac (bK 2 2) λ(y14:cf)=>ac (bK 3 3) λ(y15:cf)=>ac (bK 4 4) λ(y16:cf)=>ac (bK 5 5) λ(y17:cf)=>ac (bK 6 6) λ(y18:cf)=>ac (bK 7 7) λ(y19:cf)=>ac (bK 8 8) λ(y20:cf)=>ac (bK 9 9) λ(y21:cf)=>some [y13,y14,y15,y16,y17,y18,y19,y20,y21]) λ(v2:(List cf))=>jB 0 ([U,U,U,U,.ptr 1 0,.ptr 2 0,U,U,U,U,U,dL aS y8.1,U,dL aS y12.1,U,U,.own 0 (List.map eO v2)]++us 149) ⟨[(cT a0),(cF a1),(cV a2),(cF y6),(cK y8.2.1),(cK y12.2.1)],[(50,v2.length)]⟩ ( ac (ff y8.1 v2) λ(y22:(List aO)×Int)=>ac (ff y12.1 v2) λ(y23:(List aO)×Int)=>jV 19 ([U,U,U,U,.ptr 1 0,.ptr 2 0]++us 12++[dL de y22.1,dL de y23.1]++us 106++[dB ((y22.2 != 0)||(y23.2 != 0))]++us 39) ⟨[(cT a0),(cF a1),(cV a2),(cF y6),(cK y8.2.1),(cK y12.2.1)],[(50,v2.length)]⟩ ( if ((y22.2 != 0)||(y23.2 != 0))=true then some false else ac (r07_At2 a2) λ(y24:aI)=>ac (dt a1.X) λ(y25:ah)=>ac (mm y24.X y25) λ(y26:ah)=>ac (dt a1.Y) λ(y27:ah)=>ac (mm y24.Y y27) λ(y28:ah)=>ac (cl y22.1 50000 y24) λ(y29:aL)=>ac (dt a1.Z) λ(y30:ah)=>ac (dp y30) λ(y31:aL)=>ac (rt_Add y29 y31) λ(y32:aL×Int)=>ac (if (y32.2==0)=true then ac (cl y23.1 (IntKind.i64.wrap (50000+a1.Z)) (aI.mk y26 y28)) λ(y33:aL)=>ac (fY y32.1 y33) λ(y34:Bool)=>some y34 else some false) λ(v3:Bool)=>jR 25 (us 6++[dB v3]++us 159) ⟨[(cT a0),(cF a1),(cV a2),(cF y6),(cK y8.2.1),(cK y12.2.1),(cQ y24),[dB y26.Num.Neg,dL (eInt .u32) y26.Num.Limbs,dB y26.Den.Neg,dL (eInt .u32) y26.Den.Limbs,dB y28.Num.Neg,dL (eInt .u32) y28.Num.Limbs,dB y28.Den.Neg,dL (eInt .u32) y28.Den.Limbs],(cS y29),(cS y32.1)],[(50,v2.length)]⟩ ( some v3))))))
theorem gB{a0:ck}{a1:ag}{a2:mw}{y:Bool}(h:gj a0 a1 a2=some y):Spec gP 3 [.agg (cT a0),.agg (cF a1),.agg (cV a2)] (.d (.bool y)):=by
 refine auA Tryz.func3 (λy:Bool=>.d (.bool y)) ?_ h
 unfold gj
 exact zzA
instance:Sp 3 (type_of% @gB):=⟨@gB⟩
theorem co_3:Tryz.prog.cellsOf 3=1:=by kernel_rfl
theorem opn_3:Opn Tryz.prog 3 (eInt .i64) (lD .i64):=Opn.int Tryz.underlying3
theorem co_2:Tryz.prog.cellsOf 2=1:=by kernel_rfl
theorem opn_2:Opn Tryz.prog 2 (eInt .i64) (lD .i64):=Opn.int Tryz.underlying2
def pN(x:ag):Prop:=(lD .i64) x.X∧(lD .i64) x.Y∧(lD .i64) x.Z
theorem co_24:Tryz.prog.cellsOf 24=3:=by kernel_rfl
theorem opn_24:Opn Tryz.prog 24 dc pN:=by
 intro w H enc fuel cs x h
 obtain⟨xs,n,_,_,hl,hxl,hf⟩:=DataW.trod_struct Tryz.underlying24 h
 have hxl':xs.length=3:=hxl
 obtain⟨s0,r0,o0⟩:=Opn.field hf 0 2 0 1 rfl co_2 (by omega) opn_2
 obtain⟨s1,r1,o1⟩:=Opn.field hf 1 2 1 1 rfl co_2 (by omega) opn_2
 obtain⟨s2,r2,o2⟩:=Opn.field hf 2 2 2 1 rfl co_2 (by omega) opn_2
 refine⟨⟨s0,s1,s2⟩,?_,o0,o1,o2⟩
 exact (RelC.cut 0 1 r0 rfl (RelC.cut 1 1 r1 rfl (RelC.cut 2 1 r2 rfl (RelC.nil (n:=3) (by rw[hl,co_24];exact zA _)))))
def inApiGrid2(x:dh):Prop:=(lD .i64) x.X∧(lD .i64) x.Y
theorem co_74:Tryz.prog.cellsOf 74=2:=by kernel_rfl
theorem opn_74:Opn Tryz.prog 74 encApiGrid2 inApiGrid2:=by
 intro w H enc fuel cs x h
 obtain⟨xs,n,_,_,hl,hxl,hf⟩:=DataW.trod_struct Tryz.underlying74 h
 have hxl':xs.length=2:=hxl
 obtain⟨s0,r0,o0⟩:=Opn.field hf 0 2 0 1 rfl co_2 (by omega) opn_2
 obtain⟨s1,r1,o1⟩:=Opn.field hf 1 2 1 1 rfl co_2 (by omega) opn_2
 refine⟨⟨s0,s1⟩,?_,o0,o1⟩
 exact (RelC.cut 0 1 r0 rfl (RelC.cut 1 1 r1 rfl (RelC.nil (n:=2) (by rw[hl,co_74];exact zA _))))
def inApiMove(x:aH):Prop:=(lD .i64) x.Kind∧pN x.To∧inApiGrid2 x.Center∧(lD .i64) x.Rate
theorem co_76:Tryz.prog.cellsOf 76=7:=by kernel_rfl
theorem opn_76:Opn Tryz.prog 76 fQ inApiMove:=by
 intro w H enc fuel cs x h
 obtain⟨xs,n,_,_,hl,hxl,hf⟩:=DataW.trod_struct Tryz.underlying76 h
 have hxl':xs.length=4:=hxl
 obtain⟨s0,r0,o0⟩:=Opn.field hf 0 3 0 1 rfl co_3 (by omega) opn_3
 obtain⟨s1,r1,o1⟩:=Opn.field hf 1 24 1 3 rfl co_24 (by omega) opn_24
 obtain⟨s2,r2,o2⟩:=Opn.field hf 2 74 4 2 rfl co_74 (by omega) opn_74
 obtain⟨s3,r3,o3⟩:=Opn.field hf 3 2 6 1 rfl co_2 (by omega) opn_2
 refine⟨⟨s0,s1,s2,s3⟩,?_,o0,o1,o2,o3⟩
 exact (RelC.cut 0 1 r0 rfl (RelC.cut 1 3 r1 rfl (RelC.cut 4 2 r2 rfl (RelC.cut 6 1 r3 rfl (RelC.nil (n:=7) (by rw[hl,co_76];exact zA _))))))
theorem co_77:Tryz.prog.cellsOf 77=1:=by kernel_rfl
theorem opn_77:Opn Tryz.prog 77 (eList fQ) (inList inApiMove):=Opn.slice Tryz.underlying77 opn_76 (λ_=>(rfl:_=7).trans co_76.symm) (by rw[co_76];decide)
def inApiStage(x:bC):Prop:=(lD .i64) x.Tool∧(inList inApiMove) x.Moves
theorem co_79:Tryz.prog.cellsOf 79=2:=by kernel_rfl
theorem opn_79:Opn Tryz.prog 79 cb inApiStage:=by
 intro w H enc fuel cs x h
 obtain⟨xs,n,_,_,hl,hxl,hf⟩:=DataW.trod_struct Tryz.underlying79 h
 have hxl':xs.length=2:=hxl
 obtain⟨s0,r0,o0⟩:=Opn.field hf 0 3 0 1 rfl co_3 (by omega) opn_3
 obtain⟨s1,r1,o1⟩:=Opn.field hf 1 77 1 1 rfl co_77 (by omega) opn_77
 refine⟨⟨s0,s1⟩,?_,o0,o1⟩
 exact (RelC.cut 0 1 r0 rfl (RelC.cut 1 1 r1 rfl (RelC.nil (n:=2) (by rw[hl,co_79];exact zA _))))
theorem co_22:Tryz.prog.cellsOf 22=1:=by kernel_rfl
theorem opn_22:Opn Tryz.prog 22 (eList cb) (inList inApiStage):=Opn.slice Tryz.underlying22 opn_79 (λ_=>(rfl:_=2).trans co_79.symm) (by rw[co_79];decide)
def lC(x:ck):Prop:=(inList inApiStage) x.Stages∧pN x.Start∧pN x.Offset
theorem co_26:Tryz.prog.cellsOf 26=7:=by kernel_rfl
theorem opn_26:Opn Tryz.prog 26 oc lC:=by
 intro w H enc fuel cs x h
 obtain⟨xs,n,_,_,hl,hxl,hf⟩:=DataW.trod_struct Tryz.underlying26 h
 have hxl':xs.length=3:=hxl
 obtain⟨s0,r0,o0⟩:=Opn.field hf 0 22 0 1 rfl co_22 (by omega) opn_22
 obtain⟨s1,r1,o1⟩:=Opn.field hf 1 24 1 3 rfl co_24 (by omega) opn_24
 obtain⟨s2,r2,o2⟩:=Opn.field hf 2 24 4 3 rfl co_24 (by omega) opn_24
 refine⟨⟨s0,s1,s2⟩,?_,o0,o1,o2⟩
 exact (RelC.cut 0 1 r0 rfl (RelC.cut 1 3 r1 rfl (RelC.cut 4 3 r2 rfl (RelC.nil (n:=7) (by rw[hl,co_26];exact zA _)))))
theorem co_27:Tryz.prog.cellsOf 27=1:=by kernel_rfl
theorem opn_27:Opn Tryz.prog 27 (eInt .i16) (lD .i16):=Opn.int Tryz.underlying27
theorem co_5:Tryz.prog.cellsOf 5=1:=by kernel_rfl
theorem opn_5:Opn Tryz.prog 5 (eInt .u8) (lD .u8):=Opn.int Tryz.underlying5
def inR07Spot(x:mw):Prop:=(lD .i16) x.X∧(lD .i16) x.Y∧(lD .u8) x.D
theorem co_29:Tryz.prog.cellsOf 29=3:=by kernel_rfl
theorem opn_29:Opn Tryz.prog 29 encR07Spot inR07Spot:=by
 intro w H enc fuel cs x h
 obtain⟨xs,n,_,_,hl,hxl,hf⟩:=DataW.trod_struct Tryz.underlying29 h
 have hxl':xs.length=3:=hxl
 obtain⟨s0,r0,o0⟩:=Opn.field hf 0 27 0 1 rfl co_27 (by omega) opn_27
 obtain⟨s1,r1,o1⟩:=Opn.field hf 1 27 1 1 rfl co_27 (by omega) opn_27
 obtain⟨s2,r2,o2⟩:=Opn.field hf 2 5 2 1 rfl co_5 (by omega) opn_5
 refine⟨⟨s0,s1,s2⟩,?_,o0,o1,o2⟩
 exact (RelC.cut 0 1 r0 rfl (RelC.cut 1 1 r1 rfl (RelC.cut 2 1 r2 rfl (RelC.nil (n:=3) (by rw[hl,co_29];exact zA _)))))
end Go.Proofs.YtphbhdoljnokkaaGreatDoor
