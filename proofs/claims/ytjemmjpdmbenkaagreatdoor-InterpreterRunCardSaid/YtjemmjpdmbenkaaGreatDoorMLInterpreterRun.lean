import Derived.Test.YtjemmjpdmbenkaaGreatDoorMA
import Derived.Test.YtjemmjpdmbenkaaGreatDoorMB
import Derived.Test.YtjemmjpdmbenkaaGreatDoorMH
import Derived.Test.YtjemmjpdmbenkaaGreatDoorMW
import Derived.Test.YtjemmjpdmbenkaaGreatDoorMP
import Derived.Test.YtjemmjpdmbenkaaGreatDoorME
import Derived.Test.YtjemmjpdmbenkaaGreatDoorMG
open List renaming map → zA
open Nat renaming le_refl → zB
namespace Go.Proofs.YtjemmjpdmbenkaaGreatDoor
open Go.RowKit
open Nat renaming reduceAdd → nA,reduceSub → nS,reduceMul → nM,reduceEqDiff → nE,reduceLeDiff → nL,reduceLT → nT,reduceBEq → nB
open Int renaming reduceLT → iT,reduceToNat → iN,reduceEq → iE
set_option linter.unusedVariables false
set_option linter.unusedSimpArgs false
set_option maxRecDepth 100000
set_option maxHeartbeats 8000000
def dW(a0:(List UInt8)):Option ((List aa)×Int):=ah (i6 a0) λ(y1:(List aa)×Int×Int)=>if (y1.2.2 != 0)=true then some ([],y1.2.2)else ah (lB y1.1) λ(y2:aZ×Int)=>if (y2.2 != 0)=true then some ([],y2.2)else ah (j8 y2.1) λ(y3:(List aa)×Int)=>some (y3.1,y3.2)
theorem jX{a0:(List UInt8)}{y:(List aa)×Int}(h:dW a0=some y):Spec gP 5 [dS a0] (.tuple [.d (.list (zA ac y.1)),.d (.int .i64 y.2)]):=by
 refine auA Tryz.func5 (λy:(List aa)×Int=>.tuple [.d (.list (zA ac y.1)),.d (.int .i64 y.2)]) ?_ h
 unfold dW
 exact zzA
instance:Sp 5 (type_of% @jX):=⟨@jX⟩
def inp_Run(a0:(List UInt8))(a1:aC)(a2:ag):Option ((List al)×aL×Int):=ah (bF a1 a2) λ(y1:Int)=>if (y1 != 0)=true then some ([],aL.mk 0 0,y1)else ah (ku a0) λ(y2:(List aa)×Int×Int)=>if (y2.2.2 != 0)=true then some ([],aL.mk 0 0,y2.2.2)else ah (sp_Split y2.1) λ(y3:aD×Int)=>if (y3.2 != 0)=true then some ([],aL.mk 0 0,y3.2)else ah (lq y3.1) λ(y4:(List aa)×Int)=>if (y4.2 != 0)=true then some ([],aL.mk 0 0,y4.2)else ah (fi y4.1 a1 a2) λ(y5:(List al)×aL)=>some (y5.1,y5.2,0)
theorem inp_Run_spec{a0:(List UInt8)}{a1:aC}{a2:ag}{y:(List al)×aL×Int}(h:inp_Run a0 a1 a2=some y):Spec gP 7 [dS a0,.agg (w6 a1.Work [.d (.list (zA au a1.Lengths))]),.agg (cE a2)] (.tuple [.d (.list (zA aE y.1)),.agg [.d (.int .i64 y.2.1.Block),.d (.int .i64 y.2.1.Code)],.d (.int .i64 y.2.2)]):=by
 refine auA Tryz.func7 (λy:(List al)×aL×Int=>.tuple [.d (.list (zA aE y.1)),.agg [.d (.int .i64 y.2.1.Block),.d (.int .i64 y.2.1.Code)],.d (.int .i64 y.2.2)]) ?_ h
 unfold inp_Run
 exact zzA
instance:Sp 7 (type_of% @inp_Run_spec):=⟨@inp_Run_spec⟩
def r47_Run(a0:(List UInt8))(a1:bg)(a2:ag):Option ((List al)×bE×Int):=ah (fC a1) λ(y1:Int)=>if (y1 != 0)=true then some ([],bE.mk 0 0,1)else ah (dk a2) λ(y2:Bool)=>if (!y2)=true then some ([],bE.mk 0 0,11)else ah (dW a0) λ(y3:(List aa)×Int)=>if (y3.2 != 0)=true then some ([],bE.mk 0 0,y3.2)else ah (ix y3.1 a1 a2) λ(y4:(List al)×bE)=>some (y4.1,y4.2,0)
theorem r47_Run_spec{a0:(List UInt8)}{a1:bg}{a2:ag}{y:(List al)×bE×Int}(h:r47_Run a0 a1 a2=some y):Spec gP 9 [dS a0,.agg (w6 a1.Work [.d (.list (zA aI a1.Lengths))]),.agg (cE a2)] (.tuple [.d (.list (zA aE y.1)),.agg [.d (.int .i64 y.2.1.Block),.d (.int .i64 y.2.1.Code)],.d (.int .i64 y.2.2)]):=by
 refine auA Tryz.func9 (λy:(List al)×bE×Int=>.tuple [.d (.list (zA aE y.1)),.agg [.d (.int .i64 y.2.1.Block),.d (.int .i64 y.2.1.Code)],.d (.int .i64 y.2.2)]) ?_ h
 unfold r47_Run
 exact zzA
instance:Sp 9 (type_of% @r47_Run_spec):=⟨@r47_Run_spec⟩
def mC(a0:(List al))(a1:aL)(a2:(List al))(a3:bE):Option Bool:=ah (ah (r47_Same a0 a2) λ(y1:Bool)=>if y1=true then if (a1.Block==a3.Block)=true then some (a1.Code==a3.Code)else some false else some false) λ(v1:Bool)=>jR 1 (us 8++[dB v1]++us 17) ⟨[(cH a1),(cT a3)],[]⟩ ( some v1)
theorem l47_same_spec{a0:(List al)}{a1:aL}{a2:(List al)}{a3:bE}{y:Bool}(h:mC a0 a1 a2 a3=some y):Spec gP 10 [.d (.list (zA aE a0)),.agg (cH a1),.d (.list (zA aE a2)),.agg (cT a3)] (.d (.bool y)):=by
 refine auA Tryz.func10 (λy:Bool=>.d (.bool y)) ?_ h
 unfold mC
 exact zzA
instance:Sp 10 (type_of% @l47_same_spec):=⟨@l47_same_spec⟩
def dM(a0:(List UInt8))(a1:fm):Option Bool:=ah (ah (lS ) λ(y1:Bool)=>if y1=true then if (decide ((a0.length:Int)>1000))=true then some true else some (decide ((a1.Table.Lengths.length:Int)>20))else some true) λ(v1:Bool)=>jR 1 ([dS a0,U,U,.ptr 0 0]++us 22++[dB v1]++us 45) ⟨[(w6 a1.Table.Work [dL aI a1.Table.Lengths,dI a1.From.X,dI a1.From.Y,dI a1.From.Z])],[]⟩ ( if v1=true then ah (lS ) λ(y2:Bool)=>some y2 else ah (dW a0) λ(y3:(List aa)×Int)=>ah (if (y3.2==0)=true then ah (l47_few y3.1 a1) λ(y4:Bool)=>some (!y4)else some false) λ(v2:Bool)=>jR 4 ([dS a0,U,U,.ptr 0 0]++us 36++[dB v2]++us 31) ⟨[(w6 a1.Table.Work [dL aI a1.Table.Lengths,dI a1.From.X,dI a1.From.Y,dI a1.From.Z])],[]⟩ ( if v2=true then some true else ah (fX a1.Table) λ(y5:aC)=>ah (inp_Run a0 y5 a1.From) λ(y6:(List al)×aL×Int)=>ah (r47_Run a0 a1.Table a1.From) λ(y7:(List al)×bE×Int)=>ah (if (y6.2.2==y7.2.2)=true then ah (mC y6.1 y6.2.1 y7.1 y7.2.1) λ(y8:Bool)=>some y8 else some false) λ(v3:Bool)=>jR 8 ([U,U,U,U,dB v3]++us 67) ⟨[(w6 a1.Table.Work [dL aI a1.Table.Lengths,dI a1.From.X,dI a1.From.Y,dI a1.From.Z]),(cH y6.2.1),(cT y7.2.1)],[]⟩ ( some v3)))
theorem dn{a0:(List UInt8)}{a1:fm}{y:Bool}(h:dM a0 a1=some y):Spec gP 3 [dS a0,.agg (w6 a1.Table.Work [.d (.list (zA aI a1.Table.Lengths)),dI a1.From.X,dI a1.From.Y,dI a1.From.Z])] (.d (.bool y)):=by
 refine auA Tryz.func3 (λy:Bool=>.d (.bool y)) ?_ h
 unfold dM
 exact zzA
instance:Sp 3 (type_of% @dn):=⟨@dn⟩
theorem opn_9:Opn Tryz.prog 9 eStr inStr:=Opn.str Tryz.underlying9
theorem co_2:Tryz.prog.cellsOf 2=1:=by kernel_rfl
theorem opn_2:Opn Tryz.prog 2 (eInt .i64) (inInt .i64):=Opn.int Tryz.underlying2
def jz(x:ag):Prop:=(inInt .i64) x.X∧(inInt .i64) x.Y∧(inInt .i64) x.Z
theorem co_23:Tryz.prog.cellsOf 23=3:=by kernel_rfl
theorem opn_23:Opn Tryz.prog 23 bN jz:=by
 intro w H enc fuel cs x h
 obtain⟨xs,n,_,_,hl,hxl,hf⟩:=DataW.trod_struct Tryz.underlying23 h
 have hxl':xs.length=3:=hxl
 obtain⟨s0,r0,o0⟩:=Opn.field hf 0 2 0 1 rfl co_2 (by omega) opn_2
 obtain⟨s1,r1,o1⟩:=Opn.field hf 1 2 1 1 rfl co_2 (by omega) opn_2
 obtain⟨s2,r2,o2⟩:=Opn.field hf 2 2 2 1 rfl co_2 (by omega) opn_2
 refine⟨⟨s0,s1,s2⟩,?_,o0,o1,o2⟩
 exact (RelC.cut 0 1 r0 rfl (RelC.cut 1 1 r1 rfl (RelC.cut 2 1 r2 rfl (RelC.nil (n:=3) (by rw[hl,co_23];exact zB _)))))
def inArr6ApiPos(x:iG):Prop:=jz x.e0∧jz x.e1∧jz x.e2∧jz x.e3∧jz x.e4∧jz x.e5
theorem co_24:Tryz.prog.cellsOf 24=18:=by kernel_rfl
theorem opn_24:Opn Tryz.prog 24 encArr6ApiPos inArr6ApiPos:=by
 intro w H enc fuel cs x h
 obtain⟨xs,n,_,_,hl,hxl,hf⟩:=DataW.trod_array Tryz.underlying24 h
 obtain⟨s0,r0,o0⟩:=Opn.elem hf 0 3 co_23 (by omega) hxl opn_23
 obtain⟨s1,r1,o1⟩:=Opn.elem hf 1 3 co_23 (by omega) hxl opn_23
 obtain⟨s2,r2,o2⟩:=Opn.elem hf 2 3 co_23 (by omega) hxl opn_23
 obtain⟨s3,r3,o3⟩:=Opn.elem hf 3 3 co_23 (by omega) hxl opn_23
 obtain⟨s4,r4,o4⟩:=Opn.elem hf 4 3 co_23 (by omega) hxl opn_23
 obtain⟨s5,r5,o5⟩:=Opn.elem hf 5 3 co_23 (by omega) hxl opn_23
 refine⟨⟨s0,s1,s2,s3,s4,s5⟩,?_,o0,o1,o2,o3,o4,o5⟩
 exact (RelC.cut 0 3 r0 rfl (RelC.cut 3 3 r1 rfl (RelC.cut 6 3 r2 rfl (RelC.cut 9 3 r3 rfl (RelC.cut 12 3 r4 rfl (RelC.cut 15 3 r5 rfl (RelC.nil (n:=18) (by rw[hl,co_24];exact zB _))))))))
def nU(x:ca):Prop:=(inInt .i64) x.Number∧(inInt .i64) x.Length
theorem co_73:Tryz.prog.cellsOf 73=2:=by kernel_rfl
theorem opn_73:Opn Tryz.prog 73 aI nU:=by
 intro w H enc fuel cs x h
 obtain⟨xs,n,_,_,hl,hxl,hf⟩:=DataW.trod_struct Tryz.underlying73 h
 have hxl':xs.length=2:=hxl
 obtain⟨s0,r0,o0⟩:=Opn.field hf 0 2 0 1 rfl co_2 (by omega) opn_2
 obtain⟨s1,r1,o1⟩:=Opn.field hf 1 2 1 1 rfl co_2 (by omega) opn_2
 refine⟨⟨s0,s1⟩,?_,o0,o1⟩
 exact (RelC.cut 0 1 r0 rfl (RelC.cut 1 1 r1 rfl (RelC.nil (n:=2) (by rw[hl,co_73];exact zB _))))
theorem co_25:Tryz.prog.cellsOf 25=1:=by kernel_rfl
theorem opn_25:Opn Tryz.prog 25 (bC aI) (inList nU):=Opn.slice Tryz.underlying25 opn_73 (λ_=>(rfl:_=2).trans co_73.symm) (by rw[co_73];decide)
def inR45Table(x:bg):Prop:=inArr6ApiPos x.Work∧(inList nU) x.Lengths
theorem co_27:Tryz.prog.cellsOf 27=19:=by kernel_rfl
theorem opn_27:Opn Tryz.prog 27 encR45Table inR45Table:=by
 intro w H enc fuel cs x h
 obtain⟨xs,n,_,_,hl,hxl,hf⟩:=DataW.trod_struct Tryz.underlying27 h
 have hxl':xs.length=2:=hxl
 obtain⟨s0,r0,o0⟩:=Opn.field hf 0 24 0 18 rfl co_24 (by omega) opn_24
 obtain⟨s1,r1,o1⟩:=Opn.field hf 1 25 18 1 rfl co_25 (by omega) opn_25
 refine⟨⟨s0,s1⟩,?_,o0,o1⟩
 exact (RelC.cut 0 18 r0 rfl (RelC.cut 18 1 r1 rfl (RelC.nil (n:=19) (by rw[hl,co_27];exact zB _))))
def inL47Setting(x:fm):Prop:=inR45Table x.Table∧jz x.From
theorem co_29:Tryz.prog.cellsOf 29=22:=by kernel_rfl
theorem opn_29:Opn Tryz.prog 29 encL47Setting inL47Setting:=by
 intro w H enc fuel cs x h
 obtain⟨xs,n,_,_,hl,hxl,hf⟩:=DataW.trod_struct Tryz.underlying29 h
 have hxl':xs.length=2:=hxl
 obtain⟨s0,r0,o0⟩:=Opn.field hf 0 27 0 19 rfl co_27 (by omega) opn_27
 obtain⟨s1,r1,o1⟩:=Opn.field hf 1 23 19 3 rfl co_23 (by omega) opn_23
 refine⟨⟨s0,s1⟩,?_,o0,o1⟩
 exact (RelC.cut 0 19 r0 rfl (RelC.cut 19 3 r1 rfl (RelC.nil (n:=22) (by rw[hl,co_29];exact zB _))))
end Go.Proofs.YtjemmjpdmbenkaaGreatDoor
