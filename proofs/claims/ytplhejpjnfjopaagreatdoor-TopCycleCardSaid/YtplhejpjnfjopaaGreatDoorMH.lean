import Derived.Test.YtplhejpjnfjopaaGreatDoorGx
import Derived.Test.YtplhejpjnfjopaaGreatDoorTy
import Derived.Test.YtplhejpjnfjopaaGreatDoorGn
import Derived.Test.YtplhejpjnfjopaaGreatDoorSzz
import Derived.Test.YtplhejpjnfjopaaGreatDoorMB
open List renaming map → zA,replicate → zD,length → zE
open And renaming intro → zB
namespace Go.Proofs.YtplhejpjnfjopaaGreatDoor
open Go.RowKit
open Nat renaming reduceAdd → nA,reduceSub → nS,reduceMul → nM,reduceEqDiff → nE,reduceLeDiff → nL,reduceLT → nT,reduceBEq → nB
open Int renaming reduceLT → iT,reduceToNat → iN,reduceEq → iE
set_option linter.unusedVariables false
set_option linter.unusedSimpArgs false
set_option maxRecDepth 100000
set_option maxHeartbeats 8000000
structure R45Length where
 Number:Int
 Length:Int
 deriving DecidableEq
def jV(x:R45Length):List D:=[.int .i64 x.Number,.int .i64 x.Length]
structure R45Table where
 Work:dR
 Lengths:(List R45Length)
 deriving DecidableEq
def encR45Table(x:R45Table):List D:=[.int .i64 x.Work.e0.X,.int .i64 x.Work.e0.Y,.int .i64 x.Work.e0.Z,.int .i64 x.Work.e1.X,.int .i64 x.Work.e1.Y,.int .i64 x.Work.e1.Z,.int .i64 x.Work.e2.X,.int .i64 x.Work.e2.Y,.int .i64 x.Work.e2.Z,.int .i64 x.Work.e3.X,.int .i64 x.Work.e3.Y,.int .i64 x.Work.e3.Z,.int .i64 x.Work.e4.X,.int .i64 x.Work.e4.Y,.int .i64 x.Work.e4.Z,.int .i64 x.Work.e5.X,.int .i64 x.Work.e5.Y,.int .i64 x.Work.e5.Z,.list (zA jV x.Lengths)]
structure SwarftopJob53 where
 Stages:(List fg)
 Start:ag
 Offset:ag
 deriving DecidableEq
def jr(x:SwarftopJob53):List D:=[.list (zA ce x.Stages),.int .i64 x.Start.X,.int .i64 x.Start.Y,.int .i64 x.Start.Z,.int .i64 x.Offset.X,.int .i64 x.Offset.Y,.int .i64 x.Offset.Z]
theorem ENMH:type_of% (zB @jV.eq_1<|zB @encR45Table.eq_1<|@jr.eq_1):=zB @jV.eq_1<|zB @encR45Table.eq_1<|@jr.eq_1
theorem EMH:type_of% (zB @SE<|zB @ENMH<|@ENMB):=zB @SE<|zB @ENMH<|@ENMB
theorem FMH:type_of% (zB @SF<|zB @ENMH<|@ENMB):=zB @SF<|zB @ENMH<|@ENMB
def bU(a0:List ao):Option (List ao):=aF (okLen a0.length) (some a0)
theorem dU{c0:Nat}{y:List ao}(h:(some [])=some y):SpecY gP 41 [.d (.other (.slice none 0 c0))] 47 (zA aI y):=by
 refine specY_mir Tryz.func41 rfl (by kernel_rfl) (by kernel_rfl) (λy:List ao=>zA aI y) (sc_map (λ_=>rfl) _) ?_ h
 simp only[zD,zE,nS,nA,Tryz.ntmps41,SV]
 refine .sR λe h=>?_
 simp only[seval,EMH]
 refine mU e (.seqK (.sR λe h=>?_)) h
 simp only[seval,EMH,cW]
 refine mU e (.condT rfl (.sR λe h=>?_)) h
 simp only[seval,EMH]
 refine mU e (.ret λe h=>?_) h
 cases h
 simp only[seval,FMH,Tryz.results41,fy_r,fy_n,yr_o,yr_n]
theorem dS{p0:Addr}{c0:Nat}{y:List ao}(h:(some [])=some y):SpecY gP 41 [.d (.other (.slice (some p0) 0 c0))] 47 (zA aI y):=by
 refine specY_mir Tryz.func41 rfl (by kernel_rfl) (by kernel_rfl) (λy:List ao=>zA aI y) (sc_map (λ_=>rfl) _) ?_ h
 simp only[zD,zE,nS,nA,Tryz.ntmps41,SV]
 refine .sR λe h=>?_
 simp only[seval,EMH]
 refine mU e (.seqK (.sR λe h=>?_)) h
 simp only[seval,EMH,cW]
 refine mU e (.condF rfl (.skip (Mir.toK (.seqK (.regionW λe h=>regW.alt 0 rfl ?_))))) h
 simp only[seval,EMH,ah,w_eq]
 refine g8 app_40 (regW.of ?_)
 simp only[seval,EMH,ah,w_eq,cW,sz_47,zero_47,(oL 0),app_40,fC]
 refine mU e (.ret λe h=>?_) h
 cases h
 simp only[seval,FMH,Tryz.results41,fy_r,fy_n,yr_o,yr_n]
theorem dV{x0:ao}{l0:List ao}{y:List ao}(h:(aF (okLen (0+(x0::l0).length)) (   some ([]++(x0::l0))))=some y):SpecY gP 41 [.d (.list (zA aI (x0::l0)))] 47 (zA aI y):=by
 refine specY_mir Tryz.func41 rfl (by kernel_rfl) (by kernel_rfl) (λy:List ao=>zA aI y) (sc_map (λ_=>rfl) _) ?_ h
 simp only[zD,zE,nS,nA,Tryz.ntmps41,SV]
 refine .sR λe h=>?_
 simp only[seval,EMH]
 refine mU e (.seqK (.sR λe h=>?_)) h
 simp only[seval,EMH,cW]
 refine mU e (.condF rfl (.skip (Mir.toK (.seqK (.guard λq1=>.regionW λe h=>regW.alt 0 rfl ?_))))) h
 simp only[seval,EMH,ah,w_eq]
 refine g8 app_40 (regW.of ?_)
 simp only[seval,EMH,ah,w_eq,cW,sz_47,zero_47,(oL 0),app_40,fC,q1]
 refine mU e (.ret λe h=>?_) h
 cases h
 simp only[seval,FMH,Tryz.results41,fy_r,fy_n,yr_o,yr_n]
theorem dq{a0:List ao}{y:List ao}(h:bU a0=some y):SpecY gP 41 [.d (.list (zA aI a0))] 47 (zA aI y):=by
 obtain⟨hl,h⟩:=cT h
 cases h
 cases a0 with
 | nil =>
  refine SpecY.nilcase λA c=>?_
  cases A with
  | none=>exact dU rfl
  | some p=>exact dS rfl
 | cons x l=>exact dV (by simp only[aF,Nat.zero_add,List.nil_append,hl])
def eR(a0:(List ao)):Option (List ao):=bindO (bU a0) λ(y1:(List ao))=>bindO (aF (okIdx y1) ( aU (λ(i1:Nat) (e1:ao) (v1:(List ao))=>bindO (gt v1 (i1:Int)) λ(e2:ao)=>some (.go (v1.set (Int.toNat (i1:Int)) (ao.mk e2.From e2.To e2.Rate e2.Tool 0)))) (λ(v1:(List ao))=>some v1) y1 0 y1)) λ(v2:(List ao))=>some v2
theorem jj{a0:(List ao)}{y:(List ao)}(h:eR a0=some y):Spec gP 14 [.d (.list (zA aI a0))] (.d (.list (zA aI y))):=by
 refine aB Tryz.func14 rfl (by kernel_rfl) (by kernel_rfl) (λy:(List ao)=>.d (.list (zA aI y))) ?_ h
 unfold eR
 simp only[zD,zE,nS,nA,Tryz.ntmps14,SV]
 refine .sR λe h=>?_
 simp only[seval,EMH,al,spD]
 refine mU e (.seqK (.bind λy1 hy1=>.region λe h=>?_)) h
 simp only[seval,EMH,al,spD]
 refine SpecY.toS (dq hy1) (by simp only[seval,FMH,al,spD]) ?_
 simp only[seval,EMH,al,spD]
 refine mU e (.seqK (.seqK (.regionW λe h=>regW.alt 1 rfl ?_))) h
 simp only[seval,EMH,ah,w_eq,al,spD]
 refine alt_lenR rfl rfl cW (regW.of ?_)
 simp only[seval,EMH,ah,w_eq,cW,al,spD]
 refine mU e (Mir.joinO (λv2:(List ao)=>([U,U,U,.gr 0 0]++us 14)) (λv2=>⟨[[.rowc 47 0 (zA aI v2)]],[]⟩) (λ_=>rfl) ?_ ?_) h
 refine .block (.guard λqg33=>Mir.range (λ(i1:Nat) (v1:(List ao))=>([U,U,U,.gr 0 0,U,U,U,U,.d (.int .i64 (y1.length:Int)),.d (.int .i64 (i1:Int))]++us 8)) (λi1 v1=>⟨[[.rowc 47 0 (zA aI v1)]],[]⟩) qg33 (λ_ _=>rfl) (by simp only[seval,FMH,al,spD,zNI]) (by simp only[seval,FMH,al,spD,zNI]) ?_ ?_)
 intro i1 e1 v1 qr31
 refine .sR λe h=>?_
 simp only[seval,EMH,qr31,al,spD]
 refine mU e (.seqK (.condT rfl (.skip (Mir.toK (.seqK (.block (.sR λe h=>?_))))))) h
 simp only[seval,EMH,al,spD]
 refine mU e (.bind λe2 q35=>?_) h
 replace q35:=gt_ok q35
 refine .regionW λe h=>regW.alt 2 rfl ?_
 simp only[seval,EMH,ah,w_eq,al,spD]
 refine alt_indexR rfl rfl rfl cW sz_47 (row_lo q35.1) (row_hi q35.2 q35.1) (regW.alt 0 rfl ?_)
 simp only[seval,EMH,ah,w_eq,cW,sz_47,al,spD]
 refine alt_fieldR rfl rfl fld_47_4 sz_3 (by decide) (regW.alt 0 rfl ?_)
 simp only[seval,EMH,ah,w_eq,fld_47_4,sz_3,al,spD]
 refine alt_storeR rfl rfl (row_at q35.2) rfl rfl sz_3 rfl (Nat.le_of_ble_eq_true rfl) (regW.of ?_)
 simp only[seval,EMH,ah,w_eq,sz_3,al,spD]
 refine mU e (.region λe h=>?_) h
 simp only[seval,EMH,al,spD]
 cases h
 simp only[seval,FMH,al,spD,Tryz.results14,qr31]
 intro v1 qd32
 refine .sR λe h=>?_
 simp only[seval,EMH,qd32,al,spD]
 refine mU e (.seqK (.condF rfl (.exit λe h=>?_))) h
 cases h
 simp only[seval,FMH,al,spD,Tryz.results14]
 intro v2
 refine Mir.toK (.sR λe h=>?_)
 simp only[seval,EMH,al,spD]
 refine mU e (.frz 0 rfl ?_) h
 simp only[seval,us_0,us_s,xCA,xNA,and_self,and_true,true_and,and_false,false_and,SZ]
 refine .ret λe h=>?_
 cases h
 simp only[seval,FMH,al,spD,Tryz.results14]
def cy_Block(a0:ak)(a1:aG):Option (ac×Int):=bindO (fe a0) λ(y1:Int)=>if (y1 != 0)=true then some (ac.mk false [] [],y1)else bindO (bindO (eO a1.X) λ(y2:Bool)=>if y2=true then some true else bindO (eO a1.Y) λ(y3:Bool)=>some y3) λ(v1:Bool)=>if v1=true then some (ac.mk false [] [],11)else bindO (if a0.High=true then some 98000 else some 99000) λ(v2:Int)=>if (a0.Code==83000)=true then some (ac.mk false [ay.mk 71 v2,ay.mk 71 a0.Code,ay.mk 88 a1.X,ay.mk 89 a1.Y,ay.mk 82 a0.R,ay.mk 90 a0.Z,ay.mk 81 a0.Q,ay.mk 70 a0.Rate] [],0)else some (ac.mk false [ay.mk 71 v2,ay.mk 71 a0.Code,ay.mk 88 a1.X,ay.mk 89 a1.Y,ay.mk 82 a0.R,ay.mk 90 a0.Z,ay.mk 70 a0.Rate] [],0)
theorem cy_Block_spec{a0:ak}{a1:aG}{y:ac×Int}(h:cy_Block a0 a1=some y):Spec gP 29 [.agg (cC a0),.agg (cK a1)] (.tuple [.agg [.d (.bool y.1.Skip),.d (.list (zA ar y.1.Words)),.d (.str y.1.Comment)],.d (.int .i64 y.2)]):=by
 refine aB Tryz.func29 rfl (by kernel_rfl) (by kernel_rfl) (λy:ac×Int=>.tuple [.agg [.d (.bool y.1.Skip),.d (.list (zA ar y.1.Words)),.d (.str y.1.Comment)],.d (.int .i64 y.2)]) ?_ h
 unfold cy_Block
 simp only[zD,zE,nS,nA,Tryz.ntmps29,SV]
 refine .sR λe h=>?_
 simp only[seval,EMH,aC]
 refine mU e (.seqK (.seqK (.bind λy1 hy1=>.region λe h=>?_))) h
 simp only[seval,EMH,ag_86,sz_86]
 refine SpecS.by (fZ hy1) (by simp only[seval,FMH]) ?_
 simp only[seval,EMH]
 refine mU e (.sR λe h=>?_) h
 simp only[seval,EMH]
 refine mU e (.cond rfl (λhb3=>?_) (λhb3=>?_)) h
 refine .sR λe h=>?_
 simp only[seval,EMH,aC,pl_58,sz_58]
 refine mU e (.ret λe h=>?_) h
 cases h
 simp only[seval,FMH,Tryz.results29,ag_58,sz_58]
 refine .skip (Mir.toK (.seqK (.seqK (Mir.joinO (λv1:Bool=>([U,U,.ptr 0 0,.ptr 1 0,.ptr 2 0,U,U,U,U,U,U,U,U,U,U,U,U,U,U,U,U,U,.d (.bool v1)]++us 37)) (λv1=>⟨[(cC a0),(cK a1),[.d (.bool false),.nil,.d (.str [])]],[]⟩) (λ_=>rfl) ?_ ?_))))
 refine .bind λy2 hy4=>.ite (λhb5=>?_) (λhb5=>?_)
 refine .region λe h=>?_
 simp only[seval,EMH,bE,sz_2,ag_2,hb5]
 refine SpecS.by (be hy4) (by simp only[seval,FMH,hb5]) ?_
 simp only[seval,EMH,hb5]
 cases h
 simp only[seval,FMH,hb5]
 refine .bind λy3 hy6=>.region λe h=>?_
 simp only[seval,EMH,bE,sz_2,ag_2,hb5]
 refine SpecS.by (be hy4) (by simp only[seval,FMH,hb5]) ?_
 simp only[seval,EMH,ca,sz_2,ag_2,hb5]
 refine SpecS.by (be hy6) (by simp only[seval,FMH,hb5]) ?_
 simp only[seval,EMH,hb5]
 cases h
 simp only[seval,FMH,hb5]
 intro v1
 refine Mir.toK (.cond rfl (λhb8=>?_) (λhb8=>?_))
 refine .sR λe h=>?_
 simp only[seval,EMH,aC,pl_58,sz_58]
 refine mU e (.ret λe h=>?_) h
 cases h
 simp only[seval,FMH,Tryz.results29,ag_58,sz_58]
 refine .skip (Mir.toK (.sR λe h=>?_))
 simp only[seval,EMH]
 refine mU e (.seqK (.sR λe h=>?_)) h
 simp only[seval,EMH,fld_86_6,sz_4,ag_4]
 refine mU e (Mir.joinO (λv2:Int=>([U,U,.ptr 0 0,.ptr 1 0,.ptr 2 0,U,U,.d (.int .i64 v2)]++us 52)) (λv2=>⟨[(cC a0),(cK a1),[.d (.bool false),.nil,.d (.str [])]],[]⟩) (λ_=>rfl) ?_ ?_) h
 refine .cond rfl (λhb10=>?_) (λhb10=>?_)
 refine .region λe h=>?_
 simp only[seval,EMH]
 cases h
 simp only[seval,FMH,Tryz.results29,ag_58,sz_58]
 refine .skip λe h=>?_
 cases h
 simp only[seval,FMH,Tryz.results29,ag_58,sz_58]
 intro v2
 refine Mir.toK (.sR λe h=>?_)
 simp only[seval,EMH,bk,jO,dc,sz_2,ag_2,bE,ca,bF,bS,br,bP,(oL 12)]
 refine mU e (.seqK (.sR λe h=>?_)) h
 simp only[seval,EMH,dc,sz_2,ag_2]
 refine mU e (.cond rfl (λhb11=>?_) (λhb11=>?_)) h
 refine .region λe h=>?_
 simp only[seval,EMH,jc,sz_2,ag_2,bk,jO,br,bP,(oL 2),app_56,dQ,(oL 7)]
 refine mU e (.sR λe h=>?_) h
 simp only[seval,EMH,d5,sz_2,ag_2,bk,jO,br,bP,(oL 2),app_56,dQ,(oL 8),aC,pl_58,sz_58]
 refine mU e (.ret λe h=>?_) h
 cases h
 simp only[seval,FMH,Tryz.results29,ag_58,sz_58]
 refine .skip (Mir.toK (.sR λe h=>?_))
 simp only[seval,EMH,d5,sz_2,ag_2,bk,jO,br,bP,(oL 2),app_56,dQ,(oL 7),aC,pl_58,sz_58]
 refine mU e (.ret λe h=>?_) h
 cases h
 simp only[seval,FMH,Tryz.results29,ag_58,sz_58]
def bj(a0:(List ao))(a1:(List ao)):Option Bool:=if ((a0.length:Int) != (a1.length:Int))=true then some false else bindX (aF (okIdx a0) ( aU (λ(i1:Nat) (e1:ao) (v1:Unit)=>bindO (gt a1 (i1:Int)) λ(e2:ao)=>if (!((e1.From.X==e2.From.X)&&((e1.From.Y==e2.From.Y)&&((e1.From.Z==e2.From.Z)&&((e1.To.X==e2.To.X)&&((e1.To.Y==e2.To.Y)&&((e1.To.Z==e2.To.Z)&&((e1.Rate==e2.Rate)&&((e1.Tool==e2.Tool)&&(e1.Block==e2.Block))))))))))=true then some (.ret (.ret false))else some (.go ())) (λ(v1:Unit)=>some (.go ())) a0 0 ())) λ(v2:Unit)=>some true
theorem dx{a0:(List ao)}{a1:(List ao)}{y:Bool}(h:bj a0 a1=some y):Spec gP 13 [.d (.list (zA aI a0)),.d (.list (zA aI a1))] (.d (.bool y)):=by
 refine aB Tryz.func13 rfl (by kernel_rfl) (by kernel_rfl) (λy:Bool=>.d (.bool y)) ?_ h
 unfold bj
 simp only[zD,zE,nS,nA,Tryz.ntmps13,SV]
 refine .sR λe h=>?_
 simp only[seval,EMH]
 refine mU e (.seqK (.sR λe h=>?_)) h
 simp only[seval,EMH,cW]
 refine mU e (.cond rfl (λhb2=>?_) (λhb2=>?_)) h
 refine .sR λe h=>?_
 simp only[seval,EMH]
 refine mU e (.ret λe h=>?_) h
 cases h
 simp only[seval,FMH,Tryz.results13]
 refine .skip (Mir.toK (.seqK (.sR λe h=>?_)))
 simp only[seval,EMH,cW]
 refine mU e (Mir.join (λv2:Unit=>(us 26)) (λv2=>⟨[],[]⟩) (λ_=>rfl) ?_ ?_) h
 refine .block (.guard λqg67=>Mir.range (λ(i1:Nat) (v1:Unit)=>([.d (.list (zA aI a0)),.d (.list (zA aI a1)),U,U,U,U,U,U,U,U,U,U,.d (.int .i64 (a0.length:Int)),.d (.int .i64 (i1:Int))]++us 12)) (λi1 v1=>⟨[],[]⟩) qg67 (λ_ _=>rfl) (by simp only[seval,FMH,zNI]) (by simp only[seval,FMH,zNI]) ?_ ?_)
 intro i1 e1 v1 qr65
 refine .sR λe h=>?_
 simp only[seval,EMH,qr65]
 refine mU e (.seqK (.condT rfl (.skip (Mir.toK (.seqK (.block (.sR λe h=>?_))))))) h
 simp only[seval,EMH]
 refine mU e (.seqK (.bind λe2 q70=>?_)) h
 replace q70:=gt_ok q70
 simp only[Int.toNat_natCast]at q70
 refine .regionD [] (by kernel_rfl) λe h=>?_
 simp only[seval,EMH,SB,cW,sz_47,qr65,Int.toNat_natCast,ag_47,q70,gE_47]
 refine mU e (.cond rfl (λhb72=>?_) (λhb72=>?_)) h
 refine .sR λe h=>?_
 simp only[seval,EMH]
 refine mU e (.ret λe h=>?_) h
 cases h
 simp only[seval,FMH,Tryz.results13]
 refine .skip (Mir.toB (Mir.toK (.region λe h=>?_)))
 simp only[seval,EMH]
 cases h
 simp only[seval,FMH,Tryz.results13,qr65]
 intro v1 qd66
 refine .sR λe h=>?_
 simp only[seval,EMH,qd66]
 refine mU e (.seqK (.condF rfl (.exit λe h=>?_))) h
 cases h
 simp only[seval,FMH,Tryz.results13]
 intro v2
 refine Mir.toK (.sR λe h=>?_)
 simp only[seval,EMH]
 refine mU e (.ret λe h=>?_) h
 cases h
 simp only[seval,FMH,Tryz.results13]
end Go.Proofs.YtplhejpjnfjopaaGreatDoor
