/-
  Pa2, Pa3, Pa4, Pa5, Pa1 in one text.
-/
import Derived.Test.YtgbafiejgciilaaGreatDoorIall
import Derived.Test.YtgbafiejgciilaaGreatDoorMLTopProbed
import Derived.Test.YtgbafiejgciilaaGreatDoorKall
import Derived.Test.YtgbafiejgciilaaGreatDoorMwe
open List renaming not_mem_nil → zA,mem_cons → zB,map_cons → zE
open Bool renaming false_eq_true → zD
open Go.IntKind renaming i64 → zF
namespace Go.Proofs.YtgbafiejgciilaaGreatDoor
open Go.RowKit
set_option linter.unusedVariables false
set_option linter.unusedSimpArgs false
def nearI(z:Int):Prop:=-100000000≤z∧z≤100000000
theorem nearI.bd{z:Int}(h:nearI z):Bd 1 z:=by
 unfold Bd
 have:pw 1=1000000000:=rfl
 rw[this]
 obtain⟨h1,h2⟩:=h
 omega
theorem one_bd:Bd 1 (1:Int):=by
 unfold Bd
 have:pw 1=1000000000:=rfl
 rw[this];decide
theorem nearI.bq{z:Int}(h:nearI z):BQ 1 (z:Rat):=⟨by simpa using h.bd,by simpa using one_bd⟩
theorem fR{z:Int}(h:nearI z):bn z=some (ofQ (z:Rat)):=by
 obtain⟨h1,h2⟩:=h
 unfold bn ra_whole
 rw[b9 (by omega) (by omega),ae,ra_unit_eq,ae,ae,ofQ_int]
theorem ra_Sub_eq{a b:Rat}{n m:Nat}(ha:BQ n a)(hb:BQ m b)(hn:n+m≤90000):ra_Sub (ofQ a) (ofQ b)=some (ofQ (a-b)):=by
 unfold ra_Sub
 rw[ra_Neg_eq hb (by omega),ae,ra_Add_eq (b:=-b) ha ⟨by simpa using hb.1.neg,by simpa using hb.2⟩ hn,ae,Rat.sub_eq_add_neg]
theorem ra_Cmp_int{a b:Int}(ha:nearI a)(hb:nearI b):∃y,ra_Cmp (ofQ (a:Rat)) (ofQ (b:Rat))=some y∧(0≤y↔b≤a):=by
 unfold ra_Cmp
 rw[ra_Sign_eq,ae,ra_Sign_eq,ae]
 simp only[Rat.num_intCast,Rat.den_intCast]
 have key:du (sg a) (sg b)=some (if sg a<sg b then -1 else if sg a>sg b then 1 else 0):=by
  unfold du eL
  simp only[bne_self_eq_false,ae,zD,if_false,decide_eq_true_eq]
  repeat' split
  all_goals first | rfl | omega
 rw[key,ae,ofQ_int,ofQ_int]
 have hs:∀z:Int,sg z=if z<0 then -1 else if z=0 then 0 else 1:=λz=>by
  unfold sg;repeat' split
  all_goals omega
 by_cases h1:sg a<sg b
 ·rw[if_pos h1,if_pos (by simp)]
  refine⟨_,rfl,?_⟩
  rw[hs,hs]at h1
  constructor
  ·intro h;omega
  ·intro h;exfalso;revert h1;repeat' split
   all_goals omega
 ·rw[if_neg h1]
  by_cases h2:sg a>sg b
  ·rw[if_pos h2,if_pos (by simp)]
   refine⟨_,rfl,?_⟩
   rw[hs,hs]at h2
   constructor
   ·intro _;revert h2;repeat' split
    all_goals omega
   ·intro h;omega
  ·rw[if_neg h2,if_neg (by simp)]
   rw[fY ha.bd one_bd (by omega) (by omega),ae,fY hb.bd one_bd (by omega) (by omega),ae,Int.mul_one,Int.mul_one,ig ha.bd hb.bd (by omega) (by omega),ae]
   refine⟨_,rfl,?_⟩
   rw[hs]
   repeat' split
   all_goals omega
theorem gQ{z:Int}(h:nearI z):iR (ofI z)=some (z,true):=by
 have hb:=h.bd
 obtain⟨h1,h2⟩:=h
 have bl:Bd 3 (-9223372036854775808):=by unfold Bd;have:pw 3=1000000000000000000000000000:=rfl;rw[this];decide
 have bu:Bd 3 9223372036854775807:=by unfold Bd;have:pw 3=1000000000000000000000000000:=rfl;rw[this];decide
 have hs:∀z:Int,sg z=if z<0 then -1 else if z=0 then 0 else 1:=λz=>by
  unfold sg;repeat' split
  all_goals omega
 unfold iR
 rw[b9 (by omega) (by omega),ae,ig hb bl (by omega) (by omega),ae]
 rw[if_neg (by rw[hs];simp;repeat' split;all_goals omega)]
 rw[b9 (by omega) (by omega),ae,ig hb bu (by omega) (by omega),ae,ae]
 rw[if_neg (by rw[hs];simp;repeat' split;all_goals omega)]
 by_cases z0:z=0
 ·subst z0
  rfl
 ·have hl:(ofI z).Limbs=[(z.natAbs:Int)]:=by
   unfold ofI
   exact toL_small (by omega) (by omega)
  have hn:(ofI z).Neg=decide (z<0):=rfl
  rw[hl,hn]
  have key:∀(g:Int×Int→Option (Ex Int (Int×Int))) (u:Int),g (0,0)=some (.go (u,-1))→g (u,-1)=some (.ret u)→loopX g fuel (0,0)=some u:=by
   intro g u e1 e2
   obtain⟨f,hf⟩:∃f,fuel=f+1+1:=⟨fuel-2,by unfold fuel;omega⟩
   rw[hf]
   unfold loopX
   rw[e1]
   dsimp only
   unfold loopX
   rw[e2]
  have hz:zF.wrap ((([(z.natAbs:Int)]:List Int).length:Int)-1)=0:=rfl
  rw[hz,key _ (z.natAbs:Int) (by
   dsimp only
   rw[if_pos (by decide)]
   show bindO (gt [(z.natAbs:Int)] 0) _=_
   rw[show gt [(z.natAbs:Int)] 0=some (z.natAbs:Int) from rfl,ae,show IntKind.u64.wrap ((0:Int)*1000000000)=0 from rfl,Int.zero_add,IntKind.wrap_u64,show zF.wrap ((0:Int)-1)=-1 from rfl]
   simp only[IntKind.wrap_u64]
   congr 3
   omega) (by dsimp only;rw[if_neg (by simp)]),ae]
  by_cases hneg:z<0
  ·rw[if_pos (by simpa using hneg),ae]
   simp only[IntKind.wrap_u64]
   congr 2
   rw[IntKind.wrap_i64]
   omega
  ·rw[if_neg (by simpa using hneg),ae]
   congr 2
   rw[IntKind.wrap_i64]
   omega
theorem bo{n:Int}(h:-9223372036854775808≤n)(h2:n≤9223372036854775807):zF.wrap n=n:=by rw[IntKind.wrap_i64];omega
theorem eR{a s r:Int}(ha:0≤a∧a≤2)(hs:s=1∨s=-1)(hr:1≤r∧r≤10000000):cn a s r=some 0:=by
 unfold cn
 rw[if_neg]
 rcases hs with rfl | rfl<;>simp<;>omega
def near7(n:Int):Prop:=-10000000≤n∧n≤10000000
theorem in_ok{n:Int}(h:near7 n):pb_in n=some true:=by
 unfold pb_in
 obtain⟨h1,h2⟩:=h
 simp;omega
theorem jB{p:aa}(hx:near7 p.X)(hy:near7 p.Y)(hz:near7 p.Z):eE p=some true:=by
 unfold eE
 rw[in_ok hx,ae,if_pos rfl,in_ok hy,ae,if_pos rfl,in_ok hz,ae,ae]
theorem touch_core{β:Type}{s X W r:Int}(hs:s=1∨s=-1)(hX:near7 X)(hW:near7 W)(hr:0≤r∧r≤1000)(h1:s*X<s*W-r)(h2:s*W-r-s*X≤20000)(hE:near7 (s*W-r))(K0:Option β)(K:aq→Option β)(Kn:Option β) :
  (bindO (bn s) λ(y3:aH) =>
   bindO (some ()) λ(v1:Unit) =>
   bindO (ra_Mul y3 (ofQ (W:Rat))) λ(y4:aH) =>
   bindO (some r) λ(y5:Int) =>
   bindO (bn y5) λ(y6:aH) =>
   bindO (ra_Sub y4 y6) λ(y7:aH) =>
   bindO (bn (zF.wrap (s*X))) λ(y8:aH) =>
   bindO (ra_Cmp y8 y7) λ(y9:Int) =>
   if (decide (y9≥0))=true then K0
   else
    bindO (ra_Neg y7) λ(y10:aH) =>
    bindO (gv y10) λ(y11:aq) =>
    bindO (jd y11) λ(y12:aq) =>
    bindO (bf (zF.wrap (s*X))) λ(y13:aq) =>
    bindO (it_Sub y12 y13) λ(y14:aq) =>
    bindO (bf 20000) λ(y15:aq) =>
    bindO (gC y14 y15) λ(y16:Int) =>
    if (decide (y16>0))=true then Kn else K y12)=K (ofI (s*W-r)):=by
 have nS:nearI s:=by rcases hs with rfl | rfl<;>exact⟨by omega,by omega⟩
 have nW:nearI W:=⟨by have:=hW.1;omega,by have:=hW.2;omega⟩
 have nR:nearI r:=⟨by omega,by omega⟩
 have eX:near7 (s*X):=by rcases hs with rfl | rfl<;>(obtain⟨a,b⟩:=hX;exact⟨by omega,by omega⟩)
 have nX:nearI (s*X):=⟨by have:=eX.1;omega,by have:=eX.2;omega⟩
 have nE:nearI (s*W-r):=⟨by have:=hE.1;omega,by have:=hE.2;omega⟩
 have nP:nearI (s*W):=by rcases hs with rfl | rfl<;>(obtain⟨a,b⟩:=hW;exact⟨by omega,by omega⟩)
 have w1:zF.wrap (s*X)=s*X:=bo (by have:=eX.1;omega) (by have:=eX.2;omega)
 have c1:((s:Rat)*(W:Rat))=((s*W:Int):Rat):=by rw[Rat.intCast_mul]
 have c2:(((s*W:Int):Rat)-(r:Rat))=((s*W-r:Int):Rat):=by rw[Rat.intCast_sub]
 have c3:-((s*W-r:Int):Rat)=((-(s*W-r):Int):Rat):=by rw[Rat.intCast_neg]
 obtain⟨y,e1,e2⟩:=ra_Cmp_int nX nE
 have nN:nearI (-(s*W-r)):=⟨by have:=nE.2;omega,by have:=nE.1;omega⟩
 rw[fR nS,ae,ae,ra_Mul_eq nS.bq nW.bq (by omega),ae,c1,ae,fR nR,ae,ra_Sub_eq nP.bq nR.bq (by omega),ae,c2,w1,fR nX,ae,e1,ae]
 rw[if_neg (by simp;omega),ra_Neg_eq nE.bq (by omega),ae,c3,ra_Floor_eq nN.bq (by omega),ae,Rat.floor_intCast,it_Neg_eq nN.bd (by omega),ae,Int.neg_neg]
 rw[b9 (by have:=nX.1;omega) (by have:=nX.2;omega),ae,it_Sub_eq nE.bd nX.bd (by omega) (by omega),ae,b9 (by omega) (by omega),ae]
 have b20:Bd 1 20000:=by unfold Bd;have:pw 1=1000000000:=rfl;rw[this];decide
 have nD:nearI (s*W-r-s*X):=⟨by omega,by omega⟩
 rw[ig nD.bd b20 (by omega) (by omega),ae,if_neg]
 have:¬sg (s*W-r-s*X-20000)>0:=by unfold sg;repeat' split;all_goals omega
 simpa using this
section
variable {s X Y Z W r : Int} (hs : s = 1 ∨ s = -1) (hX : near7 X) (hY : near7 Y) (hZ : near7 Z) (hW : near7 W) (hr : 1 ≤ r ∧ r ≤ 1000)
include hs hX hY hZ hW hr
theorem touch0(h1:s*X<s*W-r)(h2:s*W-r-s*X≤20000)(hE:near7 (s*W-r)):fU ⟨X,Y,Z⟩ s (ofQ (W:Rat)) r 20000=some (⟨s*(s*W-r),Y,Z⟩,0):=by
 unfold fU
 rw[eR (by omega) hs (by omega),ae,if_neg (by simp),jB (p:=⟨X,Y,Z⟩) hX hY hZ,ae,if_neg (by simp)]
 rw[show d6 0 r=some r from rfl]
 rw[touch_core hs hX hW (by omega) h1 h2 hE,gQ ⟨by have:=hE.1;omega,by have:=hE.2;omega⟩,ae]
 dsimp only
 rw[if_pos rfl,in_ok hE,ae,ae,if_neg (by simp),bo (by rcases hs with rfl | rfl<;>(obtain⟨a,b⟩:=hE;omega)) (by rcases hs with rfl | rfl<;>(obtain⟨a,b⟩:=hE;omega))]
theorem touch1(h1:s*Y<s*W-r)(h2:s*W-r-s*Y≤20000)(hE:near7 (s*W-r)):fT ⟨X,Y,Z⟩ s (ofQ (W:Rat)) r 20000=some (⟨X,s*(s*W-r),Z⟩,0):=by
 unfold fT
 rw[eR (by omega) hs (by omega),ae,if_neg (by simp),jB (p:=⟨X,Y,Z⟩) hX hY hZ,ae,if_neg (by simp)]
 rw[show d6 1 r=some r from rfl]
 rw[touch_core hs hY hW (by omega) h1 h2 hE,gQ ⟨by have:=hE.1;omega,by have:=hE.2;omega⟩,ae]
 dsimp only
 rw[if_pos rfl,in_ok hE,ae,ae,if_neg (by simp),bo (by rcases hs with rfl | rfl<;>(obtain⟨a,b⟩:=hE;omega)) (by rcases hs with rfl | rfl<;>(obtain⟨a,b⟩:=hE;omega))]
theorem touch2(h1:s*Z<s*W-0)(h2:s*W-0-s*Z≤20000)(hE:near7 (s*W-0)):fS ⟨X,Y,Z⟩ s (ofQ (W:Rat)) r 20000=some (⟨X,Y,s*(s*W-0)⟩,0):=by
 unfold fS
 rw[eR (by omega) hs (by omega),ae,if_neg (by simp),jB (p:=⟨X,Y,Z⟩) hX hY hZ,ae,if_neg (by simp)]
 rw[show d6 2 r=some 0 from rfl]
 rw[touch_core hs hZ hW (by omega) h1 h2 hE,gQ ⟨by have:=hE.1;omega,by have:=hE.2;omega⟩,ae]
 dsimp only
 rw[if_pos rfl,in_ok hE,ae,ae,if_neg (by simp),bo (by rcases hs with rfl | rfl<;>(obtain⟨a,b⟩:=hE;omega)) (by rcases hs with rfl | rfl<;>(obtain⟨a,b⟩:=hE;omega))]
end
theorem wall0{p:aa}{s r:Int}(hs:s=1∨s=-1)(hr:1≤r∧r≤1000)(hx:near7 p.X)(hy:near7 p.Y)(hz:near7 p.Z)(h:near7 (p.X+s*r)):g8 p s r=some (p.X+s*r,0):=by
 unfold g8
 have e1:zF.wrap (s*r)=s*r:=by rcases hs with rfl | rfl<;>exact bo (by omega) (by omega)
 have e2:zF.wrap (p.X+s*r)=p.X+s*r:=bo (by have:=h.1;omega) (by have:=h.2;omega)
 rw[eR (by omega) hs (by omega),ae,if_neg (by simp),jB (p:=⟨p.X,p.Y,p.Z⟩) hx hy hz,ae,if_neg (by simp),ae,show d6 0 r=some r from rfl,ae,e1,e2,in_ok h,ae,if_neg (by simp)]
theorem wall1{p:aa}{s r:Int}(hs:s=1∨s=-1)(hr:1≤r∧r≤1000)(hx:near7 p.X)(hy:near7 p.Y)(hz:near7 p.Z)(h:near7 (p.Y+s*r)):g7 p s r=some (p.Y+s*r,0):=by
 unfold g7
 have e1:zF.wrap (s*r)=s*r:=by rcases hs with rfl | rfl<;>exact bo (by omega) (by omega)
 have e2:zF.wrap (p.Y+s*r)=p.Y+s*r:=bo (by have:=h.1;omega) (by have:=h.2;omega)
 rw[eR (by omega) hs (by omega),ae,if_neg (by simp),jB (p:=⟨p.X,p.Y,p.Z⟩) hx hy hz,ae,if_neg (by simp),ae,show d6 1 r=some r from rfl,ae,e1,e2,in_ok h,ae,if_neg (by simp)]
theorem corner_ok{x y:aa}{r a b:Int}(hr:1≤r∧r≤1000)(hx:near7 x.X∧near7 x.Y∧near7 x.Z)(hy:near7 y.X∧near7 y.Y∧near7 y.Z)(h1:x.X+1*r=a)(h2:y.Y + -1*r=b)(ha:near7 a)(hb:near7 b):ju x y 1 (-1) r=some (⟨a,b⟩,0):=by
 subst h1 h2
 unfold ju
 rw[eR (by omega) (.inl rfl) (by omega),ae,if_neg (by simp),eR (by omega) (.inr rfl) (by omega),ae,ae,if_neg (by simp)]
 rw[wall0 (.inl rfl) hr hx.1 hx.2.1 hx.2.2 ha,ae,wall1 (.inr rfl) hr hy.1 hy.2.1 hy.2.2 hb,ae,if_neg (by simp)]
def getE(W:aZ):Nat→aa
 | 0=>W.e0
 | 1=>W.e1
 | 2=>W.e2
 | 3=>W.e3
 | 4=>W.e4
 | _=>W.e5
def setE(W:aZ)(p:aa):Nat→aZ
 | 0=>⟨p,W.e1,W.e2,W.e3,W.e4,W.e5⟩
 | 1=>⟨W.e0,p,W.e2,W.e3,W.e4,W.e5⟩
 | 2=>⟨W.e0,W.e1,p,W.e3,W.e4,W.e5⟩
 | 3=>⟨W.e0,W.e1,W.e2,p,W.e4,W.e5⟩
 | 4=>⟨W.e0,W.e1,W.e2,W.e3,p,W.e5⟩
 | _=>⟨W.e0,W.e1,W.e2,W.e3,W.e4,p⟩
theorem six{i:Nat}(h:i<6):i=0∨i=1∨i=2∨i=3∨i=4∨i=5:=by omega
theorem get_set(W:aZ)(p:aa){i:Nat}(h:i<6):getE (setE W p i) i=p:=by
 rcases six h with rfl | rfl | rfl | rfl | rfl | rfl<;>rfl
theorem slot_ok{i:Nat}(h:i<6):kL (54000+1000*(i:Int))=some ((i:Int),0):=by
 rcases six h with rfl | rfl | rfl | rfl | rfl | rfl<;>rfl
theorem valid_in{t:al}(hl:t.Lengths.length≤1000)(hv:br t=some 0):inR t.Work.e0∧inR t.Work.e1∧inR t.Work.e2∧inR t.Work.e3∧inR t.Work.e4∧inR t.Work.e5:=by
 obtain⟨e,h1,h2,h3⟩:=eZ t hl
 rw[hv]at h1;injection h1 with h1
 exact (h3 h1.symm).1
theorem get_in{t:al}(hl:t.Lengths.length≤1000)(hv:br t=some 0){i:Nat}(h:i<6):inR (getE t.Work i):=by
 obtain⟨a,b,c,d,e,f⟩:=valid_in hl hv
 rcases six h with rfl | rfl | rfl | rfl | rfl | rfl<;>assumption
theorem valid_set{t:al}(hl:t.Lengths.length≤1000)(hv:br t=some 0){i:Nat}(hi:i<6){p:aa}(hp:inR p):br ⟨setE t.Work p i,t.Lengths⟩=some 0:=by
 obtain⟨a,b,c,d,e,f⟩:=valid_in hl hv
 rw[←hv]
 unfold br
 simp only[ex,ae]
 rcases six hi with rfl | rfl | rfl | rfl | rfl | rfl<;>simp[setE,a,b,c,d,e,f,hp]
theorem setwork_ok{t:al}(hl:t.Lengths.length≤1000)(hv:br t=some 0){i:Nat}(hi:i<6){p:aa}(hp:inR p):fJ t (54000+1000*(i:Int)) p=some (⟨setE t.Work p i,t.Lengths⟩,0):=by
 unfold fJ
 rw[hv,ae,if_neg (by simp),slot_ok hi,ae,if_neg (by simp),ex,ae,if_neg (by simp[hp])]
 unfold tb_clone bs
 rw[bF (by omega),bB,ae,ae]
 rcases six hi with rfl | rfl | rfl | rfl | rfl | rfl<;>rfl
theorem offset_ok(t:al){i:Nat}(hi:i<6):jt t (54000+1000*(i:Int))=some (getE t.Work i,0):=by
 rcases six hi with rfl | rfl | rfl | rfl | rfl | rfl<;>rfl
theorem correct_ok{t:al}(hl:t.Lengths.length≤1000)(hv:br t=some 0){i:Nat}(hi:i<6){cx cy mx my:Int}(h1:near7 cx)(h2:near7 cy)(h3:near7 mx)(h4:near7 my)
  (hq:inR ⟨(getE t.Work i).X+(mx-cx),(getE t.Work i).Y+(my-cy),(getE t.Work i).Z⟩) :
  ia t (54000+1000*(i:Int)) ⟨cx,cy⟩ ⟨mx,my⟩=some (⟨setE t.Work ⟨(getE t.Work i).X+(mx-cx),(getE t.Work i).Y+(my-cy),(getE t.Work i).Z⟩ i,t.Lengths⟩,0):=by
 have hg:=get_in hl hv hi
 obtain⟨gx,gy,gz⟩:=hg
 have w1:zF.wrap (mx-cx)=mx-cx:=bo (by have:=h1;have:=h3;unfold near7 at *;omega) (by have:=h1;have:=h3;unfold near7 at *;omega)
 have w2:zF.wrap (my-cy)=my-cy:=bo (by have:=h2;have:=h4;unfold near7 at *;omega) (by have:=h2;have:=h4;unfold near7 at *;omega)
 have w3:zF.wrap ((getE t.Work i).X+(mx-cx))=(getE t.Work i).X+(mx-cx):=bo (by unfold near7 at *;omega) (by unfold near7 at *;omega)
 have w4:zF.wrap ((getE t.Work i).Y+(my-cy))=(getE t.Work i).Y+(my-cy):=bo (by unfold near7 at *;omega) (by unfold near7 at *;omega)
 unfold ia
 rw[hv,ae,if_neg (by simp),in_ok h1,ae,if_pos rfl,in_ok h2,ae,if_pos rfl,in_ok h3,ae,if_pos rfl,in_ok h4,ae,ae,if_neg (by simp),offset_ok t hi,ae,if_neg (by simp)]
 dsimp only
 rw[w1,w2,w3,w4,setwork_ok hl hv hi hq,ae]
theorem surface_ok{t:al}(hl:t.Lengths.length≤1000)(hv:br t=some 0){i:Nat}(hi:i<6){z:Int}(h1:near7 z) :
  g9 t (54000+1000*(i:Int)) z=some (⟨setE t.Work ⟨(getE t.Work i).X,(getE t.Work i).Y,z⟩ i,t.Lengths⟩,0):=by
 obtain⟨gx,gy,gz⟩:=get_in hl hv hi
 unfold g9
 rw[hv,ae,in_ok h1,ae,if_neg (by simp)]
 rw[if_neg (by simp),offset_ok t hi,ae,if_neg (by simp)]
 dsimp only
 rw[setwork_ok (p:=⟨(getE t.Work i).X,(getE t.Work i).Y,z⟩) hl hv hi ⟨gx,gy,by unfold near7 at h1;simpa using h1⟩,ae]
theorem table51_eq(t:cY)(hl:t.Lengths.length≤1000):fO t=some (dk t):=by
 unfold fO
 rw[map_loop (λx:cu=>aG.mk x.Number x.Length) _ (by omega),ae]
 rfl
def sml(p:aa):Prop:=(-3000000≤p.X∧p.X≤3000000)∧(-3000000≤p.Y∧p.Y≤3000000)∧(-3000000≤p.Z∧p.Z≤3000000)
def plusP(q o:aa):aa:=⟨q.X+o.X,q.Y+o.Y,q.Z+o.Z⟩
def lessP(q o:aa):aa:=⟨q.X-o.X,q.Y-o.Y,q.Z-o.Z⟩
def codeW(i:Nat):Int:=54000+1000*(i:Int)
section
variable {t : al} (hl : t.Lengths.length ≤ 1000) (hv : br t = some 0) {i : Nat} (hi : i < 6)
include hl hv hi
theorem off51:eY t (codeW i) 0=some (getE t.Work i,0):=by
  obtain⟨gx,gy,gz⟩:=get_in hl hv hi
  unfold eY codeW
  rw[hv,ae,if_neg (by simp),slot_ok hi,ae]
  have e0:gV ⟨t.Work,t.Lengths⟩ 0=some (0,0):=rfl
  rw[e0,ae,if_neg (by simp)]
  have key : (aB (decide (0 ≤ ((i : Int), (0 : Int)).1 ∧ ((i : Int), (0 : Int)).1 < 6)) (
          if (((i:Int),(0:Int)).1==0)=true then some t.Work.e0 else if (((i:Int),(0:Int)).1==1)=true then some t.Work.e1 else if (((i:Int),(0:Int)).1==2)=true then some t.Work.e2 else if (((i:Int),(0:Int)).1==3)=true then some t.Work.e3 else if (((i:Int),(0:Int)).1==4)=true then some t.Work.e4 else some t.Work.e5))=some (getE t.Work i):=by
    rcases six hi with rfl | rfl | rfl | rfl | rfl | rfl<;>rfl
  rw[key,ae,bo (by omega) (by omega),Int.add_zero]
theorem mach51{q:aa}(hq:sml q)(ho:sml (getE t.Work i)):machV t (codeW i) 0 q=(plusP q (getE t.Work i),0):=by
 have h0:=machV_eq hl (codeW i) 0 q
 have:dw t (codeW i) 0 q=some (plusP q (getE t.Work i),0):=by
  unfold dw
  rw[off51 hl hv hi,ae]
  simp only[bne_self_eq_false,zD,if_false]
  generalize getE t.Work i=d at ho
  unfold sml at hq ho
  have e1:zF.wrap (q.X+zF.wrap (1*d.X))=q.X+d.X:=by rw[bo (n:=1*d.X) (by omega) (by omega),bo (by omega) (by omega)];omega
  have e2:zF.wrap (q.Y+zF.wrap (1*d.Y))=q.Y+d.Y:=by rw[bo (n:=1*d.Y) (by omega) (by omega),bo (by omega) (by omega)];omega
  have e3:zF.wrap (q.Z+zF.wrap (1*d.Z))=q.Z+d.Z:=by rw[bo (n:=1*d.Z) (by omega) (by omega),bo (by omega) (by omega)];omega
  unfold gq
  rw[e1,e2,e3,ex,ex,decide_eq_true (show inR q by unfold inR;omega),decide_eq_true (show inR ⟨q.X+d.X,q.Y+d.Y,q.Z+d.Z⟩ by unfold inR;dsimp only;omega)]
  rfl
 rw[this]at h0
 injection h0 with h0
 exact h0.symm
theorem work51{q:aa}(hq:sml q)(ho:sml (getE t.Work i)):workV t (codeW i) 0 q=(lessP q (getE t.Work i),0):=by
 have h0:=workV_eq hl (codeW i) 0 q
 have:iA t (codeW i) 0 q=some (lessP q (getE t.Work i),0):=by
  unfold iA
  rw[show al.mk t.Work t.Lengths=t from rfl,off51 hl hv hi,ae]
  simp only[bne_self_eq_false,zD,if_false]
  generalize getE t.Work i=d at ho
  unfold sml at hq ho
  have e1:zF.wrap (q.X+zF.wrap (-1*d.X))=q.X-d.X:=by rw[bo (n:=-1*d.X) (by omega) (by omega),bo (by omega) (by omega)];omega
  have e2:zF.wrap (q.Y+zF.wrap (-1*d.Y))=q.Y-d.Y:=by rw[bo (n:=-1*d.Y) (by omega) (by omega),bo (by omega) (by omega)];omega
  have e3:zF.wrap (q.Z+zF.wrap (-1*d.Z))=q.Z-d.Z:=by rw[bo (n:=-1*d.Z) (by omega) (by omega),bo (by omega) (by omega)];omega
  unfold gq
  rw[e1,e2,e3,ex,ex,decide_eq_true (show inR q by unfold inR;omega),decide_eq_true (show inR ⟨q.X-d.X,q.Y-d.Y,q.Z-d.Z⟩ by unfold inR;dsimp only;omega)]
  rfl
 rw[this]at h0
 injection h0 with h0
 exact h0.symm
end
def st51(i:Nat):am:=⟨0,90000,codeW i,49000,98000,0,0,0⟩
def first51(i:Nat):au:=⟨false,[⟨71,codeW i⟩,⟨71,90000⟩],[]⟩
def blk51(w:aa):au:=⟨false,[⟨88,w.X⟩,⟨89,w.Y⟩,⟨90,w.Z⟩],[]⟩
def end51:au:=⟨false,[⟨77,30000⟩],[]⟩
def kz:aa→List aa→List ah
 | _,[]=>[]
 | p,q::l=>(if p=q then []else [⟨p,q,0,0,0⟩])++kz q l
def last51:aa→List aa→aa
 | p,[]=>p
 | _,q::l=>last51 q l
theorem takes_first{i:Nat}(hi:i<6):i9 (first51 i):=by
 refine⟨⟨by simp[first51],by simp[first51],λw hw=>?_,by simp[first51]⟩,?_,?_⟩
 ·simp only[first51,zB,zA,or_false]at hw
  unfold codeW at hw
  rcases hw with rfl | rfl<;>(unfold okW;dsimp only;omega)
 ·rcases six hi with rfl | rfl | rfl | rfl | rfl | rfl<;>decide
 ·rcases six hi with rfl | rfl | rfl | rfl | rfl | rfl<;>decide
theorem takes_blk{w:aa}(h:sml w):i9 (blk51 w):=by
 refine⟨⟨by simp[blk51],by simp[blk51],λx hx=>?_,by simp[blk51]⟩,by rfl,by rfl⟩
 simp only[blk51,zB,zA,or_false]at hx
 unfold sml at h
 rcases hx with rfl | rfl | rfl<;>(unfold okW;dsimp only;omega)
theorem takes_end:i9 end51:=⟨⟨by simp[end51],by simp[end51],λx hx=>by
 simp only[end51,zB,zA,or_false]at hx
 subst hx;unfold okW;dsimp only;omega,by simp[end51]⟩,by rfl,by rfl⟩
theorem step_first{t:al}{i:Nat}(hi:i<6)(p:aa):stepP newS zC (first51 i) t p=([],st51 i,zC,0):=by
 rw[stepP_idle (takes_first hi) (by rfl)]
 have hf:(first51 i).Words.foldl putW newS=st51 i:=by
  rcases six hi with rfl | rfl | rfl | rfl | rfl | rfl<;>decide
 rw[hf];rfl
theorem step_blk{t:al}(hl:t.Lengths.length≤1000)(hv:br t=some 0){i:Nat}(hi:i<6)(ho:sml (getE t.Work i)){w p:aa}(hw:sml w)(hp:sml p) :
  stepP (st51 i) zC (blk51 w) t p=(if p=plusP w (getE t.Work i)then []else [⟨p,plusP w (getE t.Work i),0,0,0⟩],st51 i,zC,0):=by
 have hr:runM t (codeW i) 0 0 0 [⟨w,0⟩] ([],p)=.go (addM (plusP w (getE t.Work i)) 0 0 0 ([],p)):=by
  unfold runM
  rw[mach51 hl hv hi hw ho]
  rfl
 rw[stepP_move (s1:=st51 i) (pw:=lessP p (getE t.Work i)) (fl:=[⟨w,0⟩]) (c1:=zC) (takes_blk hw) (by rfl) (by rfl) (by rfl) (by rfl) (work51 hl hv hi hp ho) (by rfl) hr]
 unfold addM
 dsimp only
 have e:posEq (plusP w (getE t.Work i)) p=decide (p=plusP w (getE t.Work i)):=by
  rw[Bool.eq_iff_iff,posEq_iff,decide_eq_true_eq]
  exact eq_comm
 rw[e]
 by_cases q:p=plusP w (getE t.Work i)
 ·rw[if_pos q,decide_eq_true q];rfl
 ·rw[if_neg q,decide_eq_false q];rfl
theorem step_end{t:al}(i:Nat)(p:aa):stepP (st51 i) zC end51 t p=([],st51 i,zC,0):=by
 rw[stepP_idle takes_end (by rfl)]
 rfl
theorem runs51{t:al}(hl:t.Lengths.length≤1000)(hv:br t=some 0){i:Nat}(hi:i<6)(ho:sml (getE t.Work i)):∀(ws:List aa) (p:aa),(∀w∈ws,sml w∧sml (plusP w (getE t.Work i)))→sml p →
  Runs t (st51 i) zC p (ws.map blk51) (kz p (ws.map λw=>plusP w (getE t.Work i))) (st51 i) zC (last51 p (ws.map λw=>plusP w (getE t.Work i)))
 | [],p,_,_=>.nil
 | w::ws,p,hw,hp=>by
  have h1:=hw w (by simp)
  rw[zE,zE,kz,last51]
  refine .cons (by unfold sml at hp;unfold inR;omega) ⟨λx hx=>?_,by simp[blk51],by simp[blk51]⟩ (step_blk hl hv hi ho h1.1 hp) (by rfl) ?_
  ·simp only[blk51,zB,zA,or_false]at hx
   rcases hx with rfl | rfl | rfl<;>(unfold u8W;dsimp only;omega)
  ·have he:endW p (if p=plusP w (getE t.Work i)then []else [⟨p,plusP w (getE t.Work i),0,0,0⟩])=plusP w (getE t.Work i):=by
    by_cases q:p=plusP w (getE t.Work i)
    ·rw[if_pos q];exact q
    ·rw[if_neg q];rfl
   rw[he]
   exact runs51 hl hv hi ho ws _ (λx hx=>hw x (by simp[hx])) h1.2
theorem movs_len:∀(p:aa) (l:List aa),(kz p l).length≤l.length
 | _,[]=>by simp[kz]
 | p,q::l=>by
  have:=movs_len q l
  rw[kz]
  split<;>simp<;>omega
theorem program51 {t : al} (hl : t.Lengths.length ≤ 1000) (hv : br t = some 0) {i : Nat} (hi : i < 6) (ho : sml (getE t.Work i)) {ws : List aa} (hn : ws.length ≤ 100) (hw : ∀ w ∈ ws, sml w ∧ sml (plusP w (getE t.Work i))) :
    ∃ms,fM (first51 i::ws.map blk51++[end51]) t ⟨0,0,0⟩=some (ms,⟨-1,0⟩)∧ms.map bare0=kz ⟨0,0,0⟩ (ws.map λw=>plusP w (getE t.Work i)):=by
  have z0:sml ⟨0,0,0⟩:=by unfold sml;dsimp only;omega
  have i0:inR ⟨0,0,0⟩:=by unfold inR;dsimp only;omega
  have hr:=runs51 hl hv hi ho ws ⟨0,0,0⟩ hw z0
  have hf:okS (first51 i):=⟨λx hx=>by
    simp only[first51,zB,zA,or_false]at hx
    rcases hx with rfl | rfl<;>(unfold u8W;dsimp only;omega),by simp[first51],by simp[first51]⟩
  have hr2:=Runs.cons (t:=t) i0 hf (step_first hi ⟨0,0,0⟩) (by rfl) hr
  rw[List.nil_append]at hr2
  have hlast:∀(l:List aa) (p:aa),sml p→(∀q∈l,sml q)→sml (last51 p l):=by
    intro l
    induction l with
    | nil=>intro p hp _;exact hp
    | cons q l ih=>intro p _ hq;exact ih q (hq q (by simp)) (λx hx=>hq x (by simp[hx]))
  have hs:=hlast (ws.map λw=>plusP w (getE t.Work i)) ⟨0,0,0⟩ z0 (λq hq=>by
    obtain⟨w,h1,rfl⟩:=List.mem_map.1 hq
    exact (hw w h1).2)
  refine Runs.programN hl (checked_0 hv i0) hr2 (by unfold sml at hs;unfold inR;omega) ⟨λx hx=>?_,by simp[end51],by simp[end51]⟩ (step_end i _) (by rfl) ?_ ?_ ?_
  · simp only[end51,zB,zA,or_false]at hx
    subst hx;unfold u8W;dsimp only;omega
  · have:=movs_len ⟨0,0,0⟩ (ws.map λw=>plusP w (getE t.Work i))
    simp at this;omega
  · simp;omega
  · intro b hb x hx hx2
    simp only[List.cons_append,zB,List.mem_append,List.mem_map,zA,or_false]at hb
    rcases hb with rfl | ⟨w,_,rfl⟩ | rfl
    · simp only[first51,zB,zA,or_false]at hx
      rcases hx with rfl | rfl
      · rcases six hi with rfl | rfl | rfl | rfl | rfl | rfl<;>rfl
      · rfl
    · simp only[blk51,zB,zA,or_false]at hx
      rcases hx with rfl | rfl | rfl<;>(dsimp only at hx2;omega)
    · simp only[end51,zB,zA,or_false]at hx
      subst hx;dsimp only at hx2;omega
theorem awake51_eq:fP=some true:=by kernel_rfl
end Go.Proofs.YtgbafiejgciilaaGreatDoor
