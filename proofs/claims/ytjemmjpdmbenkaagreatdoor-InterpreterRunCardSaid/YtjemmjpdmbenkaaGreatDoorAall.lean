/-
  Na, Qx, Qe, Vx, Vy, Vz in one text.
-/
import Derived.Test.YtjemmjpdmbenkaaGreatDoorMB
import Derived.Test.YtjemmjpdmbenkaaGreatDoorPz
import Derived.Test.YtjemmjpdmbenkaaGreatDoorMH
import Derived.Test.YtjemmjpdmbenkaaGreatDoorMW
open Bool renaming false_eq_true → zA,or_eq_true → zD,eq_iff_iff → zE,true_and → zG,or_eq_false_iff → zN,and_eq_true → zX
open Int renaming tdiv_eq_ediv_of_nonneg → zB,mul_nonneg → zH,tdiv → zL,tmod → zO,mul_le_mul_of_nonneg_right → zR,mul_le_mul_of_nonneg_left → zU,mul_le_mul → zV,ediv_lt_of_lt_mul → zW,mul_assoc → zY,add_mul → zZ
open List renaming not_mem_nil → zF,take_add_one → zI,mem_cons → zJ,cons_append → zK,length_cons → zP,contains_cons → zQ
open Nat renaming lt_or_ge → zM,zero_le → zT
namespace Go.Proofs.YtjemmjpdmbenkaaGreatDoor
open Go.RowKit
def g9:List Int:=[0,1000,2000,3000,80000,81000,82000,83000]
def g8:List Int:=[90000,91000]
def nk:List Int:=[54000,55000,56000,57000,58000,59000]
def nj:List Int:=[43000,49000]
def ni:List Int:=[98000,99000]
def grp(c:Int):Int:=if c∈g9 then 1 else if c∈g8 then 2 else if c∈nk then 3 else if c∈nj then 4 else if c∈ni then 5 else 0
theorem grp_cases(c:Int):(c∈g9++g8++nk++nj++ni)∨(c∉g9++g8++nk++nj++ni):=Decidable.em _
theorem kK(c:Int):my c=some (grp c):=by
 rcases grp_cases c with h | h
 ·simp only[g9,g8,nk,nj,ni,zK,List.nil_append,zJ,zF,or_false]at h
  rcases h with h | h | h | h | h | h | h | h | h | h | h | h | h | h | h | h | h | h | h | h<;>(subst h;decide)
 ·simp only[g9,g8,nk,nj,ni,zK,List.nil_append,zJ,zF,or_false,not_or]at h
  have e:∀k:Int,c≠k→(c==k)=false:=λk hk=>by simpa using hk
  simp[my,grp,g9,g8,nk,nj,ni,e,h,auN]
theorem grp_in(c:Int):grp c=0∨grp c=1∨grp c=2∨grp c=3∨grp c=4∨grp c=5:=by
 unfold grp
 by_cases h1:c∈g9
 ·simp[h1]
 by_cases h2:c∈g8
 ·simp[h1,h2]
 by_cases h3:c∈nk
 ·simp[h1,h2,h3]
 by_cases h4:c∈nj
 ·simp[h1,h2,h3,h4]
 by_cases h5:c∈ni
 ·simp[h1,h2,h3,h4,h5]
 ·simp[h1,h2,h3,h4,h5]
def putW(s:aq)(w:ay):aq :=
 if w.Letter=71 then (if grp w.Value=1 then { s with Motion:=w.Value }else if grp w.Value=2 then { s with Distance:=w.Value }else if grp w.Value=3 then { s with Work:=w.Value }else if grp w.Value=4 then { s with Length:=w.Value }else { s with Return:=w.Value })
 else if w.Letter=70 then { s with Feed:=w.Value }else if w.Letter=84 then { s with Tool:=w.Value }else if w.Letter=72 then { s with Offset:=w.Value }else s
theorem md_put_eq(s:aq)(w:ay)(h:w.Letter=71→grp w.Value≠0):md_put s w=some (putW s w):=by
 (unfold md_put putW;try delta jB jR)
 by_cases h1:w.Letter=71
 ·have h0:=h h1
  rcases grp_in w.Value with q | q | q | q | q | q
  ·exact absurd q h0
  all_goals (simp[h1,kK,q];rfl)
 ·by_cases h2:w.Letter=70
  ·simp[h2]
  ·by_cases h3:w.Letter=84
   ·simp[h3]
   ·by_cases h4:w.Letter=72<;>simp[h1,h2,h3,h4]
def clsW(w:ay):Int:=if w.Letter=71 then grp w.Value else 10+w.Letter
def iI(w:ay):Bool:=if w.Letter=70 then decide (w.Value≥0)else if w.Letter=84∨w.Letter=72 then decide (w.Value≥0)&&zO w.Value 1000==0 else true
def u8W(w:ay):Prop:=0≤w.Letter∧w.Letter≤255
def dP:List Int→List ay→Bool
 | _,[]=>true
 | seen,w::r=>clsW w != 0&&iI w&&!(seen.contains (clsW w))&&dP (clsW w::seen) r
def nb(seen:List Int)(lm gm:List (Int×Bool)):Prop :=
 (∀c,0≤c→c≠71→(mget lm c).getD false=seen.contains (10+c))∧∀k,1≤k→k≤5→(mget gm k).getD false=seen.contains k
variable {w:ay}
theorem clsW_letter(h:w.Letter≠71):clsW w=10+w.Letter:=by simp[clsW,h]
theorem clsW_g(h:w.Letter=71):clsW w=grp w.Value:=by simp[clsW,h]
variable {gm lm:List (Int×Bool)}{seen:List Int}
theorem mapsOk_letter(h:nb seen lm gm){c:Int}(h0:0≤c):nb ((10+c)::seen) (mput lm c true) gm:=by
 refine⟨λk hk h1=>?_,λk h1 h2=>?_⟩
 ·rw[kJ,zQ]
  by_cases e:k=c
  ·subst e;simp
  ·have:(k==c)=false:=by simpa using e
   have e2:(10+k==10+c)=false:=by simp;omega
   simp only[this,e2,zA,oe,Bool.false_or]
   exact h.1 k hk h1
 ·rw[zQ,h.2 k h1 h2]
  have:(k==10+c)=false:=by simp;omega
  simp[this]
theorem mapsOk_group(h:nb seen lm gm){g:Int}(h0:1≤g)(h5:g≤5):nb (g::seen) lm (mput gm g true):=by
 refine⟨λk hk h1=>?_,λk h1 h2=>?_⟩
 ·rw[zQ,h.1 k hk h1]
  have:(10+k==g)=false:=by simp;omega
  simp[this]
 ·rw[kJ,zQ]
  by_cases e:k=g
  ·subst e;simp
  ·have:(k==g)=false:=by simpa using e
   simp only[this,zA,oe,Bool.false_or]
   exact h.2 k h1 h2
abbrev MB:=List (Int×Bool)
def lO(seen:List Int)(w:ay):Bool:=clsW w != 0&&iI w&&!(seen.contains (clsW w))
theorem chk_loop{f:Nat→ay→MB×MB→Option (Ex (Ex Int (MB×MB)) (MB×MB))}{d:MB×MB→Option (Ex Int (MB×MB))}(hd:∀v,d v=some (.go v))
  (hf:∀i w seen lm gm,u8W w→nb seen lm gm→(lO seen w=true→∃lm' gm',f i w (lm,gm)=some (.go (lm',gm'))∧nb (clsW w::seen) lm' gm')∧(lO seen w=false→f i w (lm,gm)=some (.ret (.ret 1)))) :
  ∀(l:List ay) (i:Nat) (seen:List Int) (lm gm:MB),(∀w∈l,u8W w)→nb seen lm gm→(dP seen l=true→∃v,az f d l i (lm,gm)=some (.go v))∧(dP seen l=false→az f d l i (lm,gm)=some (.ret 1))
 | [],i,seen,lm,gm,_,_=>⟨λ_=>⟨_,hd _⟩,λh=>by simp[dP]at h⟩
 | w::l,i,seen,lm,gm,hu,hm=>by
  have h:=hf i w seen lm gm (hu w (by simp)) hm
  have hg:dP seen (w::l)=(lO seen w&&dP (clsW w::seen) l):=rfl
  cases hn:lO seen w with
  | true =>
   obtain⟨lm',gm',h1,h2⟩:=h.1 hn
   rw[hg,hn,zG]
   simp only[az,h1]
   exact chk_loop hd hf l (i+1) _ lm' gm' (λw hw=>hu w (by simp[hw])) h2
  | false =>
   rw[hg,hn,Bool.false_and]
   refine⟨λq=>by simp at q,λ_=>?_⟩
   simp only[az,h.2 hn]
theorem chk_fin{f:Nat→ay→MB×MB→Option (Ex (Ex Int (MB×MB)) (MB×MB))}{d:MB×MB→Option (Ex Int (MB×MB))}{l:List ay}(hu:∀w∈l,u8W w)(hd:∀v,d v=some (.go v))
  (hf:∀i w seen lm gm,u8W w→nb seen lm gm→(lO seen w=true→∃lm' gm',f i w (lm,gm)=some (.go (lm',gm'))∧nb (clsW w::seen) lm' gm')∧(lO seen w=false→f i w (lm,gm)=some (.ret (.ret 1)))) :
  bindX (az f d l 0 ([],[])) (λ_=>some 0)=some (if dP [] l=true then 0 else 1):=by
 have h:=chk_loop hd hf l 0 [] [] [] hu ⟨λc _ _=>by simp[mget],λk _ _=>by simp[mget]⟩
 cases hg:dP [] l with
 | true=>obtain⟨v,hv⟩:=h.1 hg;rw[hv];rfl
 | false=>rw[h.2 hg];rfl
theorem nH(b:aa)(hu:∀w∈b.Words,u8W w)(hl:b.Words.length≤9223372036854775807):kM b=some (if dP [] b.Words=true then 0 else 1):=by
 (unfold kM;try delta jB jC jR rF jV)
 rw[aK hl,aN]
 refine chk_fin hu (λ_=>rfl) ?_
 intro i w seen lm gm hw hm
 by_cases h1:w.Letter=71
 ·have hc:=clsW_g h1
  have hwh:iI w=true:=by simp[iI,h1]
  rcases grp_in w.Value with q | q
  ·refine⟨λh=>by simp[lO,hc,q]at h,λ_=>?_⟩
   simp[h1,kK,q]
  ·have hg:=hm.2 (grp w.Value) (by omega) (by omega)
   have hg0:grp w.Value≠0:=by omega
   constructor
   ·intro h
    have hs:grp w.Value∉seen:=by simp[lO,hc,hwh]at h;exact h.2
    refine⟨lm,mput gm (grp w.Value) true,?_,by rw[hc];exact mapsOk_group hm (by omega) (by omega)⟩
    simp[h1,kK,hg0,hg,hs]
   ·intro h
    have hs:grp w.Value∈seen:=by simp[lO,hc,hwh]at h;exact h hg0
    simp[h1,kK,hg0,hg,hs]
 ·have hc:=clsW_letter h1
  have hl:=hm.1 w.Letter hw.1 h1
  have hne:(clsW w==0)=false:=by rw[hc];simp;have:=hw.1;omega
  have hn:lO seen w=(iI w&&!(seen.contains (10+w.Letter))):=by
   have:(clsW w != 0)=true:=by simpa using hne
   rw[lO,this,hc];simp
  rw[hn]
  cases hs:seen.contains (10+w.Letter)with
  | true =>
   rw[hs]at hl
   refine⟨λh=>by simp at h,λ_=>?_⟩
   by_cases h2:w.Letter=70
   ·rw[h2]at hl
    by_cases hv:w.Value<0<;>simp[h2,hv,hl]
   ·by_cases h3:w.Letter=84∨w.Letter=72
    ·by_cases hv:w.Value<0
     ·rcases h3 with h3 | h3<;>(rw[h3]at hl;simp[h3,hv])
     ·by_cases hq:zO w.Value 1000=0
      ·rcases h3 with h3 | h3<;>(rw[h3]at hl;simp[h3,hv,hq,hl])
      ·rcases h3 with h3 | h3<;>(rw[h3]at hl;simp[h3,hv,hq])
    ·have h4:w.Letter≠84:=λe=>h3 (.inl e)
     have h5:w.Letter≠72:=λe=>h3 (.inr e)
     simp[h1,h2,h4,h5,hl]
  | false =>
   rw[hs]at hl
   have hg:nb (clsW w::seen) (mput lm w.Letter true) gm:=by rw[hc];exact mapsOk_letter hm hw.1
   refine⟨λh=>⟨mput lm w.Letter true,gm,?_,hg⟩,λh=>?_⟩
   ·have hwh:iI w=true:=by simpa using h
    unfold iI at hwh
    by_cases h2:w.Letter=70
    ·rw[h2]at hl
     have hv:¬w.Value<0:=by simp[h2]at hwh;omega
     simp[h2,hv,hl]
    ·by_cases h3:w.Letter=84∨w.Letter=72
     ·simp[h2,h3]at hwh
      have hv:¬w.Value<0:=by omega
      rcases h3 with h3 | h3<;>(rw[h3]at hl;simp[h3,hv,hwh.2,hl])
     ·have h4:w.Letter≠84:=λe=>h3 (.inl e)
      have h5:w.Letter≠72:=λe=>h3 (.inr e)
      simp[h1,h2,h4,h5,hl]
   ·have hwh:iI w=false:=by simpa using h
    unfold iI at hwh
    by_cases h2:w.Letter=70
    ·have hv:w.Value<0:=by simp[h2]at hwh;omega
     simp[h2,hv]
    ·by_cases h3:w.Letter=84∨w.Letter=72
     ·simp[h2,h3]at hwh
      by_cases hv:w.Value<0
      ·rcases h3 with h3 | h3<;>simp[h3,hv]
      ·have hq:¬zO w.Value 1000=0:=hwh (by omega)
       rcases h3 with h3 | h3<;>simp[h3,hv,hq]
     ·simp[h2,h3]at hwh
theorem am{n:Int}(h:-9223372036854775808≤n)(h2:n≤9223372036854775807):IntKind.i64.wrap n=n:=IntWalk.i64_in _ ⟨h,by omega⟩
variable {α:Type}{x:α}
theorem gt_k{l:List α}{k:Nat}(h:l[k]? = some x):gt l (k:Int)=some x:=by
 simp[gt,h]
def okB(b:aa):Prop:=(∀w∈b.Words,u8W w)∧b.Words.length≤9223372036854775806
theorem goodW_ne:∀(l:List ay) (s:List Int),dP s l=true→∀w∈l,clsW w≠0
 | [],_,_,w,hw=>by simp at hw
 | x::l,s,h,w,hw=>by
  simp only[dP,zX,bne_iff_ne]at h
  rcases List.mem_cons.1 hw with e | e
  ·subst e;exact h.1.1.1
  ·exact goodW_ne l _ h.2 w e
theorem cls_put(h:clsW w≠0):w.Letter=71→grp w.Value≠0:=λe=>by rwa [clsW_g e]at h
def zS:aq:=⟨0,0,0,0,0,0,0,0⟩
theorem nI(s:aq)(b:aa)(h:okB b):md_Apply s b=some (if dP [] b.Words=true then (b.Words.foldl putW s,0)else (zS,1)):=by
 (unfold md_Apply;try delta jB rF)
 rw[nH b h.1 (by have:=h.2;omega),ae]
 cases hg:dP [] b.Words with
 | false=>simp[zS]
 | true =>
  simp only[og]
  rw[aK (by have:=h.2;omega),aN,rangeX_go putW b.Words 0 s ?_]
  ·simp
  ·intro i x v hx
   rw[md_put_eq v x (cls_put (goodW_ne _ _ hg x hx)),ae]
def endW(p:ag)(l:List al):ag:=match l.getLast? with | some m=>m.To | none=>p
theorem gt_last{l:List α}(h:l.getLast? = some x)(hl:l.length≤9223372036854775807):gt l (IntKind.i64.wrap ((l.length:Int)-1))=some x:=by
 have hne:l≠[]:=by rintro rfl;simp at h
 have hp:0<l.length:=List.length_pos_iff.2 hne
 rw[am (by omega) (by omega),show ((l.length:Int)-1)=((l.length-1:Nat):Int) by omega]
 refine gt_k ?_
 rw[List.getLast?_eq_getElem?]at h
 exact h
theorem inp_End_eq(p:ag)(l:List al)(hl:l.length≤9223372036854775807):inp_End p l=some (endW p l):=by
  unfold inp_End endW
  cases h:l.getLast? with
  | none => have : l = [] := by simpa using h
            subst this;rfl
  | some x =>
    have hne:l≠[]:=by rintro rfl;simp at h
    have hz:((l.length:Int)==0)=false:=by simp;exact hne
    simp only[hz,zA,oe,gt_last h hl,ae]
def posEq(a b:ag):Bool:=a.X==b.X&&(a.Y==b.Y&&a.Z==b.Z)
theorem posEq_iff{a b:ag}:posEq a b=true↔a=b:=by
 cases a;cases b;simp[posEq]
def connW:ag→List al→Bool
 | _,[]=>true
 | p,m::l=>posEq m.From p&&connW m.To l
theorem awake47:lS=some true:=by kernel_rfl
def inR(p:ag):Prop:=(-10000000≤p.X∧p.X≤10000000)∧(-10000000≤p.Y∧p.Y≤10000000)∧(-10000000≤p.Z∧p.Z≤10000000)
instance (p:ag):Decidable (inR p):=by unfold inR;infer_instance
theorem jM(p:ag):k7 p=some (!decide (inR p)):=by
 (unfold k7 mmI;try delta jV)
 by_cases h:inR p
 ·rw[oh h]
  unfold inR at h
  simp only[Bool.not_true,Option.some.injEq,zN,decide_eq_false_iff_not]
  constructor<;>(repeat' split)<;>omega
 ·rw[oi h]
  unfold inR at h
  simp only[Bool.not_false,Option.some.injEq,zD,oo]
  repeat' split
  all_goals omega
theorem dt(p:ag):kk p=some (decide (inR p)):=by
 have h:∀n,ef n=some (decide (n < -10000000)||decide (n>10000000)):=λn=>rfl
 (unfold kk;try delta jB iF)
 simp only[h,ae]
 by_cases h1:(decide (p.X < -10000000)||decide (p.X>10000000))=true
 ·have:¬inR p:=by unfold inR;simp at h1;omega
  simp[h1,this]
 by_cases h2:(decide (p.Y < -10000000)||decide (p.Y>10000000))=true
 ·have:¬inR p:=by unfold inR;simp at h2;omega
  simp[h1,h2,this]
 by_cases h3:(decide (p.Z < -10000000)||decide (p.Z>10000000))=true
 ·have:¬inR p:=by unfold inR;simp at h3;omega
  simp[h1,h2,h3,this]
 ·have:inR p:=by unfold inR;simp at h1 h2 h3;omega
  simp[h1,h2,h3,this]
def bp(b:aa)(c:Int):Int×Bool:=match b.Words.find? (λw=>w.Letter==c)with | some w=>(w.Value,true) | none=>(0,false)
theorem iB(b:aa)(c:Int)(hl:b.Words.length≤1000):ji b c=some (bp b c):=by
 (unfold ji bp;try delta jB rF)
 rw[aK (by omega),aN,range_find (p:=λw:ay=>w.Letter==c) (e:=λw=>(w.Value,true)) b.Words 0 (λi x=>rfl)]
 cases b.Words.find? (λw=>w.Letter==c)<;>rfl
def hasW(b:aa)(l:List UInt8):Bool:=l.any λc=>(bp b (c.toNat:Int)).2
theorem iA(b:aa)(l:List UInt8)(hl:b.Words.length≤1000)(h2:l.length≤1000):gX b l=some (hasW b l):=by
 (unfold gX hasW;try delta jB rF)
 rw[aK (by omega),aN,iQ (p:=λc:UInt8=>(bp b (c.toNat:Int)).2) (r:=true) l 0 (λi x=>by rw[iB b _ hl,ae])]
 cases l.any λc=>(bp b (c.toNat:Int)).2<;>rfl
theorem jy(b:aa)(c:Int)(hl:b.Words.length≤1000):kj b c=some (bp b c).1:=by
 unfold kj
 rw[iB b c hl,ae]
theorem bk_Valid_tot(b:aa)(hl:b.Words.length≤1000)(hc:b.Comment.length≤1000):Tot (iu b) (λe=>(e=0∨e=1)∧(e=0→∀w∈b.Words,-1000000000000≤w.Value∧w.Value≤1000000000000)):=by
 (unfold iu;try delta jB rF jV)
 refine Tot.ite (λ_=>.ok ⟨.inr rfl,by simp⟩) (λ_=>?_)
 refine Tot.bindX (E:=λ_=>∀w∈b.Words,-1000000000000≤w.Value∧w.Value≤1000000000000) (TotX.guard (aK (by omega)) (TotX.of (Tot.range (λi _=>∀w∈b.Words.take i,-1000000000000≤w.Value∧w.Value≤1000000000000) _ (by simp) (λi x v hx hr=>?_) (λv hr=>.ok (by simpa using hr))))) (λ_ hw=>?_)
 ·refine TotX.ite (λ_=>.ret ⟨.inr rfl,by simp⟩) (λh=>.go ?_)
  intro w hw
  rw[zI,hx,List.mem_append]at hw
  rcases hw with hw | hw
  ·exact hr w hw
  ·simp at hw;subst hw
   simp at h
   omega
 ·refine Tot.bindX (E:=λ_=>True) (TotX.guard (aK (by simp[nm];omega)) (TotX.of (Tot.range (λ_ _=>True) _ trivial (λi x v _ _=>?_) (λv _=>.ok trivial)))) (λ_ _=>.ok ⟨.inl rfl,λ_=>hw⟩)
  refine TotX.bind (E:=λ_=>True) (.ok trivial) λy _=>TotX.ite (λ_=>.ret ⟨.inr rfl,by simp⟩) (λ_=>.go trivial)
theorem index_tot(l:List Int)(c:Int)(hl:l.length≤1000):Tot (bq l c) (λ_=>True):=by
 (unfold bq;try delta jB rF)
 exact Tot.bindX (E:=λ_=>True) (TotX.guard (aK (by omega)) (TotX.of (Tot.range (λ_ _=>True) _ trivial (λi x v _ _=>TotX.ite (λ_=>.ret trivial) (λ_=>.go trivial)) (λv _=>.ok trivial)))) (λ_ _=>.ok trivial)
theorem contains_tot(l:List Int)(c:Int)(hl:l.length≤1000):Tot (aU l c) (λ_=>True):=by
 unfold aU
 exact Tot.bind (index_tot l c hl) λ_ _=>.ok trivial
theorem inp_known_tot(b:aa)(hl:b.Words.length≤1000):Tot (gL b) (λ_=>True):=by
 (unfold gL;try delta jB jC rF)
 refine Tot.bindX (E:=λ_=>True) (TotX.guard (aK (by omega)) (TotX.of (Tot.range (λ_ _=>True) _ trivial (λi x v _ _=>?_) (λv _=>.ok trivial)))) (λ_ _=>.ok trivial)
 refine TotX.bindX (E:=λ_=>True) (TotX.of (Tot.bind (E:=λ_=>True) ?_ λy _=>?_)) (λ_ _=>.go trivial)
 ·repeat' (first | exact .ok trivial | refine Tot.ite (λ_=>?_) (λ_=>?_))
 ·refine Tot.ite (λ_=>.ok trivial) (λ_=>Tot.ite (λ_=>?_) (λ_=>Tot.ite (λ_=>Tot.ite (λ_=>.ok trivial) (λ_=>.ok trivial)) (λ_=>.ok trivial)))
  exact Tot.bind (contains_tot _ _ (by decide)) λy _=>Tot.ite (λ_=>.ok trivial) (λ_=>.ok trivial)
theorem jo(t:aC)(hl:t.Lengths.length≤1000):Tot (di t) (λe=>(e=0∨e=1)∧(e=0→(inR t.Work.e0∧inR t.Work.e1∧inR t.Work.e2∧inR t.Work.e3∧inR t.Work.e4∧inR t.Work.e5)∧∀x∈t.Lengths,0≤x.Length∧x.Length≤10000000)):=by
 (unfold di;try delta jB jR rF iF)
 simp only[jM,ae]
 refine Tot.bind (E:=λb=>b=true∨(inR t.Work.e0∧inR t.Work.e1∧inR t.Work.e2∧inR t.Work.e3∧inR t.Work.e4∧inR t.Work.e5)) (Tot.bind (E:=λi:Int=>i≥0∨(inR t.Work.e0∧inR t.Work.e1∧inR t.Work.e2∧inR t.Work.e3∧inR t.Work.e4∧inR t.Work.e5)) (Tot.bindX (E:=λ_=>inR t.Work.e0∧inR t.Work.e1∧inR t.Work.e2∧inR t.Work.e3∧inR t.Work.e4∧inR t.Work.e5) ?_ (λ_ h=>.ok (.inr h))) (λi hi=>.ok (hi.elim (λh=>.inl (by simpa using h)) .inr))) (λb hb=>Tot.ite (λ_=>.ok ⟨.inr rfl,by simp⟩) (λh=>?_))
 ·by_cases h0:inR t.Work.e0
  ·by_cases h1:inR t.Work.e1
   ·by_cases h2:inR t.Work.e2
    ·by_cases h3:inR t.Work.e3
     ·by_cases h4:inR t.Work.e4
      ·by_cases h5:inR t.Work.e5
       ·simp only[h0,h1,h2,h3,h4,h5,decide_true,Bool.not_true,zA,oe];exact .go ⟨trivial,trivial,trivial,trivial,trivial,trivial⟩
       ·simp[h0,h1,h2,h3,h4,h5];exact .ret (by simp)
      ·simp[h0,h1,h2,h3,h4];exact .ret (by simp)
     ·simp[h0,h1,h2,h3];exact .ret (by simp)
    ·simp[h0,h1,h2];exact .ret (by simp)
   ·simp[h0,h1];exact .ret (by simp)
  ·simp[h0];exact .ret (by simp)
 ·have hw:=hb.resolve_left (by simp[h])
  refine Tot.bindX (E:=λ_=>∀x∈t.Lengths,0≤x.Length∧x.Length≤10000000) (TotX.guard (aK (by omega)) (TotX.of (Tot.range (λi _=>∀x∈t.Lengths.take i,0≤x.Length∧x.Length≤10000000) _ (by simp) (λi x v hx hr=>?_) (λv hr=>.ok (by simpa using hr))))) (λ_ h=>.ok ⟨.inl rfl,λ_=>⟨hw,h⟩⟩)
  refine TotX.bind (E:=λb=>b=true∨(0≤x.Length∧x.Length≤10000000)) ?_ (λb hb=>TotX.ite (λ_=>.ret ⟨.inr rfl,by simp⟩) (λh=>.go ?_))
  ·(unfold kz;try delta jV)
   rw[ae]
   refine Tot.ite (λhe=>?_) (λ_=>.ok (.inl rfl))
   have he':0≤x.Length∧x.Length≤10000000:=by simp at he;omega
   refine Tot.ite (λhi=>?_) (λ_=>.ok (.inr he'))
   have hlt:=ak hx
   simp at hi
   rw[am (by omega) (by omega)]
   obtain⟨y,hy,_⟩:=gt_ok' (l:=t.Lengths) (i:=(i:Int)-1) (by omega) (by omega)
   rw[hy,ae]
   exact .ok (.inr he')
  ·intro y hy
   rw[zI,hx,List.mem_append]at hy
   rcases hy with hy | hy
   ·exact hr y hy
   ·simp at hy;subst hy
    exact hb.resolve_left (by simp[h])
theorem mid_eq{lo hi:Int}(h0:0≤lo)(h1:lo≤4000000000000000000)(h2:0≤hi)(h3:hi≤4000000000000000000):IntKind.i64.wrap (shrI .u64 (IntKind.u64.wrap (IntKind.i64.wrap (lo+hi))) 1)=(lo+hi) / 2:=by
 rw[am (n:=lo+hi) (by omega) (by omega)]
 have:IntKind.u64.wrap (lo+hi)=lo+hi:=by unfold IntKind.wrap;simp[IntKind.signed,IntKind.bits];omega
 rw[this]
 have:shrI .u64 (lo+hi) 1=(lo+hi) / 2:=by
  unfold shrI
  simp[IntKind.bits]
  rw[Int.fdiv_eq_ediv_of_nonneg _ (by decide)]
 rw[this,am (by omega) (by omega)]
theorem mL(a b:Int):df a b=some (if a<b then -1 else if a>b then 1 else 0):=by
 unfold df dZ
 simp only[bne_self_eq_false,ae,zA,oe]
 by_cases h:a<b
 ·simp[h]
 ·by_cases h2:a>b<;>simp[h,h2]
theorem tb_find_tot(t:aC)(n:Int)(hl:t.Lengths.length≤1000):Tot (nu t n) (λr=>0≤r.1∧(r.2=true→r.1<(t.Lengths.length:Int))):=by
 (unfold nu;try delta jB jR lF iF)
 refine Tot.bind (E:=λr=>0≤r.1∧(r.2=true→r.1<(t.Lengths.length:Int))) (Tot.bind (E:=λv:Int=>0≤v) ?_ (λv hv=>?_)) (λr hr=>.ok hr)
 ·refine Tot.loop (λm v=>0≤v.1∧v.1≤v.2∧v.2≤(t.Lengths.length:Int)∧m=(v.2-v.1).toNat) _ t.Lengths.length (bK (by omega)) ⟨by simp,by simp,by simp,by simp⟩ (λm v hr=>?_)
  obtain⟨a,b,c,d⟩:=hr
  refine TotX.ite (λh=>?_) (λ_=>.ret a)
  simp at h
  rw[mid_eq a (by omega) (by omega) (by omega)]
  obtain⟨y,hy,_⟩:=gt_ok' (l:=t.Lengths) (i:=(v.1+v.2) / 2) (by omega) (by omega)
  rw[hy,ae]
  unfold eV
  rw[mL,ae,ae]
  refine TotX.ite (λ_=>.go ?_) (λ_=>.go ?_)
  ·rw[am (by omega) (by omega)]
   exact⟨_,by omega,by simp;omega,by simp;omega,c,rfl⟩
  ·exact⟨_,by omega,a,by simp;omega,by simp;omega,rfl⟩
 ·refine Tot.bind (E:=λb=>b=true→v<(t.Lengths.length:Int)) (Tot.ite (λh=>?_) (λ_=>.ok (by simp))) (λb hb=>.ok ⟨hv,hb⟩)
  simp at h
  obtain⟨y,hy,_⟩:=gt_ok' (l:=t.Lengths) (i:=v) hv h
  rw[hy,ae]
  unfold eV
  rw[mL,ae,ae]
  exact .ok λ_=>h
theorem tb_length_tot(t:aC)(n:Int)(hl:t.Lengths.length≤1000)(hv:∀x∈t.Lengths,0≤x.Length∧x.Length≤10000000):Tot (gu t n) (λr=>0≤r.1∧r.1≤10000000):=by
 unfold gu
 refine Tot.ite (λ_=>.ok (by decide)) (λ_=>Tot.bind (tb_find_tot ⟨t.Work,t.Lengths⟩ n hl) λr hr=>Tot.ite (λ_=>.ok (by decide)) (λh=>?_))
 simp at h
 obtain⟨y,hy,hq⟩:=gt_ok' (l:=t.Lengths) (i:=r.1) hr.1 (hr.2 h)
 rw[hy,ae]
 exact .ok (hv y (List.mem_of_getElem? hq))
theorem tb_slot_tot(c:Int):Tot (tb_slot c) (λr=>r.2=0→0≤r.1∧r.1<6):=by
 (unfold tb_slot;try delta jV)
 refine Tot.ite (λ_=>.ok (by simp)) (λh=>.ok λ_=>?_)
 simp at h
 have:zL c 1000=c / 1000:=zB (by omega)
 simp only[this]
 rw[am (n:=c / 1000) (by omega) (by omega),am (by omega) (by omega)]
 omega
theorem ic(t:aC)(c n:Int)(hl:t.Lengths.length≤1000):Tot (gq t c n) (λr=>r.2=0→(-10000000≤r.1.X∧r.1.X≤10000000)∧(-10000000≤r.1.Y∧r.1.Y≤10000000)∧(-10000000≤r.1.Z∧r.1.Z≤20000000)):=by
 (unfold gq;try delta jR jV)
 refine Tot.bind (jo t hl) λe he=>Tot.ite (λh=>.ok λh2=>?_) (λh=>?_)
 ·simp at h h2;exact absurd h2 h
 ·simp at h
  obtain⟨hw,hle⟩:=he.2 h
  refine Tot.bind (tb_slot_tot c) λr hr=>Tot.bind (tb_length_tot ⟨t.Work,t.Lengths⟩ n hl hle) λq hq=>Tot.ite (λ_=>.ok (by simp)) (λh2=>?_)
  simp at h2
  have h3:=hr h2.1
  refine Tot.bind (E:=λp=>inR p) (Tot.guard (by simp;omega) ?_) (λp hp=>.ok λ_=>?_)
  ·repeat' (first | exact .ok hw.1 | exact .ok hw.2.1 | exact .ok hw.2.2.1 | exact .ok hw.2.2.2.1 | exact .ok hw.2.2.2.2.1 | exact .ok hw.2.2.2.2.2 | refine Tot.ite (λ_=>?_) (λ_=>?_))
  ·unfold inR at hp
   simp only
   rw[am (by omega) (by omega)]
   omega
theorem tb_moved_tot(p by_:ag)(s:Int):Tot (jm p by_ s) (λr=>r.2=0→inR r.1):=by
 unfold jm
 simp only[jM,ae]
 refine Tot.ite (λ_=>.ok (by simp)) (λ_=>Tot.ite (λ_=>.ok (by simp)) (λh=>.ok λ_=>?_))
 simpa using h
theorem mW(t:aC)(c n:Int)(p:ag)(hl:t.Lengths.length≤1000):Tot (d7 t c n p) (λr=>r.2=0→inR r.1):=by
 unfold d7
 refine Tot.bind (ic t c n hl) λe _=>Tot.ite (λh=>.ok λh2=>?_) (λ_=>Tot.bind (tb_moved_tot _ _ _) λr hr=>.ok hr)
 simp at h h2;exact absurd h2 h
theorem tb_Work_tot(t:aC)(c n:Int)(p:ag)(hl:t.Lengths.length≤1000):Tot (nv t c n p) (λr=>r.2=0→inR r.1):=by
 unfold nv
 refine Tot.bind (ic ⟨t.Work,t.Lengths⟩ c n hl) λe _=>Tot.ite (λh=>.ok λh2=>?_) (λ_=>Tot.bind (tb_moved_tot _ _ _) λr hr=>.ok hr)
 simp at h h2;exact absurd h2 h
theorem lX(t:aC)(p:ag)(hl:t.Lengths.length≤1000):Tot (bF t p) (λe=>e=0→inR p):=by
 unfold bF
 refine Tot.bind (jo ⟨t.Work,t.Lengths⟩ hl) λe he=>Tot.ite (λ_=>.ok (by simp)) (λ_=>?_)
 rw[dt,ae]
 exact Tot.ite (λ_=>.ok (by simp)) (λh=>.ok λ_=>by simpa using h)
theorem dX(a b:Int):Tot (ct a b) (λ_=>True):=by
 (unfold ct;try delta jC)
 exact Tot.bind (E:=λ_=>True) (Tot.ite (λ_=>.ok trivial) (λ_=>.ok trivial)) λ_ _=>.ok trivial
theorem fg(p:ag)(c:aO):Tot (cz p c) (λr=>0≤r.1∧r.1≤3):=by
 (unfold cz;try delta jV)
 refine Tot.ite (λ_=>Tot.bind (dX _ _) λ_ _=>.ok (by simp)) (λ_=>Tot.ite (λ_=>Tot.bind (dX _ _) λ_ _=>.ok (by simp)) (λ_=>Tot.ite (λ_=>Tot.bind (dX _ _) λ_ _=>.ok (by simp)) (λ_=>Tot.ite (λ_=>Tot.bind (dX _ _) λ_ _=>.ok (by simp)) (λ_=>.ok (by simp)))))
theorem ip_right_tot(p:ag)(m:ar):Tot (il p m) (λ_=>True):=by
 (unfold il;try delta jR)
 refine Tot.ite (λ_=>.ok trivial) (λ_=>Tot.ite (λ_=>.ok trivial) (λ_=>Tot.bind (fg _ _) λa _=>Tot.bind (fg _ _) λb _=>Tot.bind (E:=λ_=>True) (Tot.bind (E:=λ_=>True) (.ok trivial) λy _=>?_) λ_ _=>.ok trivial))
 exact Tot.ite (λ_=>Tot.ite (λ_=>Tot.ite (λ_=>.ok trivial) (λ_=>.ok trivial)) (λ_=>.ok trivial)) (λ_=>.ok trivial)
theorem ip_Valid_tot(p:ag)(m:ar):Tot (io p m) (λ_=>True):=by
 (unfold io;try delta jB jC jR rF)
 refine Tot.bind (ip_right_tot _ _) λ_ _=>Tot.ite (λ_=>.ok trivial) (λ_=>Tot.bind (E:=λ_=>True) (.ok trivial) λb _=>?_)
 refine Tot.bindX (E:=λl=>l.length≤10) (TotX.ite (λ_=>TotX.bind (fg _ _) λr _=>TotX.bind (E:=λ_=>True) ?_ λb _=>TotX.ite (λ_=>.ret trivial) (λ_=>.go (by simp))) (λ_=>.go (by simp))) (λl hl=>?_)
 ·refine Tot.ite (λ_=>.ok trivial) (λ_=>Tot.bind (dX _ _) λ_ _=>Tot.ite (λ_=>.ok trivial) (λ_=>Tot.bind (dX _ _) λ_ _=>.ok trivial))
 ·refine Tot.bindX (E:=λ_=>True) (TotX.guard (aK (by omega)) (TotX.of (Tot.range (λ_ _=>True) _ trivial (λi x v _ _=>TotX.bind (dX _ _) λ_ _=>TotX.ite (λ_=>.ret trivial) (λ_=>.go trivial)) (λv _=>.ok trivial)))) (λ_ _=>.ok trivial)
theorem ip_Quarters_tot(p:ag)(m:ar):Tot (b8 p m) (λr=>r.2=0→1≤r.1∧r.1≤4):=by
 (unfold b8;try delta jC)
 refine Tot.bind (E:=λ_=>True) (.ok trivial) λb _=>Tot.ite (λ_=>.ok (by simp)) (λ_=>Tot.bind (ip_Valid_tot _ _) λe _=>Tot.ite (λh=>.ok λh2=>?_) (λ_=>Tot.bind (fg _ _) λa ha=>Tot.bind (fg _ _) λc hc=>?_))
 ·simp at h h2;exact absurd h2 h
 ·have e1:IntKind.i64.wrap (c.1-a.1)=c.1-a.1:=am (by omega) (by omega)
  rw[e1,am (n:=0-(c.1-a.1)) (by omega) (by omega)]
  refine Tot.bind (E:=λv:Int=>-3≤v∧v≤3) (Tot.ite (λ_=>.ok (by omega)) (λ_=>.ok (by omega))) λv hv=>Tot.bind (E:=λv:Int=>1≤v∧v≤4) (Tot.ite (λh=>.ok ?_) (λh=>.ok ?_)) λv hv=>.ok λ_=>hv
  ·simp at h;rw[am (by omega) (by omega)];omega
  ·simp at h;omega
theorem ip_Chords_tot(r:Int):Tot (ja r) (λn=>0≤n∧n≤1073741824):=by
 (unfold ja;try delta jB lF)
 refine Tot.ite (λ_=>.ok (by decide)) (λ_=>Tot.bind (E:=λn:Int=>0≤n∧n≤1073741824) ?_ λn hn=>.ok hn)
 refine Tot.loop (λm v=>1≤v.1∧v.1≤v.2∧v.2≤1073741824∧m=(v.2-v.1).toNat) _ 1073741823 (bK (by omega)) (by decide) (λm v hr=>?_)
 obtain⟨a,b,c,d⟩:=hr
 refine TotX.ite (λh=>?_) (λ_=>.ret (by omega))
 simp at h
 rw[am (n:=v.1+v.2) (by omega) (by omega),zB (by omega),am (n:=(v.1+v.2) / 2) (by omega) (by omega)]
 refine TotX.ite (λ_=>.go ?_) (λ_=>.go ?_)
 ·exact⟨_,by omega,a,by simp;omega,by simp;omega,rfl⟩
 ·rw[am (by omega) (by omega)]
  exact⟨_,by omega,by simp;omega,by simp;omega,c,rfl⟩
theorem ip_turned_tot(x y q:Int):Tot (gK x y q) (λ_=>True):=by
 (unfold gK;try delta jB lF)
 have hA:-9223372036854775808≤andI .i64 q 3∧andI .i64 q 3≤9223372036854775807:=i64_lo _
 generalize andI .i64 q 3=A at hA
 refine Tot.bind (E:=λ_=>True) ?_ λ_ _=>.ok trivial
 refine Tot.loop (λm v=>0≤v.2.2∧m=(A-v.2.2).toNat) _ A.toNat (bK (by omega)) ⟨by simp,by simp⟩ (λm v hr=>?_)
 refine TotX.ite (λh=>.go ?_) (λ_=>.ret trivial)
 simp at h
 rw[am (n:=v.2.2+1) (by omega) (by omega)]
 exact⟨(A-(v.2.2+1)).toNat,by have:=hr.2;have:=hr.1;omega,by simp;omega,rfl⟩
theorem ip_floor_tot(a b:Int)(h:b≠0):Tot (kP a b) (λ_=>True):=by
 (unfold kP;try delta jC)
 have hb:(!(b==0))=true:=by simp[h]
 exact Tot.guard hb (Tot.guard hb (Tot.bind (E:=λ_=>True) (Tot.ite (λ_=>.ok trivial) (λ_=>.ok trivial)) λ_ _=>.ok trivial))
theorem sq_le{i n:Int}(h0:0≤i)(h:i≤n)(hn:n≤20000):0≤i*i∧i*i≤400000000:=by
 have h1:i*i≤20000*i:=zR (by omega) h0
 have h2:0≤i*i:=zH h0 h0
 omega
theorem ip_Arc_tot(p:ag)(mv:ar):Tot (nf p mv) (λr=>r.1.length≤80000):=by
 (unfold nf;try delta jB jC lF gF)
 refine Tot.bind (ip_Quarters_tot _ _) λq hq=>Tot.ite (λ_=>.ok (by simp)) (λh=>?_)
 simp at h
 have hq4:=hq h
 refine Tot.bind (fg _ _) λpt _=>Tot.bind (ip_Chords_tot _) λn hn=>Tot.ite (λ_=>.ok (by simp)) (λhm=>?_)
 have hn2:n≤20000:=by
  simp at hm
  have:q.1=1∨q.1=2∨q.1=3∨q.1=4:=by omega
  rcases this with e | e | e | e<;>(rw[e,am (by omega) (by omega)]at hm;omega)
 have hnq:0<n→IntKind.i64.wrap (n*q.1)≠0:=by
  intro h0
  have:q.1=1∨q.1=2∨q.1=3∨q.1=4:=by omega
  rcases this with e | e | e | e<;>(rw[e,am (by omega) (by omega)];omega)
 have hnn:=sq_le (i:=n) hn.1 (Int.le_refl n) hn2
 refine Tot.bind (E:=λl:List ag=>l.length≤80000) ?_ λl hl=>.ok hl
 refine Tot.loop (λm v=>0≤v.2∧v.2≤q.1∧(v.1.length:Int)≤v.2*20000∧m=(q.1-v.2).toNat) _ q.1.toNat (bK (by omega)) ⟨by simp,by simp;omega,by simp,by simp⟩ (λm v hr=>?_)
 obtain⟨a,b,c,d⟩:=hr
 refine TotX.ite (λh=>?_) (λ_=>.ret (by omega))
 simp at h
 refine TotX.bind (E:=λl:List ag=>(l.length:Int)≤(v.2+1)*20000) ?_ (λl hl=>.go ?_)
 ·refine Tot.loop (λm u=>1≤u.2∧u.2≤n+1∧(u.1.length:Int)≤v.2*20000+u.2-1∧m=(n+1-u.2).toNat) _ n.toNat (bK (by omega)) ⟨by simp,by simp;omega,by simp;omega,by simp⟩ (λm u hr=>?_)
  obtain⟨a',b',c',d'⟩:=hr
  refine TotX.ite (λh'=>?_) (λh'=>.ret ?_)
  ·simp at h'
   have hii:=sq_le (i:=u.2) (by omega) h' hn2
   have hpos:0<n*n:=Int.mul_pos (by omega) (by omega)
   have hg:(!((IntKind.i64.wrap ((IntKind.i64.wrap (n*n))+(IntKind.i64.wrap (u.2*u.2))))==0))=true:=by
    rw[am (n:=n*n) (by omega) (by omega),am (n:=u.2*u.2) (by omega) (by omega),am (by omega) (by omega)]
    simp;omega
   refine TotX.guard hg (TotX.guard hg (TotX.bind (E:=λ_=>True) (Tot.ite (λ_=>Tot.bind (ip_turned_tot _ _ _) λ_ _=>.ok trivial) (λ_=>Tot.bind (ip_turned_tot _ _ _) λ_ _=>.ok trivial)) λr _=>TotX.bind (ip_floor_tot _ _ (hnq (by omega))) λz _=>TotX.guard (aQ (by omega)) (.go ?_)))
   rw[am (n:=u.2+1) (by omega) (by omega)]
   exact⟨_,by omega,by simp;omega,by simp;omega,by simp;omega,rfl⟩
  ·simp at h';omega
 ·rw[am (n:=v.2+1) (by omega) (by omega)]
  exact⟨_,by omega,by simp;omega,by simp;omega,by simpa using hl,rfl⟩
theorem inp_arc_tot(s:aq)(b:aa)(p q:ag)(hl:b.Words.length≤1000):Tot (lY s b p q) (λr=>r.1.length≤80000):=by
 (unfold lY;try delta jB jC rF gF)
 rw[jy b _ hl,ae,jy b _ hl,ae]
 refine Tot.bind (E:=λ_=>True) (Tot.ite (λ_=>.ok trivial) (λ_=>.ok trivial)) λk _=>Tot.bind (ip_Arc_tot _ _) λr hr=>Tot.bind (E:=λl:List ap=>l.length≤80000) ?_ λl hl=>.ok hl
 refine Tot.guard (aK (by omega)) (Tot.range (λi v=>v.length≤i) _ (by simp) (λi x v hx hr'=>?_) (λv hv=>.ok (by omega)))
 have hlt:=ak hx
 exact TotX.guard (aQ (by omega)) (.go (by simp;omega))
theorem gj(c d:Int)(b:aa)(hl:b.Words.length≤1000):Tot (dG c d b) (λ_=>True):=by
 unfold dG
 rw[iB b c hl,ae]
 exact Tot.ite (λ_=>.ok trivial) (λ_=>.ok trivial)
def cyOk(c:ao):Prop:=c.Code=83000→0<c.Q∧c.Q≤10000000∧(-10000000≤c.R∧c.R≤10000000)∧(-10000000≤c.Z∧c.Z≤10000000)∧c.R-c.Z-1<1000*c.Q∧c.Z<c.R
theorem cy_Valid_tot(c:ao):Tot (jD c) (λe=>e=0→cyOk c):=by
 (unfold jD;try delta jR jV)
 refine Tot.ite (λ_=>.ok (by simp)) (λh0=>?_)
 simp only[jf,ae,auN]
 refine Tot.bind (E:=λb=>b=true∨((c.Code=83000→c.Q≤10000000)∧(-10000000≤c.R∧c.R≤10000000)∧(-10000000≤c.Z∧c.Z≤10000000))) ?_ (λb hb=>Tot.ite (λ_=>.ok (by simp)) (λhf=>?_))
 ·refine Tot.ite (λ_=>.ok (.inl rfl)) (λh1=>Tot.ite (λ_=>.ok (.inl rfl)) (λh2=>Tot.ite (λ_=>.ok (.inl rfl)) (λh3=>Tot.ite (λhc=>?_) (λhc=>.ok (.inr ?_)))))
  ·simp at h1 h2 hc
   by_cases hq:c.Q>10000000∨c.Q < -10000000
   ·exact .ok (.inl (by simpa using hq))
   ·exact .ok (.inr ⟨λ_=>by omega,by omega,by omega⟩)
  ·simp at h1 h2 hc
   exact⟨λe=>absurd e hc,by omega,by omega⟩
 ·have hb':=hb.resolve_left (by simp[hf])
  refine Tot.bind (E:=λb=>b=true∨cyOk c) (Tot.ite (λhc=>?_) (λhc=>.ok (.inr λe=>?_))) (λb hb2=>Tot.ite (λ_=>.ok (by simp)) (λhf2=>.ok λ_=>hb2.resolve_left (by simp[hf2])))
  ·simp at hc
   simp only[hc,beq_self_eq_true,og,zN,decide_eq_false_iff_not]at h0
   have hq:0<c.Q:=by omega
   refine Tot.guard (by simp;omega) (.ok ?_)
   have hqq:=hb'.1 hc
   rw[am (n:=c.R-c.Z) (by omega) (by omega),am (n:=c.R-c.Z-1) (by omega) (by omega),zB (by omega)]
   have hd0:0≤(c.R-c.Z-1) / c.Q:=Int.ediv_nonneg (by omega) (by omega)
   have hd1:(c.R-c.Z-1) / c.Q≤c.R-c.Z-1:=Int.ediv_le_self _ (by omega)
   rw[am (by omega) (by omega)]
   by_cases h9:(c.R-c.Z-1) / c.Q>999
   ·exact .inl (by simpa using h9)
   ·refine .inr λ_=>⟨hq,hqq,hb'.2.1,hb'.2.2,?_,by omega⟩
    have:=Int.lt_mul_of_ediv_lt hq (show (c.R-c.Z-1) / c.Q<1000 by omega)
    exact this
  ·simp at hc;exact absurd e hc
theorem cy_Depths_tot(c:ao):Tot (gO c) (λr=>r.1.length≤1001):=by
 (unfold gO;try delta jC lF gF)
 refine Tot.bind (cy_Valid_tot c) λe he=>Tot.ite (λ_=>.ok (by simp)) (λh=>Tot.bind (E:=λl:List Int=>l.length≤1000) (Tot.ite (λhc=>?_) (λ_=>.ok (by simp))) λl hl=>Tot.guard (aQ (by omega)) (.ok (by simp;omega)))
 simp at h hc
 obtain⟨h1,h2,h3,h4,h5,h6⟩:=he h hc
 rw[am (n:=c.R-c.Q) (by omega) (by omega)]
 refine Tot.loop (λm v=>v.2=c.R-((v.1.length:Int)+1)*c.Q∧c.Z-c.Q≤v.2∧v.2≤c.R∧v.1.length≤1000∧m=(v.2-c.Z).toNat) _ (c.R-c.Q-c.Z).toNat (bK (by omega)) ?_ (λm v hr=>?_)
 ·exact⟨by simp,by simp;omega,by simp;omega,by simp,rfl⟩
 ·obtain⟨a,b,b2,c',d⟩:=hr
  refine TotX.ite (λh=>?_) (λ_=>.ret c')
  simp at h
  have hlt:(v.1.length:Int)+1<1000:=by
   have:((v.1.length:Int)+1)*c.Q<1000*c.Q:=by omega
   exact Int.lt_of_mul_lt_mul_right this (by omega)
  refine TotX.guard (aQ (by omega)) (.go ?_)
  rw[am (n:=v.2-c.Q) (by omega) (by omega)]
  refine⟨_,by omega,?_,by simp;omega,by simp;omega,by simp;omega,rfl⟩
  simp only[List.length_append,zP,List.length_nil]
  rw[a]
  have:(((v.1.length+(0+1):Nat):Int)+1)*c.Q=((v.1.length:Int)+1)*c.Q+c.Q:=by
   rw[show (((v.1.length+(0+1):Nat):Int)+1)=((v.1.length:Int)+1)+1 by omega,zZ,Int.one_mul]
  omega
theorem cy_Expand_tot(c:ao)(p:ag)(l:List aO)(hl:l.length≤100):Tot (jg c p l) (λr=>r.1.length≤300000):=by
 (unfold jg;try delta jB jC jR rF gF iF)
 refine Tot.bind (cy_Depths_tot c) λds hd=>Tot.ite (λ_=>.ok (by simp)) (λ_=>?_)
 refine Tot.bind (E:=λ_=>True) (Tot.bind (E:=λ_=>True) (.ok trivial) λ_ _=>Tot.ite (λ_=>.ok trivial) (λ_=>Tot.bind (E:=λ_=>True) (.ok trivial) λ_ _=>Tot.ite (λ_=>.ok trivial) (λ_=>Tot.bind (E:=λ_=>True) (.ok trivial) λ_ _=>.ok trivial))) λb _=>?_
 refine Tot.bind (E:=λ_=>True) (Tot.guard (aK (by omega)) (Tot.range (λ_ _=>True) _ trivial (λi x v _ _=>TotX.bind (E:=λ_=>True) (Tot.ite (λ_=>.ok trivial) (λ_=>Tot.bind (E:=λ_=>True) (.ok trivial) λ_ _=>Tot.ite (λ_=>.ok trivial) (λ_=>Tot.bind (E:=λ_=>True) (.ok trivial) λ_ _=>.ok trivial))) λ_ _=>.go trivial) (λv _=>.ok trivial))) λfar _=>Tot.ite (λ_=>.ok (by simp)) (λ_=>?_)
 refine Tot.bindX (E:=λv:ag×List ar=>v.2.length≤300000) (TotX.guard (aK (by omega)) (TotX.of (Tot.range (λi v=>v.2.length≤i*3000) _ (by simp) (λi x v hx hr=>?_) (λv hv=>.ok (by simp only;omega))))) (λv hv=>.ok hv)
 have hi:=ak hx
 have e1:(i+1)*3000=i*3000+3000:=by omega
 have e2:i*3000≤297000:=by omega
 rw[e1]
 generalize i*3000=B at hr e2
 refine TotX.bindX (E:=λv:ag×List ar=>v.2.length≤B+3000) (TotX.of ?_) (λv hv=>.go hv)
 refine Tot.bind (E:=λu:Int×List ar=>u.2.length≤B+1) (Tot.ite (λ_=>Tot.bind (E:=λu:Int×List ar=>u.2.length≤B+1) (Tot.ite (λ_=>Tot.guard (aQ (by omega)) (.ok (by simp;omega))) (λ_=>.ok (by simp only;omega))) λu hu=>.ok hu) (λ_=>.ok (by simp only;omega))) λu1 h1=>?_
 refine Tot.bind (E:=λu:ag×List ar=>u.2.length≤B+2) (Tot.ite (λ_=>Tot.guard (aQ (by omega)) (.ok (by simp;omega))) (λ_=>.ok (by simp only;omega))) λu2 h2=>?_
 refine Tot.bind (E:=λu:ag×List ar=>u.2.length≤B+3) (Tot.ite (λ_=>Tot.guard (aQ (by omega)) (.ok (by simp;omega))) (λ_=>.ok (by simp only;omega))) λu3 h3=>?_
 refine Tot.bind (E:=λu:ag×List ar=>u.2.length≤B+2010) (Tot.guard (aK (by omega)) (Tot.range (λj v=>v.2.length≤B+3+2*j) _ (by simpa using h3) (λj z w hz hw=>?_) (λv hv=>.ok (by simp only;omega)))) λu4 h4=>?_
 ·have hj:=ak hz
  refine TotX.bind (E:=λu:ag×List ar=>u.2.length≤B+3+2*j+1) (Tot.ite (λ_=>Tot.guard (aQ (by omega)) (.ok (by simp;omega))) (λ_=>.ok (by simp only;omega))) λa ha=>TotX.bind (E:=λu:ag×List ar=>u.2.length≤B+3+2*j+2) (Tot.ite (λ_=>Tot.guard (aQ (by omega)) (.ok (by simp;omega))) (λ_=>.ok (by simp only;omega))) λb hb=>.go (by simp only;omega)
 ·refine Tot.bind (E:=λu:ag×List ar=>u.2.length≤B+2011) (Tot.ite (λ_=>Tot.bind (E:=λu:ag×List ar=>u.2.length≤B+2011) (Tot.ite (λ_=>Tot.guard (aQ (by omega)) (.ok (by simp;omega))) (λ_=>.ok (by simp only;omega))) λu hu=>.ok hu) (λ_=>.ok (by simp only;omega))) λu5 h5=>Tot.ite (λ_=>.ok (by simp)) (λ_=>.ok (by simp only;omega))
theorem cy_Read_tot(b:aa)(k f i:Int)(h:Bool)(c:ao)(hl:b.Words.length≤1000):Tot (n5 b k f i h c) (λ_=>True):=by
 unfold n5
 refine Tot.bind (gj _ _ _ hl) λ_ _=>Tot.bind (gj _ _ _ hl) λ_ _=>Tot.bind (gj _ _ _ hl) λ_ _=>Tot.bind (gj _ _ _ hl) λ_ _=>Tot.bind (cy_Valid_tot _) λ_ _=>Tot.ite (λ_=>.ok trivial) (λ_=>.ok trivial)
theorem inp_canned_tot(s:aq)(c:ao)(b:aa)(p q:ag)(hl:b.Words.length≤1000):Tot (fh s c b p q) (λr=>r.1.length≤300000):=by
 (unfold fh;try delta jB jC rF gF)
 refine Tot.bind (E:=λ_=>True) (Tot.ite (λ_=>.ok trivial) (λ_=>.ok trivial)) λi _=>Tot.bind (cy_Read_tot _ _ _ _ _ _ hl) λr _=>Tot.ite (λ_=>.ok (by simp)) (λ_=>Tot.bind (cy_Expand_tot _ _ _ (by simp)) λm hm=>Tot.ite (λ_=>.ok (by simp)) (λ_=>Tot.bind (E:=λl:List ap=>l.length≤300000) ?_ λl hl=>.ok hl))
 refine Tot.guard (aK (by omega)) (Tot.range (λi v=>v.length≤i) _ (by simp) (λi x v hx hr'=>?_) (λv hv=>.ok (by omega)))
 have hlt:=ak hx
 exact TotX.guard (aQ (by omega)) (.go (by simp;omega))
theorem inp_target_tot(s:aq)(b:aa)(p:ag)(hl:b.Words.length≤1000):Tot (fY s b p) (λ_=>True):=by
 (unfold fY;try delta jB)
 simp only[iB b _ hl,ae]
 refine Tot.bind (E:=λ_=>True) (Tot.bind (E:=λ_=>True) (Tot.ite (λ_=>.ok trivial) (λ_=>Tot.ite (λ_=>.ok trivial) (λ_=>.ok trivial))) λ_ _=>Tot.bind (E:=λ_=>True) (Tot.ite (λ_=>.ok trivial) (λ_=>Tot.ite (λ_=>.ok trivial) (λ_=>.ok trivial))) λ_ _=>Tot.bind (E:=λ_=>True) (Tot.ite (λ_=>.ok trivial) (λ_=>Tot.ite (λ_=>.ok trivial) (λ_=>.ok trivial))) λ_ _=>.ok trivial) λ_ _=>.ok trivial
theorem inp_positions_tot(s:aq)(c:ao)(b:aa)(p:ag)(hl:b.Words.length≤1000):Tot (dq s c b p) (λr=>r.1.length≤300000):=by
 unfold dq
 refine Tot.bind (inp_target_tot s ⟨b.Skip,b.Words,b.Comment⟩ p hl) λq _=>Tot.ite (λ_=>.ok (by simp)) (λ_=>Tot.ite (λ_=>.ok (by simp)) (λ_=>Tot.bind (E:=λ_=>True) (.ok trivial) λy _=>Tot.ite (λ_=>Tot.bind (inp_canned_tot _ _ _ _ _ hl) λr hr=>.ok hr) (λ_=>Tot.bind (inp_arc_tot _ ⟨b.Skip,b.Words,b.Comment⟩ _ _ hl) λr hr=>.ok (by simp only;omega))))
theorem endW_cons(x:al)(l:List al)(p:ag):endW p (x::l)=endW x.To l:=by
 cases l with
 | nil=>rfl
 | cons y r =>
  unfold endW
  rw[List.getLast?_cons_cons]
  cases h:(y::r).getLast? with
  | none=>simp at h
  | some z=>rfl
theorem connW_snoc(l:List al)(m:al):∀p,connW p (l++[m])=(connW p l&&posEq m.From (endW p l)):=by
 induction l with
 | nil=>intro p;simp[connW,endW]
 | cons x l ih =>
  intro p
  simp only[zK,connW,ih]
  rw[endW_cons,Bool.and_assoc]
theorem endW_snoc(l:List al)(m:al)(p:ag):endW p (l++[m])=m.To:=by simp[endW]
theorem posEq_refl(p:ag):posEq p p=true:=posEq_iff.2 rfl
def goodM(p:ag)(l:List al):Prop:=connW p l=true∧(∀m∈l,inR m.From∧inR m.To∧m.From≠m.To)∧inR (endW p l)
def okS(b:aa):Prop:=(∀w∈b.Words,u8W w)∧b.Words.length≤1000∧b.Comment.length≤1000
def stepE(p:ag)(b:aa)(r:List al×aq×ao×Int):Prop:=r.1.length≤300000∧(∀m∈r.1,m.Block=0)∧(r.2.2.2=0→goodM p r.1∧dP [] b.Words=true)
variable {b:aa}{c:ao}{e:Int}{p:ag}{s:aq}
theorem eZ(h:e≠0):stepE p b ([],s,c,e):=⟨by simp,by simp,λq=>absurd q h⟩
theorem inp_Step_tot(s:aq)(c:ao)(b:aa)(t:aC)(p:ag)(hb:okS b)(ht:t.Lengths.length≤1000):Tot (ip s c b t p) (stepE p b):=by
 obtain⟨hu,hl,hc⟩:=hb
 have hok:okB b:=⟨hu,by omega⟩
 (unfold ip;try delta jB jC jR rF jV gF iF)
 refine Tot.bind (lX t p ht) λe he=>Tot.ite (λh=>.ok (eZ (by simpa using h))) (λh0=>?_)
 have hp:=he (by simpa using h0)
 refine Tot.bind (E:=λx=>x=true∨dP [] b.Words=true) (Tot.bind (bk_Valid_tot b hl hc) λ_ _=>Tot.ite (λ_=>.ok (.inl rfl)) (λ_=>Tot.bind (E:=λx=>x=if dP [] b.Words=true then 0 else 1) (.eq (nH b hu (by omega)) rfl) λx hx=>Tot.ite (λ_=>.ok (.inl rfl)) (λhx0=>Tot.bind (inp_known_tot b hl) λ_ _=>.ok (.inr ?_)))) λbad hbad=>Tot.ite (λ_=>.ok (eZ (by decide))) (λhbf=>?_)
 ·rw[hx]at hx0
  cases hg:dP [] b.Words with
  | true=>rfl
  | false=>simp[hg]at hx0
 have hgood:=hbad.resolve_left (by simp[hbf])
 refine Tot.bind (E:=λ_=>True) (.eq (nI s b hok) trivial) λr _=>Tot.ite (λh=>.ok (eZ (by simpa using h))) (λ_=>?_)
 refine Tot.bind (E:=λ_=>True) (.ok trivial) λcy _=>Tot.bind (E:=λ_=>True) (Tot.ite (λ_=>.ok trivial) (λ_=>.ok trivial)) λc2 _=>?_
 simp only[iA b _ hl (show ([88,89,90,73,74,81,82]:List UInt8).length≤1000 by decide),iA b _ hl (show ([73,74]:List UInt8).length≤1000 by decide),iA b _ hl (show ([81,82]:List UInt8).length≤1000 by decide),ae,dD]
 refine Tot.ite (λ_=>.ok ⟨by simp,by simp,λ_=>⟨⟨rfl,by simp,hp⟩,hgood⟩⟩) (λ_=>?_)
 refine Tot.bind (E:=λ_=>True) ?_ λbad _=>Tot.ite (λ_=>.ok (eZ (by decide))) (λ_=>Tot.ite (λ_=>.ok (eZ (by decide))) (λ_=>?_))
 ·repeat' (first | exact .ok trivial | refine Tot.ite (λ_=>?_) (λ_=>?_))
 refine Tot.bind (E:=λ_=>True) (Tot.ite (λ_=>.ok trivial) (λ_=>.ok trivial)) λnum _=>Tot.bind (tb_Work_tot ⟨t.Work,t.Lengths⟩ _ _ _ ht) λwp _=>Tot.ite (λh=>.ok (eZ (by simpa using h))) (λ_=>?_)
 refine Tot.bind (inp_positions_tot _ _ ⟨b.Skip,b.Words,b.Comment⟩ _ hl) λps hps=>Tot.ite (λh=>.ok (eZ (by simpa using h))) (λ_=>?_)
 refine Tot.bindX (E:=λv:List al×ag=>v.1.length≤300000∧(∀m∈v.1,m.Block=0)∧goodM p v.1) (TotX.guard (aK (by omega)) (TotX.of (Tot.range (λ(i:Nat) (v:List al×ag)=>v.1.length≤i∧(∀m∈v.1,m.Block=0)∧goodM p v.1∧v.2=endW p v.1) _ ⟨by simp,by simp,⟨rfl,by simp,hp⟩,rfl⟩ (λi x v hx hr=>?_) (λv hv=>.ok ⟨by have:=hv.1;simp only;omega,hv.2.1,hv.2.2.1⟩)))) (λv hv=>.ok ⟨hv.1,hv.2.1,λ_=>⟨hv.2.2,hgood⟩⟩)
 have hi:=ak hx
 obtain⟨a1,a2,a3,a4⟩:=hr
 refine TotX.bind (mW ⟨t.Work,t.Lengths⟩ _ _ _ ht) λq2 hto=>TotX.ite (λh=>.ret (eZ (by simpa using h))) (λh=>?_)
 have hto':=hto (by simpa using h)
 have hv2:inR v.2:=a4▸a3.2.2
 refine TotX.bind (E:=λl=>l.length≤i+1∧(∀m∈l,m.Block=0)∧goodM p l∧q2.1=endW p l) (Tot.ite (λhne=>Tot.guard (aQ (by omega)) (.ok ?_)) (λheq=>.ok ?_)) λl hl=>.go hl
 ·have hne':¬(q2.1=v.2):=by
   intro e
   have:posEq q2.1 v.2=true:=posEq_iff.2 e
   unfold posEq at this
   simp[this]at hne
  refine⟨by simp;omega,?_,⟨?_,?_,?_⟩,?_⟩
  ·intro m hm
   rcases List.mem_append.1 hm with q | q
   ·exact a2 m q
   ·simp at q;subst q;rfl
  ·rw[connW_snoc,a3.1,a4]
   exact posEq_refl _
  ·intro m hm
   rcases List.mem_append.1 hm with q | q
   ·exact a3.2.1 m q
   ·simp at q;subst q;exact⟨hv2,hto',λe=>hne' e.symm⟩
  ·rw[endW_snoc];exact hto'
  ·rw[endW_snoc]
 ·have he:q2.1=v.2:=by
   refine posEq_iff.1 ?_
   unfold posEq
   simpa using heq
  exact⟨by omega,a2,a3,by rw[he];exact a4⟩
def codesW(b:aa)(c:Int):List Int:=(b.Words.filter λw=>w.Letter==c).map (·.Value)
theorem codes_fold(l:List ay)(c:Int):∀o:List Int,l.foldl (λo w=>if (w.Letter==c)=true then o++[w.Value]else o) o=o++(l.filter λw=>w.Letter==c).map (·.Value):=by
 induction l with
 | nil=>intro o;simp
 | cons w l ih =>
  intro o
  rw[List.foldl_cons,ih]
  by_cases h:(w.Letter==c)=true
  ·simp[h]
  ·simp[h]
theorem bk_Codes_eq(b:aa)(c:Int)(hl:b.Words.length≤1000):gk b c=some (codesW b c):=by
 (unfold gk;try delta jB rF gF)
 rw[aK (by omega),aN,dc (g:=λ(o:List Int) (w:ay)=>if (w.Letter==c)=true then o++[w.Value]else o) (R:=λi v=>v.length≤i) (L:=b.Words) ?_ b.Words 0 [] rfl (by simp)]
 ·rw[ae,codes_fold];rfl
 ·intro i x v hx hr
  have hlt:=ak hx
  by_cases h:(x.Letter==c)=true
  ·simp only[h,og]
   rw[aQ (by omega),aN]
   exact⟨rfl,by simp;omega⟩
  ·have h':(x.Letter==c)=false:=by simpa using h
   simp only[h',zA,oe]
   exact⟨rfl,by omega⟩
theorem range_idx{f:Nat→Int→Unit→Option (Ex (Ex Int Unit) Unit)}{p:Int→Bool}(hf:∀(i:Nat) x,f i x ()=if p x=true then some (.ret (.ret (i:Int)))else some (.go ())):∀(l:List Int) (i:Nat),∃k:Nat,az f (λ_=>some (.go ())) l i ()=some (if l.any p=true then .ret (k:Int)else .go ())
 | [],i=>⟨0,rfl⟩
 | x::l,i=>by
  simp only[az,hf i x,List.any_cons]
  by_cases h:p x=true
  ·exact⟨i,by simp[h]⟩
  ·have h':p x=false:=by simpa using h
   obtain⟨k,hk⟩:=range_idx hf l (i+1)
   exact⟨k,by simpa [h'] using hk⟩
theorem contains_eq(l:List Int)(c:Int)(hl:l.length≤1000):aU l c=some (l.contains c):=by
 (unfold aU bq;try delta jB rF)
 rw[aK (by omega),aN]
 obtain⟨k,hk⟩:=range_idx (f:=λ(i127:Nat) (e129:Int) (_:Unit)=>if (c==e129)=true then some (.ret (.ret (i127:Int)))else some (.go ())) (p:=λx=>c==x) (λi x=>rfl) l 0
 rw[hk]
 have:l.any (λx=>c==x)=l.contains c:=by
  rw[zE,List.contains_iff_mem];simp
 rw[this]
 cases l.contains c<;>simp
def setB(i:Nat)(m:al):al:=⟨m.From,m.To,m.Rate,m.Tool,(i:Int)⟩
theorem range_set{L:List al}(g:al→al){f:Nat→al→List al→Option (Ex (List al) (List al))}(hf:∀(i:Nat) x v e,gt v (i:Int)=some e→f i x v=some (.go (v.set i (g e)))):az f (λv=>some v) L 0 L=some (L.map g):=by
  obtain⟨e,h1,h2⟩:=rangeX_inv (f:=f) (d:=λv=>some v) (λi v=>v=(L.take i).map g++L.drop i) (λe=>e=L.map g) L (λi x v hx hr=>by
    right
    have hlt:=ak hx
    have hgt:gt v (i:Int)=some x:=by
      refine gt_k ?_
      rw[hr,List.getElem?_append_right (by simp;omega)]
      simp[Nat.min_eq_left (Nat.le_of_lt hlt),hx]
    refine⟨_,hf i x v x hgt,?_⟩
    rw[hr,List.set_append_right _ _ (by simp;omega)]
    have hd:L.drop i=x::L.drop (i+1):=by
      rw[List.drop_eq_getElem_cons hlt]
      rw[List.getElem?_eq_getElem hlt]at hx
      injection hx with hx
      rw[hx]
    rw[hd,zI,hx]
    simp[Nat.min_eq_left (Nat.le_of_lt hlt)]) (λv hv=>⟨v,rfl,by simpa using hv⟩) L 0 L rfl (zT _) (by simp)
  rw[h1,h2]
def zC:ao:=⟨0,0,0,0,0,0,false⟩
def fA(s:aq)(c:ao)(b:aa)(t:aC)(p:ag):List al×aq×ao×Int:=(ip s c b t p).getD ([],zS,zC,1)
variable {t:aC}
theorem stepT_eq(hb:okS b)(ht:t.Lengths.length≤1000):ip s c b t p=some (fA s c b t p):=by
 obtain⟨e,h,_⟩:=inp_Step_tot s c b t p hb ht
 unfold fA;rw[h];rfl
theorem stepT_E(hb:okS b)(ht:t.Lengths.length≤1000):stepE p b (fA s c b t p):=by
 obtain⟨e,h,h2⟩:=inp_Step_tot s c b t p hb ht
 unfold fA;rw[h];exact h2
abbrev Run:=List al×ag×aq×ao
def endsW(b:aa):Bool:=(codesW b 77).contains 30000
def runB(t:aC)(N:Nat):Nat→List aa→Run→List al×aL
 | _,[],v=>(v.1,⟨(N:Int),13⟩)
 | i,b::l,v =>
  let r:=fA v.2.2.1 v.2.2.2 b t v.2.1
  if r.2.2.2≠0 then (v.1,⟨(i:Int),r.2.2.2⟩)
  else if v.1.length+r.1.length>20000 then (v.1,⟨(i:Int),3⟩)
  else if endsW b=true then (v.1++r.1.map (setB i),⟨-1,0⟩)
  else runB t N (i+1) l (v.1++r.1.map (setB i),endW v.2.1 r.1,r.2.1,r.2.2.1)
theorem endW_map(p:ag)(i:Nat)(l:List al):endW p (l.map (setB i))=endW p l:=by
 unfold endW
 rw[List.getLast?_map]
 cases l.getLast?<;>rfl
def newS:aq:=⟨0,90000,54000,49000,98000,0,0,0⟩
theorem inp_Blocks_eq (L : List aa) (t : aC) (p : ag) (e : Int) (he : bF t p = some e) (hL : L.length ≤ 100000) (hb : ∀ b ∈ L, okS b) (ht : t.Lengths.length ≤ 1000) :
    fi L t p=some (if e≠0 then ([],⟨-1,e⟩)else runB t L.length 0 L ([],p,newS,zC)):=by
  (unfold fi;try delta jB jC jR rF gF)
  (first | rw[show (aC.mk t.Work t.Lengths)=t from rfl,he,ae] | rw[he,ae])
  by_cases h0:e=0
  · have h0':(e != 0)=false:=by simp[h0]
    rw[oc (show ¬(e≠0) by simpa using h0)]
    simp only[h0',zA,oe,md_New,ae]
    rw[aK (by omega),aN]
    have key : ∀ (f : Nat → aa → Run → Option (Ex (Ex (List al × aL) Run) Run)),
        (∀(i:Nat) (b:aa) (v:Run),b∈L→v.1.length≤20000→f i b v=(let r:=fA v.2.2.1 v.2.2.2 b t v.2.1
          if r.2.2.2≠0 then some (.ret (.ret (v.1,⟨(i:Int),r.2.2.2⟩)))
          else if v.1.length+r.1.length>20000 then some (.ret (.ret (v.1,⟨(i:Int),3⟩)))
          else if endsW b=true then some (.ret (.ret (v.1++r.1.map (setB i),⟨-1,0⟩)))
          else some (.go (v.1++r.1.map (setB i),endW v.2.1 r.1,r.2.1,r.2.2.1)))) →
        ∀(l:List aa) (i:Nat) (v:Run),(∀b∈l,b∈L)→v.1.length≤20000→bindX (az f (λv=>some (.go (v.1,v.2.1,v.2.2.1,v.2.2.2))) l i v) (λv=>some (v.1,aL.mk (L.length:Int) 13))=some (runB t L.length i l v):=by
      intro f hf l
      induction l with
      | nil=>intro i v _ _;rfl
      | cons b l ih =>
        intro i v hm hv
        simp only[az,hf i b v (hm b (by simp)) hv,runB]
        by_cases h1:(fA v.2.2.1 v.2.2.2 b t v.2.1).2.2.2=0
        · by_cases h2:v.1.length+(fA v.2.2.1 v.2.2.2 b t v.2.1).1.length>20000
          · simp[h1,h2]
          · by_cases h3:endsW b=true
            · simp[h1,h2,h3]
            · simp only[h1,h2,h3,ne_eq,not_true_eq_false,oe]
              exact ih (i+1) _ (λb hb=>hm b (by simp[hb])) (by simp;omega)
        · simp[h1]
    refine key _ ?_ L 0 _ (λb h=>h) (by simp)
    intro i b v hbL hv
    have hbk:=hb b hbL
    rw[stepT_eq hbk ht,ae]
    have hE:=stepT_E (s:=v.2.2.1) (c:=v.2.2.2) (p:=v.2.1) hbk ht
    generalize fA v.2.2.1 v.2.2.2 b t v.2.1=r at hE
    obtain⟨hlen,_,_⟩:=hE
    simp only
    by_cases h1:r.2.2.2=0
    · have hw:IntKind.i64.wrap ((v.1.length:Int)+(r.1.length:Int))=(v.1.length:Int)+(r.1.length:Int):=am (by omega) (by omega)
      by_cases h2:v.1.length+r.1.length>20000
      · have:decide ((v.1.length:Int)+(r.1.length:Int)>20000)=true:=by simp;omega
        simp[h1,hw,this,h2]
      · have h2':decide ((v.1.length:Int)+(r.1.length:Int)>20000)=false:=by simp;omega
        simp only[h1,beq_self_eq_true,og,hw,h2',ae,zA,oe,ne_eq,not_true_eq_false,h2,bne_self_eq_false]
        rw[aK (by omega),aN,range_set (setB i) (λk x v e hg=>by rw[hg,ae];rfl),ae,aQ (by simp;omega),aN,inp_End_eq _ _ (by simp;omega),ae,bk_Codes_eq b _ hbk.2.1,ae,contains_eq _ _ (by
          unfold codesW
          have:=List.length_filter_le (λw:ay=>w.Letter==77) b.Words
          have:=hbk.2.1
          simp;omega),ae,endW_map]
        unfold endsW
        cases (codesW b 77).contains 30000<;>simp
    · simp[h1]
  · have h0':(e != 0)=true:=by simp[h0]
    simp[h0',h0]
theorem jG(p:ag):dk p=some (decide (inR p)):=by
 (unfold dk r47_far;try delta jR jV)
 simp only[ae]
 by_cases h1:(decide (p.X>10000000)||decide (p.X < -10000000))=true
 ·have:¬inR p:=by unfold inR;simp at h1;omega
  simp[h1,this]
 by_cases h2:(decide (p.Y>10000000)||decide (p.Y < -10000000))=true
 ·have:¬inR p:=by unfold inR;simp at h2;omega
  simp[h1,h2,this]
 by_cases h3:(decide (p.Z>10000000)||decide (p.Z < -10000000))=true
 ·have:¬inR p:=by unfold inR;simp at h3;omega
  simp[h1,h2,h3,this]
 ·have:inR p:=by unfold inR;simp at h1 h2 h3;omega
  simp[h1,h2,h3,this]
def fewL(l:List aa):Prop:=l.length≤40∧∀b∈l,b.Words.length≤20∧b.Comment.length≤120
theorem r41_Few_tot(l:List aa)(hl:l.length≤9223372036854775807):Tot (r41_Few l 40) (λb=>b=true→fewL l):=by
 (unfold r41_Few;try delta jB rF jV)
 refine Tot.ite (λ_=>.ok (by simp)) (λh=>?_)
 simp at h
 refine Tot.bindX (E:=λ_=>∀b∈l,b.Words.length≤20∧b.Comment.length≤120) (TotX.guard (aK hl) (TotX.of (Tot.range (λi _=>∀b∈l.take i,b.Words.length≤20∧b.Comment.length≤120) _ (by simp) (λi x v hx hr=>TotX.ite (λ_=>.ret (by simp)) (λh2=>.go ?_)) (λv hv=>.ok (by simpa using hv))))) (λ_ hw=>.ok λ_=>⟨by omega,hw⟩)
 intro b hb
 rw[zI,hx,List.mem_append]at hb
 rcases hb with q | q
 ·exact hr b q
 ·simp at q;subst q
  simp at h2
  omega
theorem r47_Few_tot(l:List aa)(hl:l.length≤9223372036854775807):Tot (r47_Few l 40) (λb=>b=true→fewL l):=by
 (unfold r47_Few;try delta jB rF lF jV)
 refine Tot.bind (r41_Few_tot l hl) λb hb=>Tot.ite (λ_=>.ok (by simp)) (λh=>?_)
 have hf:=hb (by simpa using h)
 refine Tot.bindX (E:=λ_=>True) (TotX.guard (aK hl) (TotX.of (Tot.range (λ_ _=>True) _ trivial (λi x v hx _=>?_) (λv _=>.ok trivial)))) (λ_ _=>.ok λ_=>hf)
 have hx20:=(hf.2 x (List.mem_of_getElem? hx)).1
 refine TotX.bindX (E:=λ_=>True) (TotX.of (Tot.loop (λm v=>0≤v∧v≤(x.Words.length:Int)∧m=((x.Words.length:Int)-v).toNat) _ x.Words.length (bK (by omega)) ⟨by simp,by simp,by simp⟩ (λm v hr=>?_))) (λ_ _=>.go trivial)
 refine TotX.ite (λh=>?_) (λ_=>.ret trivial)
 simp at h
 obtain⟨y,hy,_⟩:=gt_ok' (l:=x.Words) (i:=v) hr.1 h
 rw[hy,ae]
 refine TotX.ite (λ_=>.ret (by simp)) (λ_=>.go ?_)
 rw[am (by omega) (by omega)]
 exact⟨_,by omega,by omega,by omega,rfl⟩
theorem l47_few_tot(l:List aa)(s:fm)(hl:l.length≤9223372036854775807):Tot (l47_few l s) (λb=>b=true→fewL l∧s.Table.Lengths.length≤20):=by
 (unfold l47_few;try delta jR)
 refine Tot.bind (E:=λb=>b=true→fewL l∧s.Table.Lengths.length≤20) (Tot.bind (r47_Few_tot l hl) λb hb=>Tot.ite (λh=>.ok λh2=>⟨hb h,by simp at h2;omega⟩) (λ_=>.ok (by simp))) λb hb=>.ok hb
def aF(t:bg):aC:=⟨t.Work,t.Lengths.map λl=>⟨l.Number,l.Length⟩⟩
theorem map_fold{β:Type}(g:α→β)(l:List α):∀o:List β,l.foldl (λo x=>o++[g x]) o=o++l.map g:=by
 induction l with
 | nil=>intro o;simp
 | cons x l ih=>intro o;rw[List.foldl_cons,ih];simp
theorem l47_theirs_eq(t:bg)(hl:t.Lengths.length≤1000):fX t=some (aF t):=by
 (unfold fX;try delta jB rF gF)
 rw[aK (by omega),aN,dc (g:=λ(o:List bi) (x:ca)=>o++[bi.mk x.Number x.Length]) (R:=λi v=>v.length≤i) (L:=t.Lengths) ?_ t.Lengths 0 [] rfl (by simp)]
 ·rw[ae,map_fold];rfl
 ·intro i x v hx hr
  have hlt:=ak hx
  rw[aQ (by omega),aN]
  exact⟨rfl,by simp;omega⟩
def motEq(a b:al):Bool:=(a.From.X==b.From.X)&&((a.From.Y==b.From.Y)&&((a.From.Z==b.From.Z)&&((a.To.X==b.To.X)&&((a.To.Y==b.To.Y)&&((a.To.Z==b.To.Z)&&((a.Rate==b.Rate)&&((a.Tool==b.Tool)&&(a.Block==b.Block))))))))
theorem same_self(l:List al)(hl:l.length≤9223372036854775807):r47_Same l l=some true:=by
  (unfold r47_Same;try delta jB rF)
  simp only[bne_self_eq_false,zA,oe]
  obtain ⟨e, h1, h2⟩ := Tot.bindX (E := λ_ => True) (F := λb => b = true) (f := λ(_ : Unit) => some true) (TotX.guard (b := be l) (aK hl) (TotX.of (Tot.range (f := λ(i141 : Nat) (e143 : al) (_ : Unit) =>
          ah (gt l (i141:Int)) λ(e145:al) =>
          if (!(motEq e143 e145))=true then
            some (.ret (.ret false))
          else
            some (.go ())) (d:=λ_=>some (.go ())) (λ_ _=>True) _ trivial (λi x v hx _=>by
    rw[gt_k hx,ae]
    have:motEq x x=true:=by simp[motEq]
    rw[this]
    exact .go trivial) (λv _=>.ok trivial)))) (λ_ _=>.ok rfl)
  rw[h2]at h1
  exact h1
theorem connW_append(l m:List al):∀p,connW p (l++m)=(connW p l&&connW (endW p l) m):=by
 induction l with
 | nil=>intro p;simp[connW,endW]
 | cons x l ih =>
  intro p
  simp only[zK,connW,ih,endW_cons,Bool.and_assoc]
theorem endW_append(p:ag)(l m:List al):endW p (l++m)=endW (endW p l) m:=by
  cases hm:m.getLast? with
  | none => have : m = [] := by simpa using hm
            subst this;simp[endW]
  | some x=>simp[endW,List.getLast?_append,hm]
theorem connW_map(i:Nat)(l:List al):∀p,connW p (l.map (setB i))=connW p l:=by
 induction l with
 | nil=>intro p;rfl
 | cons x l ih=>intro p;simp only[List.map_cons,connW,ih];rfl
variable {l:List al}
theorem goodM_map(h:goodM p l)(i:Nat):goodM p (l.map (setB i)):=by
 refine⟨by rw[connW_map];exact h.1,?_,by rw[endW_map];exact h.2.2⟩
 intro m hm
 obtain⟨x,hx,rfl⟩:=List.mem_map.1 hm
 exact h.2.1 x hx
theorem goodM_append{m:List al}(h:goodM p l)(h2:goodM (endW p l) m):goodM p (l++m):=by
 refine⟨by rw[connW_append,h.1,h2.1];rfl,?_,by rw[endW_append];exact h2.2.2⟩
 intro x hx
 rcases List.mem_append.1 hx with q | q
 ·exact h.2.1 x q
 ·exact h2.2.1 x q
def runOk(p:ag)(i:Nat)(l:List al):Prop:=goodM p l∧l.Pairwise (λa b=>a.Block≤b.Block)∧(∀m∈l,0≤m.Block∧m.Block<(i:Int))∧l.length≤20000
variable {i:Nat}
theorem runOk_add{m:List al}(h:runOk p i l)(hm:goodM (endW p l) m)(hl:l.length+m.length≤20000):runOk p (i+1) (l++m.map (setB i)):=by
 obtain⟨a,b,c,d⟩:=h
 refine⟨goodM_append a (goodM_map hm i),?_,?_,by simp;omega⟩
 ·rw[List.pairwise_append]
  refine⟨b,?_,?_⟩
  ·rw[List.pairwise_map]
   exact List.Pairwise.imp (λ_=>Int.le_refl _) (List.pairwise_of_forall (R:=λ_ _=>True) (λ_ _=>trivial))
  ·intro x hx y hy
   obtain⟨z,_,rfl⟩:=List.mem_map.1 hy
   have:=(c x hx).2
   simp only[setB];omega
 ·intro x hx
  rcases List.mem_append.1 hx with q | q
  ·have:=c x q;omega
  ·obtain⟨z,_,rfl⟩:=List.mem_map.1 q
   simp only[setB];omega
theorem runB_ok(t:aC)(N:Nat)(p:ag)(ht:t.Lengths.length≤1000):∀(l:List aa) (i:Nat) (v:Run),(∀b∈l,okS b)→i+l.length=N→runOk p i v.1→v.2.1=endW p v.1 →
  runOk p N (runB t N i l v).1∧((runB t N i l v).2.Code≠0→∀m∈(runB t N i l v).1,m.Block<(runB t N i l v).2.Block)
 | [],i,v,_,hi,hr,_=>by
  simp only[List.length_nil,Nat.add_zero]at hi
  subst hi
  exact⟨hr,λ_ m hm=>(hr.2.2.1 m hm).2⟩
 | b::l,i,v,hb,hi,hr,hv=>by
  have hup:∀(j:Nat) (x:List al),j≤N→runOk p j x→runOk p N x:=λj x hj h=>⟨h.1,h.2.1,λm hm=>by have:=h.2.2.1 m hm;omega,h.2.2.2⟩
  simp only[zP]at hi
  have hE:=stepT_E (s:=v.2.2.1) (c:=v.2.2.2) (p:=v.2.1) (hb b (by simp)) ht
  simp only[runB]
  generalize fA v.2.2.1 v.2.2.2 b t v.2.1=r at hE
  by_cases h1:r.2.2.2=0
  ·have hg:=(hE.2.2 h1).1
   rw[hv]at hg
   by_cases h2:v.1.length+r.1.length>20000
   ·simp only[h1,h2,ne_eq,not_true_eq_false,oe,og]
    exact⟨hup i _ (by omega) hr,λ_ m hm=>(hr.2.2.1 m hm).2⟩
   ·have ha:=runOk_add hr hg (by omega)
    by_cases h3:endsW b=true
    ·simp only[h1,h2,h3,ne_eq,not_true_eq_false,oe,og]
     exact⟨hup (i+1) _ (by omega) ha,λh=>h.elim⟩
    ·simp only[h1,h2,h3,ne_eq,not_true_eq_false,oe]
     refine runB_ok t N p ht l (i+1) _ (λb hb'=>hb b (by simp[hb'])) (by omega) ha ?_
     simp only
     rw[endW_append,endW_map,hv]
  ·simp only[h1,ne_eq,not_false_eq_true,og]
   exact⟨hup i _ (by omega) hr,λ_ m hm=>(hr.2.2.1 m hm).2⟩
theorem r45_out_eq(p:ag):gS p=some (!decide (inR p)):=by
 (unfold gS r45_far;try delta jR jV)
 simp only[ae]
 by_cases h1:(decide (p.X>10000000)||decide (p.X < -10000000))=true
 ·have:¬inR p:=by unfold inR;simp at h1;omega
  simp[h1,this]
 by_cases h2:(decide (p.Y>10000000)||decide (p.Y < -10000000))=true
 ·have:¬inR p:=by unfold inR;simp at h2;omega
  simp[h1,h2,this]
 by_cases h3:(decide (p.Z>10000000)||decide (p.Z < -10000000))=true
 ·have:¬inR p:=by unfold inR;simp at h3;omega
  simp[h1,h2,h3,this]
 ·have:inR p:=by unfold inR;simp at h1 h2 h3;omega
  simp[h1,h2,h3,this]
theorem iv(t:bg)(hl:t.Lengths.length≤1000):di (aF t)=fC t:=by
 (unfold di fC aF;try delta jB jR rF iF)
 simp only[jM,r45_out_eq,ae]
 by_cases h0:inR t.Work.e0
 ·by_cases h1:inR t.Work.e1
  ·by_cases h2:inR t.Work.e2
   ·by_cases h3:inR t.Work.e3
    ·by_cases h4:inR t.Work.e4
     ·by_cases h5:inR t.Work.e5
      ·simp only[h0,h1,h2,h3,h4,h5,decide_true,Bool.not_true,zA,oe,d5,ae]
       rw[aK (l:=t.Lengths) (by omega),aK (by simp;omega),aN,aN]
       simp only[show decide ((-1:Int)≥0)=false by decide,zA,oe]
       congr 1
       have key:∀(f:Nat→bi→Unit→Option (Ex (Ex Int Unit) Unit)) (g:Nat→ca→Unit→Option (Ex (Ex Int Unit) Unit)),(∀i x,t.Lengths[i]? = some x→f i ⟨x.Number,x.Length⟩ ()=g i x ())→(∀i x,t.Lengths[i]? = some x→∃e,g i x ()=some e) →
         ∀(l:List ca) (i:Nat),t.Lengths.drop i=l→az f (λ_=>some (.go ())) (l.map λl=>⟨l.Number,l.Length⟩) i ()=az g (λ_=>some (.go ())) l i ():=by
        intro f g hfg hg l
        induction l with
        | nil=>intro i _;rfl
        | cons x l ih =>
         intro i hd
         have hx:t.Lengths[i]? = some x:=by
          have:(t.Lengths.drop i)[0]? = some x:=by rw[hd];rfl
          simpa using this
         have hrest:t.Lengths.drop (i+1)=l:=by rw[←List.drop_drop,hd];rfl
         simp only[List.map_cons,az,hfg i x hx]
         obtain⟨e,he⟩:=hg i x hx
         rw[he]
         cases e with
         | ret e=>rfl
         | go v=>exact ih (i+1) hrest
       refine key _ _ ?_ ?_ t.Lengths 0 rfl
       ·intro i x hx
        have hlt:=ak hx
        change ah (ah (kz ⟨x.Number,x.Length⟩) _) _=_
        (unfold kz ly;try delta jV)
        simp only[ae]
        by_cases hi:i=0
        ·subst hi;simp
        ·rw[am (by omega) (by omega),show ((i:Int)-1)=((i-1:Nat):Int) by omega]
         obtain⟨y,hy⟩:∃y,t.Lengths[i-1]? = some y:=⟨_,List.getElem?_eq_getElem (by omega)⟩
         rw[gt_k hy,gt_k (x:=⟨y.Number,y.Length⟩) (by rw[List.getElem?_map,hy];rfl)]
         simp only[ae,ge_iff_le]
       ·intro i x hx
        have hlt:=ak hx
        (unfold ly;try delta jV)
        simp only[ae]
        by_cases hi:i=0
        ·subst hi
         refine Exists.imp (λ_ h=>h) ?_
         have:=Tot.bind (m:=if (decide (x.Number≥1)&&(decide (x.Number≤999)&&(decide (x.Length≥0)&&decide (x.Length≤10000000))))=true then (if decide (((0:Nat):Int)>0)=true then ah (gt t.Lengths (IntKind.i64.wrap (((0:Nat):Int)-1))) λ(e197:ca)=>some (decide (x.Number≤e197.Number))else some false)else some true) (E:=λ_=>True) (F:=λ_=>True) (f:=λv198:Bool=>if v198=true then (some (.ret (.ret 1)):Option (Ex (Ex Int Unit) Unit))else some (.go ())) (Tot.ite (λ_=>.ok trivial) (λ_=>.ok trivial)) (λb _=>Tot.ite (λ_=>.ok trivial) (λ_=>.ok trivial))
         obtain⟨e,he,_⟩:=this
         exact⟨e,he⟩
        ·rw[am (by omega) (by omega),show ((i:Int)-1)=((i-1:Nat):Int) by omega]
         obtain⟨y,hy⟩:∃y,t.Lengths[i-1]? = some y:=⟨_,List.getElem?_eq_getElem (by omega)⟩
         rw[gt_k hy]
         simp only[ae]
         have:=Tot.bind (m:=if (decide (x.Number≥1)&&(decide (x.Number≤999)&&(decide (x.Length≥0)&&decide (x.Length≤10000000))))=true then (if decide ((i:Int)>0)=true then some (decide (x.Number≤y.Number))else some false)else some true) (E:=λ_=>True) (F:=λ_=>True) (f:=λv198:Bool=>if v198=true then (some (.ret (.ret 1)):Option (Ex (Ex Int Unit) Unit))else some (.go ())) (Tot.ite (λ_=>Tot.ite (λ_=>.ok trivial) (λ_=>.ok trivial)) (λ_=>.ok trivial)) (λb _=>Tot.ite (λ_=>.ok trivial) (λ_=>.ok trivial))
         obtain⟨e,he,_⟩:=this
         exact⟨e,he⟩
      ·simp[h0,h1,h2,h3,h4,h5]
     ·simp[h0,h1,h2,h3,h4]
    ·simp[h0,h1,h2,h3]
   ·simp[h0,h1,h2]
  ·simp[h0,h1]
 ·simp[h0]
theorem ii(t:bg)(hl:t.Lengths.length≤1000):Tot (fC t) (λe=>e=0∨e=1):=by
 rw[←iv t hl]
 exact (jo (aF t) (by simp[aF];omega)).mono λe h=>h.1
set_option linter.unusedVariables false
set_option linter.unusedSimpArgs false
theorem Tot.get{m:Option α}(h:Tot m (λe=>e=x)):m=some x:=by
 obtain⟨e,h1,h2⟩:=h
 rw[h1,h2]
def cycV(c:ao):Int :=
 if ¬(c.Code=83000∨c.Code=81000∨c.Code=82000)∨c.Z≥c.R∨c.R>c.Initial∨c.Rate<1∨c.Rate>1000000000000∨(c.Code=83000∧c.Q≤0)then 1
 else if (c.R>10000000∨c.R < -10000000)∨(c.Z>10000000∨c.Z < -10000000)∨(c.Initial>10000000∨c.Initial < -10000000)∨(c.Code=83000∧(c.Q>10000000∨c.Q < -10000000))then 11
 else if c.Code=83000∧(c.R-c.Z-1) / c.Q>999 then 3 else 0
variable {a:Int}
theorem tdiv_ed{b:Int}(h:0≤a):zL a b=a / b:=zB h
theorem nZ(c:ao):jD c=some (cycV c):=by
 obtain⟨code,R,Z,Q,rate,ini,high⟩:=c
 apply Tot.get
 (unfold jD cycV;try delta jR jV)
 dsimp only
 refine Tot.ite (λq=>.ok ?_) (λq=>?_)
 ·rw[od]
  by_cases a:code=83000
  ·subst a;simp at q;omega
  ·rw[oc (by simpa using a)]at q
   by_cases b:code=81000
   ·subst b;simp at q;omega
   ·simp[b]at q;omega
 ·have hb:¬(¬(code=83000∨code=81000∨code=82000)∨Z≥R∨R>ini∨rate<1∨rate>1000000000000∨(code=83000∧Q≤0)):=by
   by_cases a:code=83000
   ·subst a;simp at q;omega
   ·rw[oc (by simpa using a)]at q
    by_cases b:code=81000
    ·subst b;simp at q;omega
    ·simp[b]at q;omega
  rw[oc hb]
  refine Tot.bind (E:=λv=>v=decide ((R>10000000∨R < -10000000)∨(Z>10000000∨Z < -10000000)∨(ini>10000000∨ini < -10000000)∨(code=83000∧(Q>10000000∨Q < -10000000)))) ?_ (λv hv=>?_)
  ·(unfold jf;try delta jV)
   simp only[ae]
   refine Tot.ite (λq1=>.ok ?_) (λq1=>Tot.ite (λq2=>.ok ?_) (λq2=>Tot.ite (λq3=>.ok ?_) (λq3=>Tot.ite (λq4=>.ok ?_) (λq4=>.ok ?_))))
   ·simp at q1;rw[eq_comm,oo];omega
   ·simp at q2;rw[eq_comm,oo];omega
   ·simp at q3;rw[eq_comm,oo];omega
   ·simp at q4
    subst q4
    simp at q1 q2 q3
    rw[zE]
    simp only[zD,oo,true_and]
    omega
   ·simp at q1 q2 q3 q4
    rw[oi (by omega)]
  ·by_cases z:(R>10000000∨R < -10000000)∨(Z>10000000∨Z < -10000000)∨(ini>10000000∨ini < -10000000)∨(code=83000∧(Q>10000000∨Q < -10000000))
   ·rw[oh z]at hv
    subst hv
    rw[od rfl,od z]
    exact .ok rfl
   ·rw[oi z]at hv
    subst hv
    rw[oc (by simp),oc z]
    by_cases a:code=83000
    ·subst a
     have hQ:0<Q:=by omega
     rw[od (by simp),am (n:=R-Z) (by omega) (by omega),am (n:=R-Z-1) (by omega) (by omega),tdiv_ed (by omega)]
     have hd:0≤(R-Z-1) / Q:=Int.ediv_nonneg (by omega) (by omega)
     have hd2:(R-Z-1) / Q≤R-Z-1:=Int.ediv_le_self _ (by omega)
     rw[am (by omega) (by omega),beq_eq_false_iff_ne.2 (show Q≠0 by omega)]
     refine Tot.bind (E:=λv=>v=decide ((R-Z-1) / Q>999)) (.ok rfl) (λv hv=>?_)
     subst hv
     by_cases y:(R-Z-1) / Q>999
     ·rw[oh y,od rfl,od ⟨rfl,y⟩];exact .ok rfl
     ·rw[oi y,oc (by simp),oc (λw=>y w.2)];exact .ok rfl
    ·rw[oc (by simpa using a),oc (λw=>a w.1)]
     exact .ok rfl
structure CycOk (c:ao):Prop where
 code:c.Code=83000∨c.Code=81000∨c.Code=82000
 zr:c.Z<c.R
 ri:c.R≤c.Initial
 rate:1≤c.Rate∧c.Rate≤1000000000000
 q:c.Code=83000→0<c.Q∧c.Q≤10000000
 r:-10000000≤c.R∧c.R≤10000000
 z:-10000000≤c.Z∧c.Z≤10000000
 i:-10000000≤c.Initial∧c.Initial≤10000000
 n:c.Code=83000→0≤(c.R-c.Z-1) / c.Q∧(c.R-c.Z-1) / c.Q≤999
theorem cycV_ok(h:cycV c=0):CycOk c:=by
 unfold cycV at h
 by_cases h1:¬(c.Code=83000∨c.Code=81000∨c.Code=82000)∨c.Z≥c.R∨c.R>c.Initial∨c.Rate<1∨c.Rate>1000000000000∨(c.Code=83000∧c.Q≤0)
 ·rw[od h1]at h;cases h
 rw[oc h1]at h
 by_cases h2:(c.R>10000000∨c.R < -10000000)∨(c.Z>10000000∨c.Z < -10000000)∨(c.Initial>10000000∨c.Initial < -10000000)∨(c.Code=83000∧(c.Q>10000000∨c.Q < -10000000))
 ·rw[od h2]at h;cases h
 rw[oc h2]at h
 by_cases h3:c.Code=83000∧(c.R-c.Z-1) / c.Q>999
 ·rw[od h3]at h;cases h
 refine⟨by omega,by omega,by omega,by omega,λa=>by omega,by omega,by omega,by omega,λa=>⟨?_,?_⟩⟩
 ·exact Int.ediv_nonneg (by omega) (by omega)
 ·rcases Int.lt_or_le 999 ((c.R-c.Z-1) / c.Q)with y | y
  ·exact absurd ⟨a,y⟩ h3
  ·exact y
def depN(c:ao):Nat:=if c.Code=83000 then ((c.R-c.Z-1) / c.Q).toNat else 0
def depL(c:ao):List Int:=(List.range (depN c)).map (λ(k:Nat)=>c.R-((k:Int)+1)*c.Q)++[c.Z]
theorem dep_iff{R Z Q:Int}(hQ:0<Q)(k:Nat):(R-((k:Int)+1)*Q>Z)↔(k:Int)+1≤(R-Z-1) / Q:=by
 rw[Int.le_ediv_iff_mul_le hQ];omega
theorem depN_le(h:CycOk c):depN c≤999:=by
 unfold depN
 split
 ·rename_i a
  have:=h.n a;omega
 ·omega
theorem depL_len(h:CycOk c):(depL c).length≤1000:=by
 have:=depN_le h
 unfold depL
 simp;omega
variable {k:Int}
theorem mul_bd{Q:Int}(h0:0≤k)(h1:k≤2000)(q0:0<Q)(q1:Q≤10000000):0≤k*Q∧k*Q≤20000000000:=by
 have h2:k*Q≤2000*10000000:=zV h1 q1 (by omega) (by omega)
 exact⟨zH h0 (by omega),by omega⟩
theorem cy_Depths_eq(c:ao):gO c=some (if cycV c=0 then (depL c,0)else ([],cycV c)):=by
 (unfold gO;try delta jC lF gF)
 rw[nZ,ae]
 by_cases h:cycV c=0
 ·rw[od h,h,oc (by simp)]
  have ok:=cycV_ok h
  have hN:=depN_le ok
  apply Tot.get
  refine Tot.bind (E:=λv=>v=(List.range (depN c)).map (λ(k:Nat)=>c.R-((k:Int)+1)*c.Q)) (Tot.ite (λq=>?_) (λq=>.ok ?_)) (λv hv=>?_)
  ·have a:c.Code=83000:=by simpa using q
   obtain⟨q0,q1⟩:=ok.q a
   have r:=ok.r
   have hdn:depN c=((c.R-c.Z-1) / c.Q).toNat:=by unfold depN;rw[od a]
   have hn:=ok.n a
   refine Tot.loop (λm (v:List Int×Int)=>∃k:Nat,v=((List.range k).map (λ(k:Nat)=>c.R-((k:Int)+1)*c.Q),c.R-((k:Int)+1)*c.Q)∧k≤depN c∧m=depN c-k) _ (depN c) (by unfold fuel;omega) ⟨0,?_,zT _,rfl⟩ (λm v hr=>?_)
   ·rw[am (by omega) (by omega)];simp
   ·obtain⟨k,rfl,k1,k2⟩:=hr
    have hb:=mul_bd (k:=(k:Int)+1) (by omega) (by omega) q0 q1
    have hb2:=mul_bd (k:=(k:Int)+2) (by omega) (by omega) q0 q1
    have he:((k:Int)+2)*c.Q=((k:Int)+1)*c.Q+c.Q:=by
     rw[show (k:Int)+2=((k:Int)+1)+1 by omega,zZ];omega
    have hi:=dep_iff (R:=c.R) (Z:=c.Z) q0 k
    dsimp only
    by_cases y:c.R-((k:Int)+1)*c.Q>c.Z
    ·have y2:=hi.1 y
     rw[oh y,od rfl]
     refine .guard (aQ (by simp;omega)) (.go ⟨depN c-(k+1),by omega,k+1,?_,by omega,rfl⟩)
     rw[am (by omega) (by omega),List.range_succ,List.map_append]
     have e:c.R-((k:Int)+1)*c.Q-c.Q=c.R-(((k+1:Nat):Int)+1)*c.Q:=by
      rw[show ((k+1:Nat):Int)+1=(k:Int)+2 by omega,he];omega
     rw[e];rfl
    ·have y2:¬((k:Int)+1≤(c.R-c.Z-1) / c.Q):=λw=>y (hi.2 w)
     rw[oi y,oc (by simp)]
     refine .ret ?_
     rw[show k=depN c by omega]
  ·have a:c.Code≠83000:=by simpa using q
   unfold depN
   rw[oc a];rfl
  ·subst hv
   refine .guard (aQ (by simp;omega)) (.ok rfl)
 ·rw[oc h,od (by simpa using h)]
def goM(s:ag×List ar)(q:ag)(r:Int):ag×List ar:=if q=s.1 then s else (q,s.2++[ar.mk (if r>0 then 2 else 1) q (aO.mk 0 0) r])
theorem pos_eta(p:ag):ag.mk p.X p.Y p.Z=p:=rfl
theorem pos_ext{q:ag}:p=q↔p.X=q.X∧p.Y=q.Y∧p.Z=q.Z:=by
 cases p;cases q;simp
theorem ek(s:ag×List ar)(q:ag)(r:Int):(goM s q r).2.length≤s.2.length+1:=by
 unfold goM;split<;>simp
theorem lZ(s:ag×List ar)(q:ag)(r:Int):(goM s q r).1=q:=by
 unfold goM;split
 ·rename_i h;exact h.symm
 ·rfl
def cycM(c:ao)(p:ag)(g:aO):ag×List ar :=
 let m0:=goM (p,[]) (ag.mk p.X p.Y (if p.Z<c.R then c.R else p.Z)) 0
 let m1:=goM m0 (ag.mk g.X g.Y m0.1.Z) 0
 let m2:=goM m1 (ag.mk g.X g.Y c.R) 0
 let m3:=(depL c).foldl (λs z=>goM (goM s (ag.mk g.X g.Y z) c.Rate) (ag.mk g.X g.Y c.R) 0) m2
 if c.High=true then goM m3 (ag.mk g.X g.Y c.Initial) 0 else m3
variable {r:Int}
theorem own_go{q:ag}{l:List ar}(hk:k=if r>0 then 2 else 1)(hl:l.length≤10000000):(if (!((q.X==p.X)&&((q.Y==p.Y)&&(q.Z==p.Z))))=true then av (bo (l.length+1)) (some (q,l++[ar.mk k q (aO.mk 0 0) r]))else some (p,l))=some (goM (p,l) q r):=by
 unfold goM
 rw[aQ (by omega),aN]
 by_cases h:q=p
 ·subst h;simp
 ·rw[oc (show ¬q=(p,l).1 from h),od,hk]
  rw[pos_ext]at h
  simp;omega
theorem fold_pos(c:ao)(g:aO):∀(l:List Int) (s:ag×List ar),s.1.X=g.X→s.1.Y=g.Y→(l.foldl (λs z=>goM (goM s (ag.mk g.X g.Y z) c.Rate) (ag.mk g.X g.Y c.R) 0) s).1.X=g.X∧(l.foldl (λs z=>goM (goM s (ag.mk g.X g.Y z) c.Rate) (ag.mk g.X g.Y c.R) 0) s).1.Y=g.Y
 | [],s,h1,h2=>⟨h1,h2⟩
 | z::l,s,h1,h2=>by
  rw[List.foldl_cons]
  exact fold_pos c g l _ (by rw[lZ]) (by rw[lZ])
theorem fold_len(c:ao)(g:aO):∀(l:List Int) (s:ag×List ar),(l.foldl (λs z=>goM (goM s (ag.mk g.X g.Y z) c.Rate) (ag.mk g.X g.Y c.R) 0) s).2.length≤s.2.length+2*l.length
 | [],s=>by simp
 | z::l,s=>by
  rw[List.foldl_cons]
  have h1:=fold_len c g l (goM (goM s (ag.mk g.X g.Y z) c.Rate) (ag.mk g.X g.Y c.R) 0)
  have h2:=ek (goM s (ag.mk g.X g.Y z) c.Rate) (ag.mk g.X g.Y c.R) 0
  have h3:=ek s (ag.mk g.X g.Y z) c.Rate
  simp only[zP]
  omega
theorem cycM_len(h:CycOk c)(p:ag)(g:aO):(cycM c p g).2.length≤2010:=by
 unfold cycM
 have hd:=depL_len h
 dsimp only
 have a0:=ek (p,[]) (ag.mk p.X p.Y (if p.Z<c.R then c.R else p.Z)) 0
 generalize goM (p,[]) (ag.mk p.X p.Y (if p.Z<c.R then c.R else p.Z)) 0=m0 at *
 have a1:=ek m0 (ag.mk g.X g.Y m0.1.Z) 0
 generalize goM m0 (ag.mk g.X g.Y m0.1.Z) 0=m1 at *
 have a2:=ek m1 (ag.mk g.X g.Y c.R) 0
 generalize goM m1 (ag.mk g.X g.Y c.R) 0=m2 at *
 have a3:=fold_len c g (depL c) m2
 generalize (depL c).foldl (λs z=>goM (goM s (ag.mk g.X g.Y z) c.Rate) (ag.mk g.X g.Y c.R) 0) m2=m3 at *
 have a4:=ek m3 (ag.mk g.X g.Y c.Initial) 0
 simp only[List.length_nil]at a0
 split<;>omega
def far3(p:ag)(g:aO):Prop:=(p.X>10000000∨p.X < -10000000)∨(p.Y>10000000∨p.Y < -10000000)∨(p.Z>10000000∨p.Z < -10000000)∨(g.X>10000000∨g.X < -10000000)∨(g.Y>10000000∨g.Y < -10000000)
instance (p:ag) (g:aO):Decidable (far3 p g):=by unfold far3;infer_instance
def expV(c:ao)(p:ag)(g:aO):List ar×Int:=if cycV c=0 then (if far3 p g then ([],11)else ((cycM c p g).2,0))else ([],cycV c)
theorem l5(n:Int):jf n=some (decide (n>10000000∨n < -10000000)):=by
 (unfold jf;try delta jV)
 congr 1
 by_cases a:n>10000000<;>by_cases b:n < -10000000<;>simp[a,b]
variable {ε ν:Type}
theorem range_one{f:Nat→α→ν→Option (Ex ε ν)}{d:ν→Option ε}{v:ν}:az f d [x] 0 v=match f 0 x v with
  | some (.ret e)=>some e
  | some (.go u)=>d u
  | none=>none:=by
 simp only[az]
 cases f 0 x v with
 | none=>rfl
 | some e=>cases e<;>rfl
theorem cy_Expand_one(c:ao)(p:ag)(g:aO):jg c p [g]=some (expV c p g):=by
  (unfold jg expV;try delta jB jC jR rF gF iF)
  rw[cy_Depths_eq,ae]
  by_cases h:cycV c=0
  · rw[od h,od h,oc (by simp)]
    have ok:=cycV_ok h
    have hdl:=depL_len ok
    apply Tot.get
    refine Tot.bind (E:=λv=>v=decide ((p.X>10000000∨p.X < -10000000)∨(p.Y>10000000∨p.Y < -10000000)∨(p.Z>10000000∨p.Z < -10000000))) ?_ (λv hv=>?_)
    · rw[l5,l5,l5]
      simp only[ae]
      refine Tot.ite (λq1=>.ok ?_) (λq1=>Tot.ite (λq2=>.ok ?_) (λq2=>.ok ?_))
      · simp at q1;rw[eq_comm,oo];omega
      · simp at q2;rw[eq_comm,oo];omega
      · simp at q1 q2
        by_cases z:p.Z>10000000∨p.Z < -10000000
        · rw[oh z,oh (by omega)]
        · rw[oi z,oi (by omega)]
    · refine Tot.bind (E:=λu=>u=decide (far3 p g)) (Tot.guard rfl ?_) (λu hu=>?_)
      · rw[range_one,hv]
        refine Tot.eq (x:=decide (far3 p g)) ?_ rfl
        rw[l5,l5]
        by_cases a:(p.X>10000000∨p.X < -10000000)∨(p.Y>10000000∨p.Y < -10000000)∨(p.Z>10000000∨p.Z < -10000000)
        · rw[oh a,oh (show far3 p g by unfold far3;omega)];rfl
        · rw[oi a]
          by_cases b:g.X>10000000∨g.X < -10000000
          · rw[oh b,oh (show far3 p g by unfold far3;omega)];rfl
          · rw[oi b]
            by_cases d:g.Y>10000000∨g.Y < -10000000
            · rw[oh d,oh (show far3 p g by unfold far3;omega)];rfl
            · rw[oi d,oi (show ¬far3 p g by unfold far3;omega)];rfl
      · subst hu
        by_cases z:far3 p g
        · rw[oh z,od rfl,od z];exact .ok rfl
        · rw[oi z,oc (by simp),oc z]
          obtain⟨m0,hm0⟩:∃m0,goM (p,[]) (ag.mk p.X p.Y (if p.Z<c.R then c.R else p.Z)) 0=m0:=⟨_,rfl⟩
          obtain⟨m1,hm1⟩:∃m1,goM m0 (ag.mk g.X g.Y m0.1.Z) 0=m1:=⟨_,rfl⟩
          obtain⟨m2,hm2⟩:∃m2,goM m1 (ag.mk g.X g.Y c.R) 0=m2:=⟨_,rfl⟩
          obtain⟨m3,hm3⟩:∃m3,(depL c).foldl (λs z=>goM (goM s (ag.mk g.X g.Y z) c.Rate) (ag.mk g.X g.Y c.R) 0) m2=m3:=⟨_,rfl⟩
          have hcyc:cycM c p g=if c.High=true then goM m3 (ag.mk g.X g.Y c.Initial) 0 else m3:=by
            unfold cycM
            dsimp only
            rw[hm0,hm1,hm2,hm3]
          have hlenM:=cycM_len ok p g
          have p0:m0.1=ag.mk p.X p.Y (if p.Z<c.R then c.R else p.Z):=by rw[←hm0];exact lZ _ _ _
          have l0:m0.2.length≤1:=by rw[←hm0];exact ek _ _ _
          have l1:m1.2.length≤2:=by have:=ek m0 (ag.mk g.X g.Y m0.1.Z) 0;rw[hm1]at this;omega
          have l2:m2.2.length≤3:=by have:=ek m1 (ag.mk g.X g.Y c.R) 0;rw[hm2]at this;omega
          have l3:m3.2.length≤2003:=by have:=fold_len c g (depL c) m2;rw[hm3]at this;omega
          have hrate:c.Rate>0:=by have:=ok.rate;omega
          refine Tot.bindX (E:=λs=>s=cycM c p g) (TotX.of (Tot.guard rfl (Tot.range (λi v=>v=if i=0 then (p,[])else cycM c p g) _ rfl (λi x v hx hv=>?_) (λv hv=>.ok ?_)))) (λs hs=>.ok (by rw[hs]))
          · have hi:i=0:=by have:=ak hx;simpa using this
            subst hi
            injection hx with hx
            subst hx
            rw[od rfl]at hv
            subst hv
            rw[oc (show ¬(0+1=0) by omega)]
            refine TotX.bindX (E:=λs=>s=cycM c p g) ?_ (λs hs=>.go hs)
            dsimp only
            refine TotX.bind (E:=λv=>v=(m0.1.Z,m0.2)) (Tot.ite (λq=>?_) (λq=>.ok ?_)) (λv hv=>?_)
            · have q':p.Z<c.R:=by simpa using q
              have e0:m0=(ag.mk p.X p.Y c.R,[ar.mk 1 (ag.mk p.X p.Y c.R) (aO.mk 0 0) 0]):=by
                rw[←hm0,od q']
                unfold goM
                rw[oc (by
                  show ¬(ag.mk p.X p.Y c.R=p)
                  rw[pos_ext]
                  show ¬(p.X=p.X∧p.Y=p.Y∧c.R=p.Z)
                  omega)]
                rfl
              rw[e0]
              refine Tot.bind (E:=λv=>v=(c.R,[ar.mk 1 (ag.mk p.X p.Y c.R) (aO.mk 0 0) 0])) (Tot.ite (λ_=>.guard (aQ (by simp)) (.ok rfl)) (λq2=>?_)) (λv hv=>.ok (by rw[hv]))
              simp at q2;omega
            · have q':¬p.Z<c.R:=by simpa using q
              have e0:m0=(p,[]):=by
                rw[←hm0,oc q']
                unfold goM
                rw[od (pos_eta p)]
              rw[e0]
            · subst hv
              dsimp only
              have e0:(ag.mk p.X p.Y m0.1.Z,m0.2)=m0:=by
                have:ag.mk p.X p.Y m0.1.Z=m0.1:=by rw[p0]
                rw[this]
              have g1:=own_go (p:=ag.mk p.X p.Y m0.1.Z) (q:=ag.mk g.X g.Y m0.1.Z) (l:=m0.2) (k:=1) (r:=0) rfl (by omega)
              refine TotX.bind (E:=λv=>v=m1) (Tot.eq g1 (by rw[e0,hm1])) (λv hv=>?_)
              subst hv
              have g2:=own_go (p:=v.1) (q:=ag.mk g.X g.Y c.R) (l:=v.2) (k:=1) (r:=0) rfl (by omega)
              refine TotX.bind (E:=λv=>v=m2) (Tot.eq g2 hm2) (λv2 hv=>?_)
              subst hv
              refine TotX.bind (E:=λv=>v=m3) (Tot.guard (aK (by omega)) (Tot.range (λi v=>v=((depL c).take i).foldl (λs z=>goM (goM s (ag.mk g.X g.Y z) c.Rate) (ag.mk g.X g.Y c.R) 0) v2∧v.2.length≤3+2*i) _ ⟨rfl,by simpa using l2⟩ (λi z u hx hu=>?_) (λu hu=>.ok ?_))) (λv3 hv=>?_)
              · obtain⟨hu1,hu2⟩:=hu
                have hil:=ak hx
                have g3:=own_go (p:=u.1) (q:=ag.mk g.X g.Y z) (l:=u.2) (k:=2) (r:=c.Rate) (by rw[od hrate]) (by omega)
                have lu:=ek (u.1,u.2) (ag.mk g.X g.Y z) c.Rate
                refine TotX.bind (E:=λw=>w=goM (u.1,u.2) (ag.mk g.X g.Y z) c.Rate) (Tot.eq g3 rfl) (λw hw=>?_)
                subst hw
                have g4:=own_go (p:=(goM (u.1,u.2) (ag.mk g.X g.Y z) c.Rate).1) (q:=ag.mk g.X g.Y c.R) (l:=(goM (u.1,u.2) (ag.mk g.X g.Y z) c.Rate).2) (k:=1) (r:=0) rfl (by
                  have:(u.1,u.2).2.length=u.2.length:=rfl
                  omega)
                refine TotX.bind (E:=λw=>w=goM (goM (u.1,u.2) (ag.mk g.X g.Y z) c.Rate) (ag.mk g.X g.Y c.R) 0) (Tot.eq g4 rfl) (λw hw=>.go ?_)
                subst hw
                have lw:=ek (goM (u.1,u.2) (ag.mk g.X g.Y z) c.Rate) (ag.mk g.X g.Y c.R) 0
                refine⟨?_,?_⟩
                · rw[zI,hx,List.foldl_append,←hu1];rfl
                · have:(u.1,u.2).2.length=u.2.length:=rfl
                  show (goM (goM (u.1,u.2) (ag.mk g.X g.Y z) c.Rate) (ag.mk g.X g.Y c.R) 0).2.length≤_
                  omega
              · rw[hu.1,List.take_length,hm3]
              · subst hv
                refine TotX.bind (E:=λv=>v=cycM c p g) (Tot.ite (λq=>?_) (λq=>.ok ?_)) (λv4 hv=>?_)
                · have g5:=own_go (p:=v3.1) (q:=ag.mk g.X g.Y c.Initial) (l:=v3.2) (k:=1) (r:=0) rfl (by omega)
                  refine Tot.bind (E:=λw=>w=cycM c p g) (Tot.eq g5 (by rw[hcyc,od q])) (λw hw=>.ok (by rw[hw]))
                · rw[hcyc,oc (by rw[q];simp)]
                · subst hv
                  refine TotX.ite (λq=>?_) (λ_=>.go rfl)
                  simp at q;omega
          · rw[hv];simp
  · rw[oc h,oc h,od (by simpa using h)]
theorem cy_Read_same(b:aa)(k f i:Int)(hi:Bool)(o:ao)(hl:b.Words.length≤1000):∃c:ao,n5 b k f i hi o=some (if cycV c=0 then (c,0)else (ao.mk 0 0 0 0 0 0 false,cycV c))∧c=ao.mk k (if (bp b 82).2=true then (bp b 82).1 else o.R) (if (bp b 90).2=true then (bp b 90).1 else o.Z) (if (bp b 81).2=true then (bp b 81).1 else o.Q) (if (bp b 70).2=true then (bp b 70).1 else f) i hi:=by
 have hc:∀l d,dG l d b=some (if (bp b l).2=true then (bp b l).1 else d):=by
  intro l d
  unfold dG
  rw[iB b l hl,ae]
  split<;>rfl
 refine⟨_,?_,rfl⟩
 unfold n5
 rw[hc,hc,hc,hc,ae,ae,ae,ae,nZ,ae]
 by_cases h:cycV (ao.mk k (if (bp b 82).2=true then (bp b 82).1 else o.R) (if (bp b 90).2=true then (bp b 90).1 else o.Z) (if (bp b 81).2=true then (bp b 81).1 else o.Q) (if (bp b 70).2=true then (bp b 70).1 else f) i hi)=0
 ·rw[od h,h];rfl
 ·rw[oc h,od (by simpa using h)]
theorem eJ(n:Int):IntKind.u64.wrap n=n % 18446744073709551616:=by
 simp[IntKind.wrap,IntKind.bits,IntKind.signed]
def i64P(n:Int):Prop:=-9223372036854775808≤n∧n≤9223372036854775807
def dst(a b:Int):Int:=if a<b then b-a else a-b
theorem dY{b:Int}(ha:i64P a)(hb:i64P b):ct a b=some (dst a b):=by
 unfold i64P at *
 (unfold ct dst;try delta jC)
 by_cases h:a<b
 ·simp only[h,decide_true,og,ae,eJ];congr 1;omega
 ·simp only[h,decide_false,oe,ae,eJ,zA];congr 1;omega
theorem ju{b:Int}(ha:i64P a)(hb:i64P b):i8 a b=some (dst a b):=dY ha hb
def rad(p:ag)(c:aO):Int:=if p.Y=c.Y then dst p.X c.X else if p.X=c.X then dst p.Y c.Y else 0
theorem nN{c:aO}(h1:i64P p.X)(h2:i64P p.Y)(h3:i64P c.X)(h4:i64P c.Y):∃d,cz p c=some (d,rad p c):=by
 (unfold cz rad;try delta jV)
 simp only[dY h1 h3,dY h2 h4,ae]
 by_cases e1:p.Y=c.Y<;>by_cases e2:p.X=c.X<;>rcases Int.lt_trichotomy p.X c.X with q | q | q<;>rcases Int.lt_trichotomy p.Y c.Y with r | r | r<;>first | (exfalso;omega)|(simp[e1,e2,q,r,dst];done)|(simp[e1,e2,q,r,dst];split<;>exact⟨_,rfl⟩)|(simp[e1,e2,q,r,dst];repeat (first | exact⟨_,rfl⟩ | split))
def farP(n:Int):Bool:=decide (n>10000000∨n < -10000000)
theorem r33_far_eq(n:Int):eh n=some (farP n):=by (unfold eh farP;try delta jV);congr 1;by_cases h:n>10000000<;>by_cases h2:n < -10000000<;>simp[h,h2]
theorem dst0(n:Int):decide (dst n 0>10000000)=farP n:=by
 unfold farP dst
 apply decide_eq_decide.2
 split<;>omega
def far6(p q:ag):Bool:=farP p.X||farP p.Y||farP p.Z||farP q.X||farP q.Y||farP q.Z
def movV(p:ag)(m:ar):Int :=
 if (m.Kind=1∧m.Rate=0)∨(m.Kind=2∧m.Rate>0)then (if far6 p m.To=true then 11 else 0)
 else if (m.Kind=3∨m.Kind=4)∧m.Rate>0∧rad p m.Center>0∧rad p m.Center=rad m.To m.Center then
  (if (far6 p m.To||farP m.Center.X||farP m.Center.Y||farP (m.Center.X+rad p m.Center)||farP (m.Center.X-rad p m.Center)||farP (m.Center.Y+rad p m.Center)||farP (m.Center.Y-rad p m.Center))=true then 11 else 0)
 else 1
def okPos(p:ag):Prop:=i64P p.X∧i64P p.Y∧i64P p.Z
def lN(m:ar):Prop:=i64P m.Kind∧okPos m.To∧i64P m.Center.X∧i64P m.Center.Y∧i64P m.Rate
def apU(a b:Int):Int:=if a<b then IntKind.u64.wrap (IntKind.u64.wrap b-IntKind.u64.wrap a)else IntKind.u64.wrap (IntKind.u64.wrap a-IntKind.u64.wrap b)
theorem ip_apart_u(a b:Int):ct a b=some (apU a b):=by
 (unfold ct apU;try delta jC)
 by_cases h:a<b<;>simp[h]
theorem apU_eq{b:Int}(ha:i64P a)(hb:i64P b):apU a b=dst a b:=by
 have h1:=ip_apart_u a b
 rw[dY ha hb]at h1
 injection h1 with h1
 exact h1.symm
theorem any_congr'{α:Type}{p q:α→Bool}:∀{l:List α},(∀x∈l,p x=q x)→l.any p=l.any q
 | [],_=>rfl
 | x::l,h=>by rw[List.any_cons,List.any_cons,h x (by simp),any_congr' λy hy=>h y (by simp[hy])]
theorem bindX_go{f:ν→Option ε}{v:ν}:bindX (some (.go v)) f=f v:=rfl
theorem far_list(l:List Int)(hl:∀x∈l,i64P x)(hs:l.length≤100) :
  bindX (av (be l) (az (λ(i:Nat) (e:Int) (v:Unit)=>ah (ct e 0) λ(y:Int)=>if (decide (y>10000000))=true then some (.ret (.ret 11))else some (.go ())) (λ(v:Unit)=>some (.go ())) l 0 ())) (λ(v:Unit)=>some (0:Int))=some (if l.any farP=true then 11 else 0):=by
 have h:=iQ (r:=(11:Int)) (p:=λe=>decide (apU e 0>10000000)) (f:=λ(i:Nat) (e:Int) (v:Unit)=>ah (ct e 0) λ(y:Int)=>if (decide (y>10000000))=true then some (.ret (.ret 11))else some (.go ())) l 0 (λi x=>by rw[ip_apart_u,ae])
 rw[aK (by omega),aN,h,any_congr' (q:=farP) (λx hx=>by rw[apU_eq (hl x hx) (by unfold i64P;omega),dst0])]
 cases l.any farP<;>rfl
variable {m:ar}
theorem ip_right_eq(hp:okPos p)(hm:lN m):il p m=some (decide ((m.Kind=1∧m.Rate=0)∨(m.Kind=2∧m.Rate>0)∨((m.Kind=3∨m.Kind=4)∧m.Rate>0∧rad p m.Center>0∧rad p m.Center=rad m.To m.Center))):=by
 obtain⟨h1,h2,h3,h4,h5⟩:=hm
 obtain⟨d,hd⟩:=nN hp.1 hp.2.1 h3 h4
 obtain⟨d',hd'⟩:=nN h2.1 h2.2.1 h3 h4
 (unfold il im;try delta jR jV)
 by_cases e1:m.Kind=1
 ·by_cases q:m.Rate=0<;>simp[e1,q]
 ·by_cases e2:m.Kind=2
  ·by_cases q:m.Rate>0<;>simp[e2,q]
  ·by_cases e3:m.Kind=3∨m.Kind=4
   ·have hb:((m.Kind==3)||(m.Kind==4))=true:=by simpa using e3
    by_cases q:m.Rate>0<;>by_cases q2:rad p m.Center>0<;>by_cases q3:rad p m.Center=rad m.To m.Center<;>simp[e1,e2,e3,hb,hd,hd',q,q2,q3]<;>first | done | (simp_all;done)|(simp_all;by_cases w:0<rad m.To m.Center<;>simp[w])
   ·have hb:((m.Kind==3)||(m.Kind==4))=false:=by
     rw[not_or]at e3
     simp[e3]
    simp[e1,e2,e3,hb,hd,hd']
theorem rad_nn(p:ag)(c:aO):0≤rad p c:=by
 unfold rad dst;split<;>(try split)<;>(try split)<;>omega
theorem ip_Valid_eq(hp:okPos p)(hm:lN m):io p m=some (movV p m):=by
 have hr:=ip_right_eq hp hm
 obtain⟨h1,h2,h3,h4,h5⟩:=hm
 obtain⟨d,hd⟩:=nN hp.1 hp.2.1 h3 h4
 have z:i64P 0:=by unfold i64P;omega
 (unfold io;try delta jB jC jR rF)
 rw[show il (ag.mk p.X p.Y p.Z) (ar.mk m.Kind m.To m.Center m.Rate)=il p m from rfl,hr,ae]
 rw[show cz (ag.mk p.X p.Y p.Z) m.Center=cz p m.Center from rfl,hd]
 simp only[ae,im,dY h3 z,dY h4 z,auN]
 unfold movV
 by_cases e1:(m.Kind=1∧m.Rate=0)∨(m.Kind=2∧m.Rate>0)
 ·have hb:((m.Kind==3)||(m.Kind==4))=false:=by
   have h3:¬(m.Kind=3):=by omega
   have h4:¬(m.Kind=4):=by omega
   simp[h3,h4]
  rw[oh (by rcases e1 with e | e;exact .inl e;exact .inr (.inl e)),oc (by simp),hb,oc (by simp)]
  rw[od e1]
  rw[bindX_go,far_list _ (λx hx=>?_) (by simp)]
  ·simp[far6,Bool.or_assoc]
  ·obtain⟨p1,p2,p3⟩:=hp
   obtain⟨t1,t2,t3⟩:=h2
   simp only[zJ,zF,or_false]at hx
   rcases hx with rfl | rfl | rfl | rfl | rfl | rfl<;>assumption
 ·rw[oc e1]
  by_cases e2:(m.Kind=3∨m.Kind=4)∧m.Rate>0∧rad p m.Center>0∧rad p m.Center=rad m.To m.Center
  ·have hb:((m.Kind==3)||(m.Kind==4))=true:=by simpa using e2.1
   rw[oh (.inr (.inr e2)),oc (by simp),hb,od rfl,od e2]
   simp only[dst0]
   have hnn:=rad_nn p m.Center
   by_cases q1:rad p m.Center>10000000
   ·have hf:(far6 p m.To||farP m.Center.X||farP m.Center.Y||farP (m.Center.X+rad p m.Center)||farP (m.Center.X-rad p m.Center)||farP (m.Center.Y+rad p m.Center)||farP (m.Center.Y-rad p m.Center))=true:=by
     have:farP (m.Center.X+rad p m.Center)=true∨farP (m.Center.X-rad p m.Center)=true:=by
      unfold farP;simp only[oo];omega
     simp only[zD]
     rcases this with q | q<;>simp[q]
    rw[oh q1,od rfl,ae,od rfl,od hf]
    rfl
   ·rw[oi q1,oc (by simp)]
    by_cases q2:farP m.Center.X=true
    ·rw[od q2,ae,od rfl,od (by simp[q2])]
     rfl
    ·rw[oc q2]
     by_cases q3:farP m.Center.Y=true
     ·rw[q3,ae,od rfl,od (by simp)]
      rfl
     ·have q2':farP m.Center.X=false:=by simpa using q2
      have q3':farP m.Center.Y=false:=by simpa using q3
      have b1:-10000000≤m.Center.X∧m.Center.X≤10000000:=by unfold farP at q2';simp at q2';omega
      have b2:-10000000≤m.Center.Y∧m.Center.Y≤10000000:=by unfold farP at q3';simp at q3';omega
      rw[q3',ae,oc (by simp)]
      rw[am (n:=rad p m.Center) (by omega) (by omega),am (by omega) (by omega),am (by omega) (by omega),am (by omega) (by omega),am (by omega) (by omega)]
      rw[bindX_go,far_list _ (λx hx=>?_) (by simp)]
      ·simp[far6,Bool.or_assoc,q2',q3']
      ·obtain⟨p1,p2,p3⟩:=hp
       obtain⟨t1,t2,t3⟩:=h2
       simp only[zJ,zF,or_false]at hx
       rcases hx with rfl | rfl | rfl | rfl | rfl | rfl | rfl | rfl | rfl | rfl<;>first | assumption | (unfold i64P;omega)
  ·rw[oc e2,oi (by rintro (q | q | q);exact e1 (.inl q);exact e1 (.inr q);exact e2 q)]
   rfl
theorem right_core{A B C D:Int}(a1:0≤A)(a2:A<18446744073709551616)(b1:0≤B)(b2:B<18446744073709551616)(c1:0≤C)(c2:C<18446744073709551616)(d1:0≤D)(d2:D<18446744073709551616) :
  (!((A==0)==(B==0))&&(!((C==0)==(D==0))&&((IntKind.u64.wrap (A+B))==(IntKind.u64.wrap (C+D)))))=decide ((if B=0 then A else if A=0 then B else 0)>0∧(if B=0 then A else if A=0 then B else 0)=(if D=0 then C else if C=0 then D else 0)):=by
 rw[zE]
 by_cases e1:A=0<;>by_cases e2:B=0<;>by_cases e3:C=0<;>by_cases e4:D=0<;>simp[e1,e2,e3,e4,eJ]<;>(first | omega | (intro hh;exfalso;apply hh;rw[beq_false_of_ne e3,beq_false_of_ne e4];done)|(intro hh;exfalso;apply hh;rw[beq_false_of_ne e1,beq_false_of_ne e2]))
theorem r33_right_eq(hp:okPos p)(hm:lN m):lL p m=some (decide (rad p m.Center>0∧rad p m.Center=rad m.To m.Center)):=by
 obtain⟨h1,h2,h3,h4,h5⟩:=hm
 (unfold lL;try delta jV)
 rw[ju hp.1 h3,ae,ju hp.2.1 h4,ae,ju h2.1 h3,ae,ju h2.2.1 h4,ae]
 have key:∀a b:Int,i64P a→i64P b→0≤dst a b∧dst a b<18446744073709551616∧(dst a b=0↔a=b):=by
  intro a b ha hb
  unfold i64P at ha hb
  unfold dst
  split<;>omega
 have a1:=key p.X m.Center.X hp.1 h3
 have a2:=key p.Y m.Center.Y hp.2.1 h4
 have a3:=key m.To.X m.Center.X h2.1 h3
 have a4:=key m.To.Y m.Center.Y h2.2.1 h4
 unfold rad
 have r1:(if p.Y=m.Center.Y then dst p.X m.Center.X else if p.X=m.Center.X then dst p.Y m.Center.Y else 0)=(if dst p.Y m.Center.Y=0 then dst p.X m.Center.X else if dst p.X m.Center.X=0 then dst p.Y m.Center.Y else 0):=by simp only[a1.2.2,a2.2.2]
 have r2:(if m.To.Y=m.Center.Y then dst m.To.X m.Center.X else if m.To.X=m.Center.X then dst m.To.Y m.Center.Y else 0)=(if dst m.To.Y m.Center.Y=0 then dst m.To.X m.Center.X else if dst m.To.X m.Center.X=0 then dst m.To.Y m.Center.Y else 0):=by simp only[a3.2.2,a4.2.2]
 rw[r1,r2]
 exact congrArg some (right_core a1.1 a1.2.1 a2.1 a2.2.1 a3.1 a3.2.1 a4.1 a4.2.1)
theorem r33_quad_eq  {c:aO} (h1 : -10000000 ≤ p.X ∧ p.X ≤ 10000000) (h2 : -10000000 ≤ p.Y ∧ p.Y ≤ 10000000) (h3 : -10000000 ≤ c.X ∧ c.X ≤ 10000000) (h4 : -10000000 ≤ c.Y ∧ c.Y ≤ 10000000) :
    ∃d,bS (IntKind.i64.wrap (p.X-c.X)) (IntKind.i64.wrap (p.Y-c.Y))=some (d,rad p c)∧(d<0↔rad p c=0):=by
  rw[am (by omega) (by omega),am (by omega) (by omega)]
  (unfold bS;try delta jV)
  rw[am (n:=0-(p.X-c.X)) (by omega) (by omega),am (n:=0-(p.Y-c.Y)) (by omega) (by omega)]
  unfold rad dst
  by_cases q1:p.X-c.X>0<;>by_cases q2:p.X-c.X=0<;>by_cases q3:p.Y-c.Y>0<;>by_cases q4:p.Y-c.Y=0<;>first
    | (exfalso;omega)
    | (by_cases q5 : p.X - c.X < 0 <;> by_cases q6 : p.Y - c.Y < 0 <;> first
        | (exfalso;omega)
        | (simp only [oo, zX, beq_iff_eq, q1, q2, q3, q4, q5, q6, and_true, true_and, and_false, false_and, og, oe, and_self]
           refine⟨_,rfl,?_⟩<;>split<;>(try split)<;>(try split)<;>omega)
        | (simp only [oo, zX, beq_iff_eq, q1, q2, q3, q4, q5, q6, and_true, true_and, and_false, false_and, og, oe, and_self]
           refine⟨_,congrArg some (Prod.ext rfl ?_),?_⟩<;>(try dsimp only)<;>(try split)<;>(try split)<;>(try split)<;>(try split)<;>omega))
theorem fO{n:Int}(h:farP n=false):-10000000≤n∧n≤10000000:=by unfold farP at h;simp at h;omega
theorem or_chain(a b c d e f:Bool):(if a=true then some true else if b=true then some true else if c=true then some true else if d=true then some true else if e=true then some true else some f)=some (a||b||c||d||e||f):=by
 cases a<;>cases b<;>cases c<;>cases d<;>cases e<;>cases f<;>rfl
theorem r33_Valid_eq(hp:okPos p)(hm:lN m):ke p m=some (movV p m):=by
 have hr:=r33_right_eq hp hm
 obtain⟨h1,h2,h3,h4,h5⟩:=hm
 (unfold ke movV;try delta jR jV)
 have hs:(if (m.Kind==1)=true then (m.Rate==0)||((m.Kind==2)&&(decide (m.Rate>0)))else (m.Kind==2)&&(decide (m.Rate>0)))=decide ((m.Kind=1∧m.Rate=0)∨(m.Kind=2∧m.Rate>0)):=by
  by_cases e1:m.Kind=1
  ·by_cases q:m.Rate=0<;>simp[e1,q]
  ·by_cases e2:m.Kind=2<;>by_cases q:m.Rate>0<;>simp[e1,e2,q]
 rw[hs]
 simp only[r33_far_eq,ae,or_chain]
 rw[show (farP p.X||farP p.Y||farP p.Z||farP m.To.X||farP m.To.Y||farP m.To.Z)=far6 p m.To from rfl]
 by_cases e1:(m.Kind=1∧m.Rate=0)∨(m.Kind=2∧m.Rate>0)
 ·simp only[oh e1,og,ae,zA,oe,od e1]
  cases far6 p m.To<;>rfl
 ·simp only[oi e1,zA,oe,oc e1,r33_arc,ae,auN]
  by_cases e3:m.Kind=3∨m.Kind=4
  ·have hb:((m.Kind==3)||(m.Kind==4))=true:=by simpa using e3
   by_cases q:m.Rate>0
   ·simp only[hb,og,ae,oi (show ¬m.Rate≤0 by omega),zA,oe,e3,q,true_and]
    by_cases f:(far6 p m.To||farP m.Center.X||farP m.Center.Y)=true
    ·have hv:(if far6 p m.To=true then some true else if farP m.Center.X=true then some true else some (farP m.Center.Y))=some true:=by
      revert f;cases far6 p m.To<;>cases farP m.Center.X<;>cases farP m.Center.Y<;>simp
     rw[hv,ae,od rfl,hr,ae]
     by_cases g:rad p m.Center>0∧rad p m.Center=rad m.To m.Center
     ·rw[oh g,oc (by simp),od g,od (by simp only[zD]at f ⊢;simp only[f,true_or])]
     ·rw[oi g,od (by simp),oc g]
    ·have f':(far6 p m.To||farP m.Center.X||farP m.Center.Y)=false:=by simpa using f
     have hv:(if far6 p m.To=true then some true else if farP m.Center.X=true then some true else some (farP m.Center.Y))=some false:=by
      revert f';cases far6 p m.To<;>cases farP m.Center.X<;>cases farP m.Center.Y<;>simp
     rw[hv,ae,oc (by simp)]
     simp only[zN]at f'
     obtain⟨⟨f6,fx⟩,fy⟩:=f'
     have g6:=f6
     unfold far6 at g6
     simp only[zN]at g6
     obtain⟨⟨⟨⟨⟨g1,g2⟩,g3⟩,g4⟩,g5⟩,g6⟩:=g6
     have b1:=fO g1;have b2:=fO g2;have b4:=fO g4;have b5:=fO g5;have c1:=fO fx;have c2:=fO fy
     obtain⟨d,hd,hd2⟩:=r33_quad_eq (p:=p) (c:=m.Center) b1 b2 c1 c2
     obtain⟨d',hd',hd2'⟩:=r33_quad_eq (p:=m.To) (c:=m.Center) b4 b5 c1 c2
     rw[hd,ae,hd',ae]
     have hn:=rad_nn p m.Center
     have hn':=rad_nn m.To m.Center
     have hle:rad p m.Center≤20000000:=by
      unfold rad dst;split<;>(try split)<;>(try split)<;>omega
     by_cases g:rad p m.Center>0∧rad p m.Center=rad m.To m.Center
     ·have z1:¬d<0:=λq=>by rw[hd2]at q;omega
      have z2:¬d'<0:=λq=>by rw[hd2']at q;omega
      rw[oc (by simp only[zD,oo,bne_iff_ne,ne_eq];rintro (q | q | q);exact z1 q;exact z2 q;exact q g.2),od g]
      rw[am (n:=m.Center.X+rad p m.Center) (by omega) (by omega),am (n:=m.Center.X-rad p m.Center) (by omega) (by omega),am (n:=m.Center.Y+rad p m.Center) (by omega) (by omega),am (n:=m.Center.Y-rad p m.Center) (by omega) (by omega)]
      rw[f6,fx,fy]
      cases farP (m.Center.X+rad p m.Center)<;>cases farP (m.Center.X-rad p m.Center)<;>cases farP (m.Center.Y+rad p m.Center)<;>cases farP (m.Center.Y-rad p m.Center)<;>rfl
     ·rw[oc g]
      rw[od (by
       simp only[zD,oo,bne_iff_ne,ne_eq]
       by_cases q1:rad p m.Center=rad m.To m.Center
       ·left;rw[hd2];omega
       ·exact .inr (.inr q1))]
   ·simp only[hb,og,ae,oh (show m.Rate≤0 by omega),q,and_false,false_and,oe]
  ·have hb:((m.Kind==3)||(m.Kind==4))=false:=by
    rw[not_or]at e3
    simp[e3]
   simp only[hb,zA,oe,ae,og,e3,false_and]
def IsCh(r n:Int):Prop:=1≤n∧r≤10*(n*n)∧10*((n-1)*(n-1))<r
theorem kE{b:Int}(h0:0≤a)(h:a≤b):a*a≤b*b:=zV h h h0 (by omega)
theorem IsCh.unique{n m:Int}(hn:IsCh r n)(hm:IsCh r m):n=m:=by
 obtain⟨a1,a2,a3⟩:=hn
 obtain⟨b1,b2,b3⟩:=hm
 rcases Int.lt_trichotomy n m with h | h | h
 ·have:=kE (a:=n) (b:=m-1) (by omega) (by omega);omega
 ·exact h
 ·have:=kE (a:=m) (b:=n-1) (by omega) (by omega);omega
def mO(r:Int):Nat→Int→Int
 | 0,n=>n
 | f+1,n=>if 10*(n*n)<r then mO r f (n+1)else n
theorem chordsFrom_is(r:Int):∀(f:Nat) (n:Int),1≤n→10*((n-1)*(n-1))<r→r≤10*((n+f)*(n+f))→IsCh r (mO r f n):=by
 intro f
 induction f with
 | zero=>intro n h1 h2 h3;show IsCh r n;exact⟨h1,by simpa using h3,h2⟩
 | succ f ih =>
  intro n h1 h2 h3
  unfold mO
  split
  ·rename_i h
   exact ih (n+1) (by omega) (by rw[show n+1-1=n from by omega];omega) (by rw[show n+1+(f:Int)=n+((f+1:Nat):Int) from by omega];exact h3)
  ·exact⟨h1,by omega,h2⟩
def kY(r:Int):Int:=if r≤0 then 0 else mO r r.toNat 1
theorem chordsM_is(h:0<r):IsCh r (kY r):=by
 unfold kY
 rw[oc (by omega)]
 refine chordsFrom_is r _ 1 (by omega) (by simpa using h) ?_
 have e:(1:Int)+(r.toNat:Int)=1+r:=by omega
 rw[e]
 have:=zV (a:=1) (b:=r) (c:=1+r) (d:=1+r) (by omega) (by omega) (by omega) (by omega)
 have h2:(1+r)*(1+r)=1+r+r*(1+r):=by rw[zZ,Int.one_mul]
 omega
theorem chordsM_eq{n:Int}(h:IsCh r n):kY r=n:=by
 have hr:0<r:=by
  have:=h.2.2
  have h2:0≤(n-1)*(n-1):=zH (by have:=h.1;omega) (by have:=h.1;omega)
  omega
 exact (chordsM_is hr).unique h
theorem IsCh.le{n b:Int}(h:IsCh r n)(hb:0≤b)(hr:r≤10*(b*b)):n≤b:=by
 rcases Int.lt_or_le b n with h1 | h1
 ·have:=kE (a:=b) (b:=n-1) hb (by omega)
  have:=h.2.2
  omega
 ·exact h1
def rot:Nat→Int→Int→Int×Int
 | 0,x,y=>(x,y)
 | n+1,x,y=>(-(rot n x y).2,(rot n x y).1)
theorem rot_bd(b:Int)(n:Nat)(x y:Int)(hx:-b≤x∧x≤b)(hy:-b≤y∧y≤b):(-b≤(rot n x y).1∧(rot n x y).1≤b)∧(-b≤(rot n x y).2∧(rot n x y).2≤b):=by
 induction n with
 | zero=>exact⟨hx,hy⟩
 | succ n ih=>simp only[rot];omega
theorem rot4(n:Nat)(x y:Int):rot (n+4) x y=rot n x y:=by simp[rot]
theorem rot_add4(n k:Nat)(x y:Int):rot (n+4*k) x y=rot n x y:=by
 induction k with
 | zero=>rfl
 | succ k ih=>rw[show n+4*(k+1)=(n+4*k)+4 from by omega,rot4,ih]
theorem rot_mod(n:Nat)(x y:Int):rot (n % 4) x y=rot n x y:=by
 have:=rot_add4 (n % 4) (n / 4) x y
 rw[show n % 4+4*(n / 4)=n from by omega]at this
 exact this.symm
theorem floor_neg{b:Int}(hb:0<b)(h:a.tmod b<0):a.tdiv b-1=a / b:=by
 rw[Int.tdiv_eq_ediv]
 rw[Int.tmod_eq_emod]at h
 have h3:=Int.emod_nonneg a (show b≠0 by omega)
 have h6:b.sign=1:=Int.sign_eq_one_of_pos hb
 split at h
 ·omega
 ·rename_i hn
  rw[oc hn,h6]
  omega
theorem floor_pos{b:Int}(hb:0<b)(h:¬a.tmod b<0):a.tdiv b=a / b:=by
 rw[Int.tdiv_eq_ediv]
 rw[Int.tmod_eq_emod]at h
 have h4:=Int.emod_lt_of_pos a hb
 split at h
 ·rename_i hn
  rw[od hn]
  omega
 ·omega
theorem ediv_bd{b c:Int}(hb:0<b)(hc:0≤c)(h1:-c≤a)(h2:a≤c):-c≤a / b∧a / b≤c:=by
 have hm:=zU (show 1≤b by omega) hc
 constructor
 ·refine Int.le_ediv_of_mul_le hb ?_
  rw[Int.neg_mul];omega
 ·have:a / b<c+1:=zW hb (by rw[zZ];omega)
  omega
def chordX(r n k:Int):Int:=r*(n*n-k*k) / (n*n+k*k)
def lb(r n k:Int):Int:=2*r*k*n / (n*n+k*k)
def arcXY(kind:Int)(first q:Nat)(x y:Int):Int×Int:=if kind=3 then rot (first+4-q) x (-y)else rot (first+q) x y
theorem n8{R n K:Int}(h1:0<R)(h2:R≤10000000)(h3:n≤1000)(h4:1≤K)(h5:K≤n) :
  IntKind.i64.wrap (n*n)=n*n∧IntKind.i64.wrap (K*K)=K*K∧IntKind.i64.wrap (n*n-K*K)=n*n-K*K∧IntKind.i64.wrap (R*(n*n-K*K))=R*(n*n-K*K)∧IntKind.i64.wrap (n*n+K*K)=n*n+K*K ∧
  IntKind.i64.wrap ((R*(n*n-K*K)).tdiv (n*n+K*K))=chordX R n K∧IntKind.i64.wrap (2*R)=2*R∧IntKind.i64.wrap (2*R*K)=2*R*K∧IntKind.i64.wrap (2*R*K*n)=2*R*K*n∧IntKind.i64.wrap ((2*R*K*n).tdiv (n*n+K*K))=lb R n K ∧
  ¬n*n+K*K=0∧(0≤chordX R n K∧chordX R n K≤R)∧(0≤lb R n K∧lb R n K≤R):=by
 have a1:n*n≤1000*1000:=kE (by omega) h3
 have a2:1*1≤K*K:=kE (by omega) h4
 have a3:K*K≤n*n:=kE (by omega) h5
 have a4:0≤R*(n*n-K*K):=zH (by omega) (by omega)
 have a5:R*(n*n-K*K)≤R*(n*n+K*K):=zU (by omega) (by omega)
 have a6:R*(n*n+K*K)≤10000000*2000000:=zV h2 (by omega) (by omega) (by omega)
 have b1:R*K≤10000000*1000:=zV h2 (by omega) (by omega) (by omega)
 have b2:0≤R*K:=zH (by omega) (by omega)
 have b3:R*K*n≤10000000000*1000:=zV b1 h3 (by omega) (by omega)
 have b4:0≤R*K*n:=zH b2 (by omega)
 have c1:2*R*K=2*(R*K):=zY _ _ _
 have c2:2*R*K*n=2*(R*K*n):=by rw[c1,zY]
 have d1:2*(K*n)≤n*n+K*K:=by
  have e:=zH (show 0≤n-K by omega) (show 0≤n-K by omega)
  have e2:(n-K)*(n-K)=n*n-2*(K*n)+K*K:=by
   rw[Int.sub_mul,Int.mul_sub,Int.mul_sub,Int.mul_comm n K];omega
  omega
 have d2:2*R*K*n≤R*(n*n+K*K):=by
  have e:=zU d1 (show 0≤R by omega)
  have e3:R*(2*(K*n))=2*R*K*n:=by
   rw[c2,zY R K n,←zY R 2,Int.mul_comm R 2,zY]
  omega
 have x1:0≤chordX R n K:=Int.ediv_nonneg a4 (by omega)
 have x2:chordX R n K≤R:=by
  have:chordX R n K<R+1:=zW (by omega) (by rw[zZ];omega)
  omega
 have y1:0≤lb R n K:=Int.ediv_nonneg (by omega) (by omega)
 have y2:lb R n K≤R:=by
  have:lb R n K<R+1:=zW (by omega) (by rw[zZ];omega)
  omega
 refine⟨IntWalk.i64_in _ (by omega),IntWalk.i64_in _ (by omega),IntWalk.i64_in _ (by omega),IntWalk.i64_in _ (by omega),IntWalk.i64_in _ (by omega),?_,IntWalk.i64_in _ (by omega),IntWalk.i64_in _ (by omega),IntWalk.i64_in _ (by omega),?_,by omega,⟨x1,x2⟩,⟨y1,y2⟩⟩
 ·rw[zB a4];exact IntWalk.i64_in _ (by unfold chordX at x1 x2;omega)
 ·rw[zB (by omega)];exact IntWalk.i64_in _ (by unfold lb at y1 y2;omega)
variable {y:Int}
theorem arcXY_bd(R k:Int)(f q:Nat){x:Int}(hx:0≤x∧x≤R)(hy:0≤y∧y≤R):(-R≤(arcXY k f q x y).1∧(arcXY k f q x y).1≤R)∧(-R≤(arcXY k f q x y).2∧(arcXY k f q x y).2≤R):=by
 unfold arcXY
 split
 ·exact rot_bd R _ _ _ (by omega) (by omega)
 ·exact rot_bd R _ _ _ (by omega) (by omega)
theorem mX(g:Nat→α)(T m:Nat)(h:m<T):((List.range T).map g).take (m+1)=((List.range T).map g).take m++[g m]:=by
 rw[List.take_succ_eq_append_getElem (by simpa using h)];simp
theorem rot_cw(f q:Nat)(x y:Int)(hq:q≤4):rot ((f+3*q) % 4) x y=rot (f+4-q) x y:=by
 rw[rot_mod,←rot_mod (f+4-q),←rot_mod (f+3*q),show (f+3*q) % 4=(f+4-q) % 4 from by omega]
def qd(p:ag)(c:aO):Nat:=if p.Y=c.Y∧p.X>c.X then 0 else if p.X=c.X∧p.Y>c.Y then 1 else if p.Y=c.Y∧p.X<c.X then 2 else if p.X=c.X∧p.Y<c.Y then 3 else 0
theorem qd_le(p:ag)(c:aO):qd p c≤3:=by
 unfold qd;repeat' split
 all_goals omega
theorem jK{c:aO}(h1:i64P p.X)(h2:i64P p.Y)(h3:i64P c.X)(h4:i64P c.Y):cz p c=some ((qd p c:Int),rad p c):=by
 have e1:=dY h1 h3
 have e2:=dY h2 h4
 (unfold cz;try delta jV)
 rw[e1,e2]
 unfold qd rad dst
 by_cases x1:p.X=c.X<;>by_cases x2:p.X>c.X<;>by_cases x3:p.X<c.X<;>by_cases y1:p.Y=c.Y<;>by_cases y2:p.Y>c.Y<;>by_cases y3:p.Y<c.Y<;>first | (exfalso;omega) | simp[x1,x2,x3,y1,y2,y3]
theorem jI{c:aO}(h1:-10000000≤p.X∧p.X≤10000000)(h2:-10000000≤p.Y∧p.Y≤10000000)(h3:-10000000≤c.X∧c.X≤10000000)(h4:-10000000≤c.Y∧c.Y≤10000000)(hr:0<rad p c):bS (IntKind.i64.wrap (p.X-c.X)) (IntKind.i64.wrap (p.Y-c.Y))=some ((qd p c:Int),rad p c):=by
 rw[am (by omega) (by omega),am (by omega) (by omega)]
 (unfold bS;try delta jV)
 rw[am (n:=0-(p.X-c.X)) (by omega) (by omega),am (n:=0-(p.Y-c.Y)) (by omega) (by omega)]
 have e:∀a b:Int,(a-b>0)=(a>b)∧(a-b=0)=(a=b)∧(a-b<0)=(a<b):=λa b=>⟨by rw[eq_iff_iff];omega,by rw[eq_iff_iff];omega,by rw[eq_iff_iff];omega⟩
 have eb:∀a b:Int,((a-b)==0)=decide (a=b):=by
  intro a b
  by_cases h:a=b
  ·rw[oh h];simp;omega
  ·rw[oi h];simp;omega
 unfold rad dst at hr
 unfold qd rad dst
 simp only[e,eb]
 by_cases x1:p.X=c.X<;>by_cases x2:p.X>c.X<;>by_cases x3:p.X<c.X<;>by_cases y1:p.Y=c.Y<;>by_cases y2:p.Y>c.Y<;>by_cases y3:p.Y<c.Y<;>first | (exfalso;omega)|(simp[x1,x2,x3,y1,y2,y3]at hr ⊢;done)|(simp[x1,x2,x3,y1,y2,y3]at hr ⊢;omega)|(simp[x1,x2,x3,y1,y2,y3];done)|(simp[x1,x2,x3,y1,y2,y3];omega)
def qtr(k:Int)(a b:Nat):Nat:=if k=3 then (if a≤b then a+4-b else a-b)else (if b≤a then b+4-a else b-a)
theorem qtr_bd{a b:Nat}(ha:a≤3)(hb:b≤3):1≤qtr k a b∧qtr k a b≤4:=by
 unfold qtr;repeat' split
 all_goals omega
structure k6 (p:ag) (m:ar):Prop where
 kind:m.Kind=3∨m.Kind=4
 p1:-10000000≤p.X∧p.X≤10000000
 p2:-10000000≤p.Y∧p.Y≤10000000
 p3:-10000000≤p.Z∧p.Z≤10000000
 t1:-10000000≤m.To.X∧m.To.X≤10000000
 t2:-10000000≤m.To.Y∧m.To.Y≤10000000
 t3:-10000000≤m.To.Z∧m.To.Z≤10000000
 c1:-10000000≤m.Center.X∧m.Center.X≤10000000
 c2:-10000000≤m.Center.Y∧m.Center.Y≤10000000
 r0:0<rad p m.Center
 r1:rad p m.Center=rad m.To m.Center
 x1:-10000000≤m.Center.X-rad p m.Center∧m.Center.X+rad p m.Center≤10000000
 y1:-10000000≤m.Center.Y-rad p m.Center∧m.Center.Y+rad p m.Center≤10000000
theorem k6.rad_le(h:k6 p m):rad p m.Center≤10000000:=by
 have:=h.x1;omega
theorem jb{n:Int}(h:-10000000≤n∧n≤10000000):i64P n:=by unfold i64P;omega
theorem ip_Quarters_eq(h:k6 p m)(hp:okPos p)(hm:lN m)(hv:movV p m=0):b8 p m=some ((qtr m.Kind (qd p m.Center) (qd m.To m.Center):Int),0):=by
 (unfold b8 im;try delta jC jV)
 have hk:((m.Kind==3)||(m.Kind==4))=true:=by simpa using h.kind
 rw[hk,ae,oc (by simp)]
 show ah (io p m) _=_
 rw[ip_Valid_eq hp hm,hv,ae,oc (by simp),jK (jb h.p1) (jb h.p2) (jb h.c1) (jb h.c2),ae,jK (jb h.t1) (jb h.t2) (jb h.c1) (jb h.c2),ae]
 have ha:=qd_le p m.Center
 have hb:=qd_le m.To m.Center
 generalize qd p m.Center=a at *
 generalize qd m.To m.Center=b at *
 dsimp only
 have ha':a=0∨a=1∨a=2∨a=3:=by omega
 have hb':b=0∨b=1∨b=2∨b=3:=by omega
 rcases h.kind with k | k<;>rw[k]<;>rcases ha' with rfl | rfl | rfl | rfl<;>rcases hb' with rfl | rfl | rfl | rfl<;>decide
theorem ip_Chords_eq(h0:0<r)(h1:r≤10000000):ja r=some (kY r):=by
 apply Tot.get
 (unfold ja;try delta jB lF)
 rw[am (n:=r-1) (by omega) (by omega),tdiv_ed (by omega),am (n:=(r-1) / 10) (by omega) (by omega),am (n:=(r-1) / 10+1) (by omega) (by omega)]
 obtain⟨need,hneed⟩:∃need,(r-1) / 10+1=need:=⟨_,rfl⟩
 rw[hneed]
 refine Tot.ite (λq=>absurd q (by simp;omega)) (λ_=>?_)
 refine Tot.bind (E:=λx=>x=kY r) (Tot.loop (λk (v:Int×Int)=>1≤v.1∧v.1≤v.2∧v.2≤1073741824∧(v.1-1)*(v.1-1)<need∧need≤v.2*v.2∧k=(v.2-v.1).toNat) _ 1073741823 (by unfold fuel;omega) ⟨by omega,by omega,by omega,(by show (0:Int)<need;omega),(by show need≤1152921504606846976;omega),rfl⟩ (λk v hr=>?_)) (λx hx=>.ok hx)
 obtain⟨lo,hi⟩:=v
 obtain⟨a1,a2,a3,a4,a5,a6⟩:=hr
 dsimp only at *
 by_cases z:lo<hi
 ·rw[oh z,od rfl,am (n:=lo+hi) (by omega) (by omega),tdiv_ed (by omega),am (n:=(lo+hi) / 2) (by omega) (by omega)]
  obtain⟨n,hn⟩:∃n,(lo+hi) / 2=n:=⟨_,rfl⟩
  rw[hn]
  have n1:lo≤n:=by omega
  have n2:n<hi:=by omega
  have sq:=kE (a:=n) (b:=1073741824) (by omega) (by omega)
  have sq0:0≤n*n:=zH (by omega) (by omega)
  rw[am (n:=n*n) (by omega) (by omega)]
  by_cases y:n*n≥need
  ·rw[oh y,od rfl]
   exact .go ⟨(n-lo).toNat,by omega,a1,n1,by omega,a4,y,rfl⟩
  ·rw[oi y,oc (by simp),am (n:=n+1) (by omega) (by omega)]
   exact .go ⟨(hi-(n+1)).toNat,by omega,(by show (1:Int)≤n+1;omega),(by show n+1≤hi;omega),a3,(by show (n+1-1)*(n+1-1)<need;rw[show n+1-1=n by omega];omega),a5,rfl⟩
 ·rw[oi z,oc (by simp)]
  have e:lo=hi:=by omega
  subst e
  refine .ret (chordsM_eq ⟨a1,by omega,by omega⟩).symm
theorem r33_Chords_eq(h0:0<r)(h1:r≤10000000):kf r=some (kY r):=by
 apply Tot.get
 (unfold kf;try delta jB lF jV)
 refine Tot.ite (λq=>absurd q (by simp;omega)) (λ_=>?_)
 refine Tot.bind (E:=λx=>x=kY r) (Tot.loop (λk (n:Int)=>1≤n∧n≤1001∧10*((n-1)*(n-1))<r∧k=(1001-n).toNat) _ 1000 (by unfold fuel;omega) ⟨by omega,by omega,(by show (0:Int)<r;omega),rfl⟩ (λk n hr=>?_)) (λx hx=>.ok hx)
 obtain⟨a1,a2,a3,a4⟩:=hr
 have sq:=kE (a:=n) (b:=1001) (by omega) (by omega)
 have sq0:0≤n*n:=zH (by omega) (by omega)
 have e10:10*n*n=10*(n*n):=zY _ _ _
 rw[am (n:=10*n) (by omega) (by omega),am (n:=10*n*n) (by omega) (by omega),e10,oh (show n<1000000000 by omega),zG]
 by_cases y:10*(n*n)<r
 ·have hn:n≤1000:=by
   rcases Int.lt_or_le 1000 n with w | w
   ·have:=kE (a:=1001) (b:=n) (by omega) (by omega);omega
   ·exact w
  rw[oh y,od rfl,am (n:=n+1) (by omega) (by omega)]
  exact .go ⟨(1001-(n+1)).toNat,by omega,by omega,by omega,(by rw[show n+1-1=n by omega];exact y),rfl⟩
 ·rw[oi y,oc (by simp)]
  exact .ret (chordsM_eq ⟨a1,by omega,a3⟩).symm
theorem andI3(q:Nat)(h:q≤11):andI .i64 (q:Int) 3=((q % 4:Nat):Int):=by
 have:q=0∨q=1∨q=2∨q=3∨q=4∨q=5∨q=6∨q=7∨q=8∨q=9∨q=10∨q=11:=by omega
 rcases this with rfl | rfl | rfl | rfl | rfl | rfl | rfl | rfl | rfl | rfl | rfl | rfl<;>decide
theorem ip_turned_eq{x:Int}{q:Nat}(hx:-100000000≤x∧x≤100000000)(hy:-100000000≤y∧y≤100000000)(hq:q≤11):gK x y (q:Int)=some (rot q x y):=by
 apply Tot.get
 (unfold gK;try delta jB lF)
 rw[andI3 q hq,←rot_mod q]
 have hm:q % 4<4:=Nat.mod_lt _ (by omega)
 generalize q % 4=n at *
 refine Tot.bind (E:=λv=>v=rot n x y) (Tot.loop (λk (v:Int×Int×Int)=>∃j:Nat,v=((rot j x y).1,(rot j x y).2,(j:Int))∧j≤n∧k=n-j) _ n (by unfold fuel;omega) ⟨0,rfl,zT _,rfl⟩ (λk v hr=>?_)) (λv hv=>.ok (by rw[hv]))
 obtain⟨j,rfl,j1,j2⟩:=hr
 have hb:=rot_bd 100000000 j x y hx hy
 dsimp only
 by_cases z:j<n
 ·rw[oh (show (j:Int)<(n:Int) by omega),od rfl,am (by omega) (by omega),am (by omega) (by omega)]
  refine .go ⟨n-(j+1),by omega,j+1,?_,by omega,rfl⟩
  rw[Int.zero_sub];rfl
 ·rw[oi (show ¬(j:Int)<(n:Int) by omega),oc (by simp),show j=n by omega]
  exact .ret rfl
theorem r33_turned_eq{x:Int}{n:Nat}(hx:-100000000≤x∧x≤100000000)(hy:-100000000≤y∧y≤100000000)(hq:n≤11):kd x y (n:Int)=some (rot n x y):=by
 apply Tot.get
 (unfold kd;try delta jB lF)
 refine Tot.bind (E:=λv=>v=rot n x y) (Tot.loop (λk (v:Int×Int×Int)=>∃j:Nat,v=((rot j x y).1,(rot j x y).2,(j:Int))∧j≤n∧k=n-j) _ n (by unfold fuel;omega) ⟨0,rfl,zT _,rfl⟩ (λk v hr=>?_)) (λv hv=>.ok (by rw[hv]))
 obtain⟨j,rfl,j1,j2⟩:=hr
 have hb:=rot_bd 100000000 j x y hx hy
 dsimp only
 by_cases z:j<n
 ·rw[oh (show (j:Int)<(n:Int) by omega),od rfl,am (by omega) (by omega),am (by omega) (by omega)]
  refine .go ⟨n-(j+1),by omega,j+1,?_,by omega,rfl⟩
  rw[Int.zero_sub];rfl
 ·rw[oi (show ¬(j:Int)<(n:Int) by omega),oc (by simp),show j=n by omega]
  exact .ret rfl
theorem ip_floor_eq{b:Int}(ha:-1000000000000000000≤a∧a≤1000000000000000000)(hb:0<b∧b≤1000000000):kP a b=some (a / b):=by
 have hd:=ediv_bd (c:=1000000000000000000) hb.1 (by omega) ha.1 ha.2
 apply Tot.get
 (unfold kP;try delta jC)
 have h0:(!(b==0))=true:=by simp;omega
 refine Tot.guard h0 (Tot.guard h0 (Tot.bind (E:=λv=>v=a / b) (Tot.ite (λq=>.ok ?_) (λq=>.ok ?_)) (λv hv=>.ok hv)))
 ·have q':zO a b<0:=by simpa using q
  have e:=floor_neg hb.1 q'
  rw[am (n:=zL a b) (by omega) (by omega),am (by omega) (by omega),e]
 ·have q':¬zO a b<0:=by simpa using q
  have e:=floor_pos hb.1 q'
  rw[am (n:=zL a b) (by omega) (by omega),e]
theorem r33_down_eq{b:Int}(ha:-1000000000000000000≤a∧a≤1000000000000000000)(hb:0<b∧b≤1000000000):r33_down a b=some (a / b):=ip_floor_eq ha hb
def arcN(p:ag)(m:ar):Nat:=(kY (rad p m.Center)).toNat
def arcQ(p:ag)(m:ar):Nat:=qtr m.Kind (qd p m.Center) (qd m.To m.Center)
def ma(p:ag)(m:ar)(i:Nat):Int×Int :=
 arcXY m.Kind (qd p m.Center) (i / arcN p m) (chordX (rad p m.Center) (arcN p m:Int) ((i % arcN p m+1:Nat):Int)) (lb (rad p m.Center) (arcN p m:Int) ((i % arcN p m+1:Nat):Int))
def arcPt(p:ag)(m:ar)(i:Nat):ag :=
 ag.mk (m.Center.X+(ma p m i).1) (m.Center.Y+(ma p m i).2) (p.Z+(m.To.Z-p.Z)*((i+1:Nat):Int) / ((arcN p m*arcQ p m:Nat):Int))
def arcL(p:ag)(m:ar):List ag:=(List.range (arcN p m*arcQ p m)).map (arcPt p m)
theorem k6.n(h:k6 p m):kY (rad p m.Center)=(arcN p m:Int)∧1≤arcN p m∧arcN p m≤1000:=by
 have h1:=chordsM_is h.r0
 have h2:=h1.le (b:=1000) (by omega) (by have:=h.rad_le;omega)
 have h3:=h1.1
 unfold arcN
 omega
theorem k6.q(h:k6 p m):1≤arcQ p m∧arcQ p m≤4:=qtr_bd (qd_le _ _) (qd_le _ _)
theorem k6.all(h:k6 p m):1≤arcN p m*arcQ p m∧arcN p m*arcQ p m≤4000:=by
 obtain⟨_,a1,a2⟩:=h.n
 obtain⟨b1,b2⟩:=h.q
 exact⟨Nat.mul_le_mul a1 b1,Nat.mul_le_mul a2 b2⟩
theorem arc_idx{N q j:Nat}(hj:j<N):(N*q+j) / N=q∧(N*q+j) % N=j:=by
 constructor
 ·rw[Nat.mul_add_div (by omega),Nat.div_eq_of_lt hj];omega
 ·rw[Nat.mul_add_mod,Nat.mod_eq_of_lt hj]
theorem k6.pt(h:k6 p m){q j:Nat}(hq:q<arcQ p m)(hj:j<arcN p m) :
  (-10000000≤(ma p m (arcN p m*q+j)).1∧(ma p m (arcN p m*q+j)).1≤10000000)∧(-10000000≤(ma p m (arcN p m*q+j)).2∧(ma p m (arcN p m*q+j)).2≤10000000)∧arcN p m*q+j<arcN p m*arcQ p m:=by
 obtain⟨_,a1,a2⟩:=h.n
 obtain⟨e1,e2⟩:=arc_idx (q:=q) hj
 have hf:=n8 (R:=rad p m.Center) (n:=(arcN p m:Int)) (K:=((j+1:Nat):Int)) h.r0 h.rad_le (by omega) (by omega) (by omega)
 obtain⟨_,_,_,_,_,_,_,_,_,_,_,hx,hy⟩:=hf
 have hb:=arcXY_bd (rad p m.Center) m.Kind (qd p m.Center) q hx hy
 have hr:=h.rad_le
 unfold ma
 rw[e1,e2]
 refine⟨by omega,by omega,?_⟩
 have:=Nat.mul_le_mul_left (arcN p m) (show q+1≤arcQ p m by omega)
 rw[Nat.mul_add,Nat.mul_one]at this
 omega
theorem k6.zz(h:k6 p m)(hi:i<arcN p m*arcQ p m) :
  (-100000000000≤(m.To.Z-p.Z)*((i+1:Nat):Int)∧(m.To.Z-p.Z)*((i+1:Nat):Int)≤100000000000)∧(-20000000≤(m.To.Z-p.Z)*((i+1:Nat):Int) / ((arcN p m*arcQ p m:Nat):Int)∧(m.To.Z-p.Z)*((i+1:Nat):Int) / ((arcN p m*arcQ p m:Nat):Int)≤20000000):=by
 have ha:=h.all
 have h1:=h.p3
 have h2:=h.t3
 obtain⟨T,hT⟩:∃T,arcN p m*arcQ p m=T:=⟨_,rfl⟩
 obtain⟨d,hd⟩:∃d,m.To.Z-p.Z=d:=⟨_,rfl⟩
 rw[hT]at ha hi ⊢
 rw[hd]
 have hd1:-20000000≤d∧d≤20000000:=by omega
 have b1:d*((i+1:Nat):Int)≤20000000*((i+1:Nat):Int):=zR hd1.2 (by omega)
 have b2:-20000000*((i+1:Nat):Int)≤d*((i+1:Nat):Int):=zR hd1.1 (by omega)
 refine⟨by omega,?_,?_⟩
 ·refine Int.le_ediv_of_mul_le (by omega) ?_
  have:(-20000000:Int)*(T:Int)≤-20000000*((i+1:Nat):Int):=by omega
  omega
 ·have:d*((i+1:Nat):Int) / (T:Int)<20000001:=zW (by omega) (by omega)
  omega
theorem ip_Arc_eq(h:k6 p m)(hp:okPos p)(hm:lN m)(hv:movV p m=0):nf p m=some (arcL p m,0):=by
 apply Tot.get
 (unfold nf;try delta jB jC lF gF)
 show Tot (ah (b8 p m) _) _
 have hQ:b8 p m=some ((arcQ p m:Int),0):=ip_Quarters_eq h hp hm hv
 obtain⟨n0,n1,n2⟩:=h.n
 obtain⟨q1,q2⟩:=h.q
 obtain⟨al1,al2⟩:=h.all
 have hr:=h.rad_le
 have hr0:=h.r0
 have hz1:=h.p3
 have hz2:=h.t3
 have hc1:=h.c1
 have hc2:=h.c2
 rw[hQ,ae]
 refine Tot.ite (λq=>by simp at q) (λ_=>?_)
 rw[jK (jb h.p1) (jb h.p2) (jb h.c1) (jb h.c2),ae]
 dsimp only
 rw[am (n:=rad p m.Center) (by omega) (by omega),ip_Chords_eq hr0 hr,ae,n0]
 have ecast:(arcN p m:Int)*(arcQ p m:Int)=((arcN p m*arcQ p m:Nat):Int):=by rw[Int.natCast_mul]
 rw[am (n:=(arcN p m:Int)*(arcQ p m:Int)) (by omega) (by omega),ecast]
 refine Tot.ite (λq=>absurd q (by simp;omega)) (λ_=>?_)
 have hqd:=qd_le p m.Center
 have hlen:(arcL p m).length=arcN p m*arcQ p m:=by unfold arcL;simp
 refine Tot.bind (E:=λv=>v=arcL p m) (Tot.loop (λk (v:List ag×Int)=>∃q:Nat,v=((arcL p m).take (arcN p m*q),(q:Int))∧q≤arcQ p m∧k=arcQ p m-q) _ (arcQ p m) (by unfold fuel;omega) ⟨0,by simp,zT _,rfl⟩ (λk v hr'=>?_)) (λv hv'=>.ok (by rw[hv']))
 obtain⟨q,rfl,hq,hk⟩:=hr'
 dsimp only
 by_cases zq:q<arcQ p m
 ·rw[oh (show (q:Int)<(arcQ p m:Int) by omega),od rfl]
  refine TotX.bind (E:=λv=>v=(arcL p m).take (arcN p m*(q+1))) (Tot.loop (λk (v:List ag×Int)=>∃j:Nat,v=((arcL p m).take (arcN p m*q+j),((j+1:Nat):Int))∧j≤arcN p m∧k=arcN p m-j) _ (arcN p m) (by unfold fuel;omega) ⟨0,rfl,zT _,rfl⟩ (λk v hr'=>?_)) (λv hv'=>?_)
  ·obtain⟨j,rfl,hj,hk2⟩:=hr'
   dsimp only
   by_cases zj:j<arcN p m
   ·obtain⟨b1,b2,b3⟩:=h.pt zq zj
    obtain⟨z1,z2⟩:=h.zz b3
    obtain⟨e1,e2⟩:=arc_idx (q:=q) zj
    obtain⟨f1,f2,f3,f4,f5,f6,f7,f8,f9,f10,f11,f12,f13⟩:=n8 (R:=rad p m.Center) (n:=(arcN p m:Int)) (K:=((j+1:Nat):Int)) hr0 hr (by omega) (by omega) (by omega)
    have hlt:((arcL p m).take (arcN p m*q+j)).length=arcN p m*q+j:=by rw[List.length_take,hlen];omega
    rw[oh (show ((j+1:Nat):Int)≤(arcN p m:Int) by omega),od rfl,f1,f2,f3,f4,f5,f6,f7,f8,f9,f10,hlt]
    refine .guard (by simpa using f11) (.guard (by simpa using f11) ?_)
    refine TotX.bind (E:=λxy=>xy=ma p m (arcN p m*q+j)) ?_ (λxy hxy=>?_)
    ·unfold ma
     rw[e1,e2]
     unfold arcXY
     rcases h.kind with hk3 | hk4
     ·rw[hk3,od (by simp),od rfl]
      rw[am (n:=0-lb (rad p m.Center) (arcN p m:Int) ((j+1:Nat):Int)) (by omega) (by omega),Int.zero_sub,am (n:=((qd p m.Center:Nat):Int)-(q:Int)) (by omega) (by omega),am (by omega) (by omega),show ((qd p m.Center:Nat):Int)-(q:Int)+4=((qd p m.Center+4-q:Nat):Int) by omega,ip_turned_eq (by omega) (by omega) (by omega),ae]
      exact .ok rfl
     ·rw[hk4,oc (by simp),oc (by omega)]
      rw[am (n:=((qd p m.Center:Nat):Int)+(q:Int)) (by omega) (by omega),show ((qd p m.Center:Nat):Int)+(q:Int)=((qd p m.Center+q:Nat):Int) by omega,ip_turned_eq (by omega) (by omega) (by omega),ae]
      exact .ok rfl
    ·subst hxy
     have ei:((arcN p m*q+j:Nat):Int)+1=((arcN p m*q+j+1:Nat):Int):=rfl
     rw[am (n:=m.To.Z-p.Z) (by omega) (by omega),am (n:=((arcN p m*q+j:Nat):Int)+1) (by omega) (by omega),ei,am (n:=(m.To.Z-p.Z)*((arcN p m*q+j+1:Nat):Int)) (by omega) (by omega),ip_floor_eq (by omega) (by omega),ae]
     refine .guard (aQ (by omega)) (.go ⟨arcN p m-(j+1),by omega,j+1,?_,by omega,rfl⟩)
     rw[am (n:=m.Center.X+_) (by omega) (by omega),am (n:=m.Center.Y+_) (by omega) (by omega),am (n:=p.Z+_) (by omega) (by omega),am (n:=((j+1:Nat):Int)+1) (by omega) (by omega)]
     have ht:=mX (arcPt p m) (arcN p m*arcQ p m) (arcN p m*q+j) b3
     have e3:(arcL p m).take (arcN p m*q+(j+1))=(arcL p m).take (arcN p m*q+j)++[arcPt p m (arcN p m*q+j)]:=ht
     rw[e3];rfl
   ·rw[oi (show ¬((j+1:Nat):Int)≤(arcN p m:Int) by omega),oc (by simp)]
    refine .ret ?_
    rw[show j=arcN p m by omega,Nat.mul_add,Nat.mul_one]
  ·subst hv'
   rw[am (n:=(q:Int)+1) (by omega) (by omega)]
   exact .go ⟨arcQ p m-(q+1),by omega,q+1,rfl,by omega,rfl⟩
 ·rw[oi (show ¬(q:Int)<(arcQ p m:Int) by omega),oc (by simp)]
  refine .ret ?_
  rw[show q=arcQ p m by omega,←hlen,List.take_length]
def prn(c:UInt8):Bool:=decide ((c.toNat:Int)≥32)&&(decide ((c.toNat:Int)≤126)&&(((c.toNat:Int) != 40)&&((c.toNat:Int) != 41)))
def okW(w:ay):Prop:=65≤w.Letter∧w.Letter≤90∧-1000000000000≤w.Value∧w.Value≤1000000000000
def ci(b:aa):Prop:=b.Words.length≤16∧b.Comment.length≤100∧(∀w∈b.Words,okW w)∧∀c∈b.Comment,prn c=true
theorem bk_Valid_vp(b:aa)(h1:b.Words.length≤1000)(h2:b.Comment.length≤1000):Tot (iu b) (λe=>(e=0∧ci b)∨(e=1∧¬ci b)):=by
 (unfold iu;try delta jB rF jV)
 have hsz:(decide ((b.Words.length:Int)>16)||decide ((b.Comment.length:Int)>100))=decide (¬(b.Words.length≤16∧b.Comment.length≤100)):=by
  rw[zE];simp only[zD,oo];omega
 rw[hsz]
 refine Tot.ite (λh=>.ok (.inr ⟨rfl,λq=>oj h ⟨q.1,q.2.1⟩⟩)) (λh=>?_)
 have hle:b.Words.length≤16∧b.Comment.length≤100:=by simpa using h
 refine Tot.bindX (E:=λ_=>∀w∈b.Words,okW w) (TotX.of (Tot.mono (E:=λx=>(x=.ret 1∧¬ci b)∨(x=.go ()∧∀w∈b.Words,okW w)) ?_ ?_)) (λx hx=>?_)
 ·refine Tot.guard (aK (by omega)) (Tot.range (λi _=>∀(k:Nat) w,k<i→b.Words[k]? = some w→okW w) _ (λk w q=>by omega) (λi x v hx hr=>?_) (λv hr=>.ok (.inr ⟨rfl,λw hw=>?_⟩)))
  ·have hc:(decide (x.Letter<65)||(decide (x.Letter>90)||(decide (x.Value>1000000000000)||decide (x.Value < -1000000000000))))=decide (¬(65≤x.Letter∧x.Letter≤90∧-1000000000000≤x.Value∧x.Value≤1000000000000)):=by
    rw[zE];simp only[zD,oo];omega
   rw[hc]
   refine TotX.ite (λh2=>.ret (.inl ⟨rfl,λq=>oj h2 (q.2.2.1 x (List.mem_of_getElem? hx))⟩)) (λh2=>.go (λk w hk hw=>?_))
   rcases zM k i with q | q
   ·exact hr k w q hw
   ·obtain rfl:k=i:=by omega
    rw[hx]at hw;injection hw with hw;subst hw
    have h3:65≤x.Letter∧x.Letter≤90∧-1000000000000≤x.Value∧x.Value≤1000000000000:=Decidable.not_not.1 (ol h2)
    exact h3
  ·obtain⟨k,hk⟩:=List.mem_iff_getElem?.1 hw
   exact hr k w (ak hk) hk
 ·rintro x (⟨rfl,h3⟩|⟨rfl,h3⟩)
  ·exact .inr ⟨rfl,h3⟩
  ·exact h3
 ·refine Tot.bindX (E:=λ_=>ci b) (TotX.of (Tot.mono (E:=λx=>(x=.ret 1∧¬ci b)∨(x=.go ()∧ci b)) ?_ ?_)) (λ_ hv=>.ok (.inl ⟨rfl,hv⟩))
  ·refine Tot.guard (aK (by simp[nm];omega)) (Tot.range (λi _=>∀(k:Nat) c,k<i→b.Comment[k]? = some c→prn c=true) _ (λk w q=>by omega) (λi y v hy hr=>?_) (λv hr=>.ok (.inr ⟨rfl,hle.1,hle.2,hx,λc hc=>?_⟩)))
   ·unfold nm at hy
    rw[List.getElem?_map]at hy
    cases hq:b.Comment[i]? with
    | none=>rw[hq]at hy;cases hy
    | some c =>
     rw[hq]at hy;injection hy with hy;subst hy
     have hp:fk (c.toNat:Int)=some (prn c):=rfl
     rw[hp,ae]
     refine TotX.ite (λh2=>.ret (.inl ⟨rfl,λq=>?_⟩)) (λh2=>.go (λk w hk hw=>?_))
     ·have:=q.2.2.2 c (List.mem_of_getElem? hq)
      rw[this]at h2;cases h2
     ·rcases zM k i with q | q
      ·exact hr k w q hw
      ·obtain rfl:k=i:=by omega
       rw[hq]at hw;injection hw with hw;subst hw
       simpa using h2
   ·obtain⟨k,hk⟩:=List.mem_iff_getElem?.1 hc
    exact hr k c (by have:=ak hk;simpa [nm] using this) hk
  ·rintro x (⟨rfl,h3⟩|⟨rfl,h3⟩)
   ·exact .inr ⟨rfl,h3⟩
   ·exact h3
theorem r41_Valid_vp(b:aa)(h1:b.Words.length≤1000)(h2:b.Comment.length≤1000):Tot (iZ b) (λe=>(e=0∧ci b)∨(e=1∧¬ci b)):=by
 (unfold iZ;try delta jB rF jV)
 have hsz:(decide ((b.Words.length:Int)>16)||decide ((b.Comment.length:Int)>100))=decide (¬(b.Words.length≤16∧b.Comment.length≤100)):=by
  rw[zE];simp only[zD,oo];omega
 rw[hsz]
 refine Tot.ite (λh=>.ok (.inr ⟨rfl,λq=>oj h ⟨q.1,q.2.1⟩⟩)) (λh=>?_)
 have hle:b.Words.length≤16∧b.Comment.length≤100:=by simpa using h
 refine Tot.bindX (E:=λ_=>∀w∈b.Words,okW w) (TotX.of (Tot.mono (E:=λx=>(x=.ret 1∧¬ci b)∨(x=.go ()∧∀w∈b.Words,okW w)) ?_ ?_)) (λx hx=>?_)
 ·refine Tot.guard (aK (by omega)) (Tot.range (λi _=>∀(k:Nat) w,k<i→b.Words[k]? = some w→okW w) _ (λk w q=>by omega) (λi x v hx hr=>?_) (λv hr=>.ok (.inr ⟨rfl,λw hw=>?_⟩)))
  ·have hc:(decide (x.Letter<65)||(decide (x.Letter>90)||(decide (x.Value>1000000000000)||decide (x.Value < -1000000000000))))=decide (¬(65≤x.Letter∧x.Letter≤90∧-1000000000000≤x.Value∧x.Value≤1000000000000)):=by
    rw[zE];simp only[zD,oo];omega
   rw[hc]
   refine TotX.ite (λh2=>.ret (.inl ⟨rfl,λq=>oj h2 (q.2.2.1 x (List.mem_of_getElem? hx))⟩)) (λh2=>.go (λk w hk hw=>?_))
   rcases zM k i with q | q
   ·exact hr k w q hw
   ·obtain rfl:k=i:=by omega
    rw[hx]at hw;injection hw with hw;subst hw
    have h3:65≤x.Letter∧x.Letter≤90∧-1000000000000≤x.Value∧x.Value≤1000000000000:=Decidable.not_not.1 (ol h2)
    exact h3
  ·obtain⟨k,hk⟩:=List.mem_iff_getElem?.1 hw
   exact hr k w (ak hk) hk
 ·rintro x (⟨rfl,h3⟩|⟨rfl,h3⟩)
  ·exact .inr ⟨rfl,h3⟩
  ·exact h3
 ·refine Tot.bindX (E:=λ_=>ci b) (TotX.of (Tot.mono (E:=λx=>(x=.ret 1∧¬ci b)∨(x=.go ()∧ci b)) ?_ ?_)) (λ_ hv=>.ok (.inl ⟨rfl,hv⟩))
  ·refine Tot.guard (aK (by omega)) (Tot.range (λi _=>∀(k:Nat) c,k<i→b.Comment[k]? = some c→prn c=true) _ (λk w q=>by omega) (λi c v hq hr=>?_) (λv hr=>.ok (.inr ⟨rfl,hle.1,hle.2,hx,λc hc=>?_⟩)))
   ·have hp:ec (c.toNat:Int)=some (prn c):=rfl
    rw[hp,ae]
    refine TotX.ite (λh2=>.ret (.inl ⟨rfl,λq=>?_⟩)) (λh2=>.go (λk w hk hw=>?_))
    ·have:=q.2.2.2 c (List.mem_of_getElem? hq)
     rw[this]at h2;cases h2
    ·rcases zM k i with q | q
     ·exact hr k w q hw
     ·obtain rfl:k=i:=by omega
      rw[hq]at hw;injection hw with hw;subst hw
      simpa using h2
   ·obtain⟨k,hk⟩:=List.mem_iff_getElem?.1 hc
    exact hr k c (ak hk) hk
  ·rintro x (⟨rfl,h3⟩|⟨rfl,h3⟩)
   ·exact .inr ⟨rfl,h3⟩
   ·exact h3
theorem valid41(b:aa)(h1:b.Words.length≤1000)(h2:b.Comment.length≤1000):∃e,iu b=some e∧iZ b=some e∧((e=0∧ci b)∨(e=1∧¬ci b)):=by
 obtain⟨e,he,h⟩:=bk_Valid_vp b h1 h2
 obtain⟨f,hf,g⟩:=r41_Valid_vp b h1 h2
 refine⟨e,he,?_,h⟩
 rw[hf]
 congr 1
 rcases h with⟨a,b1⟩|⟨a,b1⟩<;>rcases g with⟨c,d⟩|⟨c,d⟩
 ·rw[a,c]
 ·exact absurd b1 d
 ·exact absurd d b1
 ·rw[a,c]
theorem find_codes(b:aa)(c:Int):bp b c=match codesW b c with | []=>(0,false) | x::_=>(x,true):=by
 unfold bp codesW
 have h:(b.Words.filter λw=>w.Letter==c).head? = b.Words.find? (λw=>w.Letter==c):=List.head?_filter
 rw[←h]
 cases b.Words.filter λw=>w.Letter==c<;>rfl
theorem nG(b:aa)(c:Int)(hl:b.Words.length≤1000):kI b c=some (bp b c):=by
 have hc:i7 b c=some (codesW b c):=bk_Codes_eq b c hl
 unfold kI
 rw[hc,ae,find_codes]
 cases codesW b c with
 | nil=>rfl
 | cons x l =>
  have:(((x::l).length:Int)==0)=false:=by simp;omega
  simp only[this,zA,oe]
  rfl
theorem findW_mem{c:Int}(h:(bp b c).2=true):∃w∈b.Words,w.Letter=c∧w.Value=(bp b c).1:=by
 unfold bp at *
 cases hf:b.Words.find? (λw=>w.Letter==c)with
 | none=>rw[hf]at h;cases h
 | some w =>
  have h1:=List.find?_some hf
  exact⟨w,List.mem_of_find?_eq_some hf,by simpa using h1,rfl⟩
theorem ir(hv:ci b)(c:Int):-1000000000000≤(bp b c).1∧(bp b c).1≤1000000000000:=by
 cases h:(bp b c).2 with
 | true =>
  obtain⟨w,hw,_,h2⟩:=findW_mem h
  have:=hv.2.2.1 w hw
  unfold okW at this
  omega
 | false =>
  have:(bp b c).1=0:=by
   unfold bp at *
   cases hf:b.Words.find? (λw=>w.Letter==c)with
   | none=>rfl
   | some w=>rw[hf]at h;cases h
  omega
theorem hasW_iff(b:aa)(l:List UInt8):hasW b l=b.Words.any (λw=>l.any λc=>w.Letter==(c.toNat:Int)):=by
 rw[zE]
 unfold hasW
 simp only[List.any_eq_true]
 constructor
 ·rintro⟨c,hc,h⟩
  obtain⟨w,hw,h1,_⟩:=findW_mem h
  exact⟨w,hw,c,hc,by simpa using h1⟩
 ·rintro⟨w,hw,c,hc,h⟩
  refine⟨c,hc,?_⟩
  unfold bp
  cases hf:b.Words.find? (λw=>w.Letter==(c.toNat:Int))with
  | none =>
   have:=List.find?_eq_none.1 hf w hw
   exact absurd h this
  | some _=>rfl
theorem r42_Group_eq(c:Int):j9 c=some (grp c):=by
 rcases grp_cases c with h | h
 ·simp only[g9,g8,nk,nj,ni,zK,List.nil_append,zJ,zF,or_false]at h
  rcases h with h | h | h | h | h | h | h | h | h | h | h | h | h | h | h | h | h | h | h | h<;>(subst h;decide)
 ·simp only[g9,g8,nk,nj,ni,zK,List.nil_append,zJ,zF,or_false,not_or]at h
  have e:∀k:Int,c≠k→(c==k)=false:=λk hk=>by simpa using hk
  have w:∀k:Int,0≤k→k≤1000000→IntKind.i64.wrap k=k:=λk h1 h2=>by
   unfold IntKind.wrap;simp[IntKind.signed,IntKind.bits];omega
  simp[j9,gG,az,be,grp,g9,g8,nk,nj,ni,h,w,auN]
  rfl
def dh(s:aq):aS:=⟨s.Motion,s.Distance,s.Work,s.Length,s.Return,s.Feed,s.Tool,s.Offset⟩
theorem r42_one_eq(s:aq)(w:ay)(h:w.Letter=71→grp w.Value≠0):r42_one (dh s) w=some (dh (putW s w)):=by
 (unfold r42_one putW;try delta jB)
 by_cases h1:w.Letter=71
 ·have h0:=h h1
  rcases grp_in w.Value with q | q | q | q | q | q
  ·exact absurd q h0
  all_goals simp[h1,r42_Group_eq,q,dh]
 ·by_cases h2:w.Letter=70
  ·simp[h2,dh]
  ·by_cases h3:w.Letter=84
   ·simp[h3,dh]
   ·by_cases h4:w.Letter=72<;>simp[h1,h2,h3,h4,dh]
theorem r42_class_eq(w:ay)(h:u8W w):iX w=some (clsW w):=by
 have hw:∀k:Int,0≤k→k≤1000000→IntKind.i64.wrap k=k:=λk h1 h2=>by
  unfold IntKind.wrap;simp[IntKind.signed,IntKind.bits];omega
 obtain⟨h1,h2⟩:=h
 unfold iX clsW
 by_cases q:w.Letter=71
 ·simp[q,r42_Group_eq]
 ·simp only[beq_iff_eq,q,oe]
  rw[hw w.Letter h1 (by omega),hw _ (by omega) (by omega)]
theorem r42_whole_eq(w:ay):lG w=some (iI w):=by
 (unfold lG iI;try delta jC jV)
 by_cases q:w.Letter=70
 ·simp[q]
 ·by_cases q2:w.Letter=84
  ·simp[q2]
  ·by_cases q3:w.Letter=72<;>simp[q,q2,q3]
def anyUp(p:Nat→Bool):Nat→Nat→Bool
 | _,0=>false
 | k,m+1=>p k||anyUp p (k+1) m
theorem anyUp_iff(p:Nat→Bool):∀(m k:Nat),anyUp p k m=true↔∃j,k≤j∧j<k+m∧p j=true
 | 0,k=>by simp[anyUp];intro j h1 h2;omega
 | m+1,k=>by
  simp only[anyUp,zD,anyUp_iff p m (k+1)]
  constructor
  ·rintro (h | ⟨j,h1,h2,h3⟩)
   ·exact⟨k,by omega,by omega,h⟩
   ·exact⟨j,by omega,by omega,h3⟩
  ·rintro⟨j,h1,h2,h3⟩
   rcases Nat.eq_or_lt_of_le h1 with e | e
   ·subst e;exact .inl h3
   ·exact .inr ⟨j,by omega,by omega,h3⟩
theorem loopX_up{ε:Type}{f:Int→Option (Ex ε Int)}{n:Nat}(p:Nat→Bool)(eb ee:ε)(hf:∀k:Nat,k<n→f (k:Int)=if p k=true then some (.ret eb)else some (.go ((k:Int)+1)))(he:f (n:Int)=some (.ret ee)) :
  ∀(fu k:Nat),k≤n→n-k<fu→bt f fu (k:Int)=some (if anyUp p k (n-k)=true then eb else ee)
 | 0,k,_,h=>by omega
 | fu+1,k,hk,h=>by
  rcases Nat.eq_or_lt_of_le hk with e | e
  ·subst e
   simp only[bt,he,Nat.sub_self,anyUp,zA,oe]
  ·rw[show n-k=(n-(k+1))+1 by omega]
   simp only[bt,hf k e,anyUp]
   by_cases hp:p k=true
   ·simp[hp]
   ·have hp':p k=false:=by simpa using hp
    have:=loopX_up p eb ee hf he fu (k+1) e (by omega)
    simp only[hp',zA,oe,Bool.false_or]
    exact this
theorem goodW_congr:∀(l:List ay) (s t:List Int),(∀c,s.contains c=t.contains c)→dP s l=dP t l
 | [],_,_,_=>rfl
 | w::l,s,t,h=>by
  simp only[dP,h (clsW w)]
  rw[goodW_congr l (clsW w::s) (clsW w::t) λc=>by simp only[zQ,h c]]
theorem lH(b:aa)(hu:∀w∈b.Words,u8W w)(hl:b.Words.length≤9223372036854775806):ka b=some (if dP [] b.Words=true then 0 else 1):=by
  have key : ∀ (f : Nat → ay → Unit → Option (Ex (Ex Int Unit) Unit)), (∀ (i : Nat) w, b.Words[i]? = some w → f i w () = if (clsW w != 0 && iI w && !(anyUp (λk => match b.Words[k]? with | some x => clsW x == clsW w | none => false) 0 i)) = true then some (.go ()) else some (.ret (.ret 1))) →
      ∀(l:List ay) (i:Nat),b.Words.drop i=l→i≤b.Words.length→az f (λ(_:Unit)=>some (.go ())) l i ()=some (if dP ((b.Words.take i).map clsW) l=true then .go ()else .ret 1):=by
    intro f hf l
    induction l with
    | nil=>intro i _ _;rfl
    | cons w l ih =>
      intro i hd hi
      have hx:b.Words[i]? = some w:=by
        have:(b.Words.drop i)[0]? = some w:=by rw[hd];rfl
        simpa using this
      have hlt:=ak hx
      have hrest:b.Words.drop (i+1)=l:=by rw[←List.drop_drop,hd];rfl
      have hany:anyUp (λk=>match b.Words[k]? with | some x=>clsW x==clsW w | none=>false) 0 i=((b.Words.take i).map clsW).contains (clsW w):=by
        rw[zE,anyUp_iff,List.contains_iff_mem,List.mem_map]
        constructor
        · rintro⟨j,_,h2,h3⟩
          cases hq:b.Words[j]? with
          | none=>rw[hq]at h3;simp at h3
          | some x =>
            rw[hq]at h3
            exact⟨x,List.mem_iff_getElem?.2 ⟨j,by rw[List.getElem?_take,od (by omega)];exact hq⟩,by simpa using h3⟩
        · rintro⟨x,h1,h2⟩
          obtain⟨j,hj⟩:=List.mem_iff_getElem?.1 h1
          have hji:j<i:=by have:=ak hj;simp at this;omega
          rw[List.getElem?_take,od hji]at hj
          exact⟨j,by omega,by omega,by rw[hj];simpa using h2⟩
      have ht:b.Words.take (i+1)=b.Words.take i++[w]:=by rw[zI,hx];rfl
      have hgo:dP ((b.Words.take i).map clsW) (w::l)=((clsW w != 0&&iI w&&!((b.Words.take i).map clsW).contains (clsW w))&&dP ((b.Words.take (i+1)).map clsW) l):=by
        rw[ht]
        simp only[dP]
        congr 1
        refine goodW_congr l _ _ λc=>?_
        simp only[List.map_append,List.map_cons,List.map_nil]
        rw[zE]
        simp[or_comm]
      simp only[az,hf i w hx,hany,hgo]
      cases (clsW w != 0&&iI w&&!((b.Words.take i).map clsW).contains (clsW w))with
      | false=>simp
      | true =>
        simp only[og,zG]
        exact ih (i+1) hrest hlt
  (unfold ka;try delta jB jR rF lF)
  rw[aK (by omega),aN,key _ ?_ b.Words 0 rfl (by omega)]
  · simp only[List.take_zero,List.map_nil]
    cases dP [] b.Words<;>rfl
  · intro i w hw
    have hlt:=ak hw
    rw[r42_class_eq w (hu w (List.mem_of_getElem? hw))]
    simp only[ae]
    cases h0:(clsW w==0)with
    | true=>simp[h0,bne]
    | false =>
      simp only[zA,oe,r42_whole_eq,ae,bne,h0,Bool.not_false,zG]
      cases hq:iI w with
      | false=>simp
      | true =>
        simp only[Bool.not_true,zA,oe,zG]
        have hlp := loopX_up (ε := Ex (Ex (Ex Int Unit) Unit) Unit) (f := λ(v397 : Int) =>
                if (decide (v397<(i:Int)))=true then
                  ah (gt b.Words v397) λ(e400:ay) =>
                  ah (iX e400) λ(y401:Int) =>
                  if (y401==clsW w)=true then
                    some (.ret (.ret (.ret (.ret 1))))
                  else
                    some (.go (IntKind.i64.wrap (v397+1)))
                else
                  some (.ret (.go ()))) (n:=i) (λk=>match b.Words[k]? with | some x=>clsW x==clsW w | none=>false) (.ret (.ret (.ret (1:Int)))) (.go ()) ?_ (by simp) fuel 0 (by omega) (bK (by omega))
        · have hlp':=hlp
          simp only[Int.natCast_zero,Nat.sub_zero]at hlp'
          rw[show ((0:Nat):Int)=0 from rfl]at hlp
          simp only[Nat.sub_zero]at hlp
          rw[hlp]
          cases anyUp (λk=>match b.Words[k]? with | some x=>clsW x==clsW w | none=>false) 0 i<;>simp
        · intro k hk
          obtain⟨x,hx⟩:∃x,b.Words[k]? = some x:=⟨_,List.getElem?_eq_getElem (by omega)⟩
          have:decide ((k:Int)<(i:Int))=true:=by simp;omega
          simp only[this,og,gt_k hx,ae,r42_class_eq x (hu x (List.mem_of_getElem? hx)),hx]
          rw[am (by omega) (by omega)]
theorem r42_Apply_eq(s:aq)(b:aa)(h:okB b):lI (dh s) b=some (if dP [] b.Words=true then (dh (b.Words.foldl putW s),0)else (dh zS,1)):=by
 (unfold lI;try delta jB rF)
 rw[lH b h.1 h.2,ae]
 cases hg:dP [] b.Words with
 | false=>simp[zS,dh]
 | true =>
  simp only[og]
  have key:∀(f:Nat→ay→aS→Option (Ex aS aS)) (l:List ay) (i:Nat) (s:aq),(∀i w s,w∈l→f i w (dh s)=some (.go (dh (putW s w))))→az f (λv=>some v) l i (dh s)=some (dh (l.foldl putW s)):=by
   intro f l
   induction l with
   | nil=>intro i s _;rfl
   | cons x l ih =>
    intro i s hf
    simp only[az,hf i x s (by simp),List.foldl_cons]
    exact ih (i+1) (putW s x) λi w s hw=>hf i w s (by simp[hw])
  rw[aK (by have:=h.2;omega),aN,key _ b.Words 0 s ?_]
  ·simp
  ·intro i x v hx
   rw[r42_one_eq v x (cls_put (goodW_ne _ _ hg x hx)),ae]
def r44c(c:ao):bc:=bc.mk c.Code c.R c.Z c.Q c.Rate c.Initial c.High
theorem r44_in_eq(n:Int):jY n=some (decide (-10000000≤n∧n≤10000000)):=by
 (unfold jY;try delta jV)
 congr 1
 rw[zE]
 simp
theorem lz(c:ao):gD (r44c c)=some (cycV c):=by
 obtain⟨code,R,Z,Q,rate,ini,high⟩:=c
 apply Tot.get
 (unfold gD cycV r44c;try delta jC jR lF jV)
 dsimp only
 refine Tot.ite (λq=>.ok ?_) (λq=>?_)
 ·rw[od]
  by_cases b:code=81000
  ·subst b;simp at q;omega
  ·rw[od (by simpa using b)]at q
   by_cases d:code=82000
   ·subst d;simp at q;omega
   ·rw[od (by simpa using d)]at q
    simp at q;omega
 ·have hb:¬(¬(code=83000∨code=81000∨code=82000)∨Z≥R∨R>ini∨rate<1∨rate>1000000000000∨(code=83000∧Q≤0)):=by
   by_cases b:code=81000
   ·subst b;simp at q;omega
   ·rw[od (by simpa using b)]at q
    by_cases d:code=82000
    ·subst d;simp at q;omega
    ·rw[od (by simpa using d)]at q
     simp at q;omega
  rw[oc hb]
  refine Tot.bind (E:=λv=>v=decide ((R>10000000∨R < -10000000)∨(Z>10000000∨Z < -10000000)∨(ini>10000000∨ini < -10000000)∨(code=83000∧(Q>10000000∨Q < -10000000)))) ?_ (λv hv=>?_)
  ·simp only[r44_in_eq,ae]
   refine Tot.ite (λq1=>Tot.ite (λq2=>Tot.ite (λq3=>Tot.ite (λq4=>.ok ?_) (λq4=>.ok ?_)) (λq3=>.ok ?_)) (λq2=>.ok ?_)) (λq1=>.ok ?_)
   ·simp at q1 q2 q3 q4
    by_cases z:-10000000≤Q∧Q≤10000000
    ·rw[oh z,oi (by omega)];rfl
    ·rw[oi z,oh (by omega)];rfl
   ·simp at q1 q2 q3 q4
    rw[oi (by omega)]
   ·have q3':=ol q3
    rw[oh (by omega)]
   ·have q2':=ol q2
    rw[oh (by omega)]
   ·have q1':=ol q1
    rw[oh (by omega)]
  ·by_cases z:(R>10000000∨R < -10000000)∨(Z>10000000∨Z < -10000000)∨(ini>10000000∨ini < -10000000)∨(code=83000∧(Q>10000000∨Q < -10000000))
   ·rw[oh z]at hv
    subst hv
    rw[od rfl,od z]
    exact .ok rfl
   ·rw[oi z]at hv
    subst hv
    rw[oc (by simp),oc z]
    refine Tot.bindX (E:=λ_=>¬(code=83000∧(R-Z-1) / Q>999)) (TotX.of (Tot.ite (λq=>?_) (λq=>.ok ?_))) (λ_ h=>by rw[oc h];exact .ok rfl)
    ·have a:code=83000:=by simpa using q
     subst a
     have q0:0<Q:=by omega
     rw[am (n:=R-Q) (by omega) (by omega)]
     refine Tot.loop (λm (v:Int×Int)=>∃k:Nat,v=((k:Int),R-((k:Int)+1)*Q)∧k≤999∧m=999-k) _ 999 (by unfold fuel;omega) ⟨0,by simp,zT _,rfl⟩ (λm v hr=>?_)
     obtain⟨k,rfl,k1,k2⟩:=hr
     have hi:=dep_iff (R:=R) (Z:=Z) q0 k
     have hb1:=mul_bd (k:=(k:Int)+1) (by omega) (by omega) q0 (by omega)
     have he:((k:Int)+2)*Q=((k:Int)+1)*Q+Q:=by
      rw[show (k:Int)+2=((k:Int)+1)+1 by omega,zZ];omega
     dsimp only
     by_cases y:R-((k:Int)+1)*Q>Z
     ·have y2:=hi.1 y
      rw[oh y,od rfl,am (n:=(k:Int)+1) (by omega) (by omega)]
      by_cases x:(k:Int)+1>999
      ·rw[oh x,od rfl]
       refine .ret ?_
       show (3:Int)=_
       rw[od ⟨rfl,by omega⟩]
      ·rw[oi x,oc (by simp),am (n:=R-((k:Int)+1)*Q-Q) (by omega) (by omega)]
       refine .go ⟨999-(k+1),by omega,k+1,?_,by omega,rfl⟩
       have e:R-((k:Int)+1)*Q-Q=R-(((k+1:Nat):Int)+1)*Q:=by
        rw[show ((k+1:Nat):Int)+1=(k:Int)+2 by omega,he];omega
       rw[e];rfl
     ·have y2:¬((k:Int)+1≤(R-Z-1) / Q):=λw=>y (hi.2 w)
      rw[oi y,oc (by simp)]
      refine .ret ?_
      show ¬_
      rintro⟨_,w⟩
      omega
    ·have a:code≠83000:=by simpa using q
     exact λw=>a w.1
theorem r44_Depths_eq(c:ao):iy (r44c c)=some (if cycV c=0 then (depL c,0)else ([],cycV c)):=by
 have h:=cy_Depths_eq c
 (unfold gO at h;try delta jC lF gF)
 (unfold iy;try delta jC lF gF)
 rw[lz]
 rw[nZ]at h
 exact h
def pth(s:ag×List ar):bl:=bl.mk s.1 s.2
theorem ref_go{v:bl}{q:ag}(hk:k=if r>0 then 2 else 1)(hl:v.Moves.length≤10000000):(if ((v.At.X==q.X)&&((v.At.Y==q.Y)&&(v.At.Z==q.Z)))=true then some v else av (bo (v.Moves.length+1)) (some (bl.mk q (v.Moves++[ar.mk k q (aO.mk 0 0) r]))))=some (pth (goM (v.At,v.Moves) q r)):=by
 unfold goM pth
 rw[aQ (by omega),aN]
 by_cases h:q=v.At
 ·subst h;simp
 ·rw[oc (show ¬q=(v.At,v.Moves).1 from h),oc,hk]
  rw[pos_ext]at h
  simp;omega
theorem mmI_max(a b:Int):mmI true a b=if a<b then b else a:=by
 unfold mmI
 simp
theorem r44_Expand_one(c:ao)(p:ag)(g:aO):jZ (r44c c) p [g]=some (expV c p g):=by
 (unfold jZ expV;try delta jB jC jR rF gF iF)
 rw[lz,ae]
 by_cases h:cycV c=0
 ·rw[od h,oc (by rw[h];simp)]
  have ok:=cycV_ok h
  have hdl:=depL_len ok
  apply Tot.get
  simp only[r44_in_eq,ae]
  refine Tot.bind (E:=λv=>v=decide (¬((p.X>10000000∨p.X < -10000000)∨(p.Y>10000000∨p.Y < -10000000)∨(p.Z>10000000∨p.Z < -10000000)))) (Tot.ite (λq1=>Tot.ite (λq2=>.ok ?_) (λq2=>.ok ?_)) (λq1=>.ok ?_)) (λv hv=>?_)
  ·simp at q1 q2
   by_cases z:-10000000≤p.Z∧p.Z≤10000000
   ·rw[oh z,oh (by omega)]
   ·rw[oi z,oi (by omega)]
  ·have q2':=ol q2
   rw[oi (by omega)]
  ·have q1':=ol q1
   rw[oi (by omega)]
  ·refine Tot.bind (E:=λu=>u=decide (¬far3 p g)) (Tot.guard rfl (Tot.range (λi v=>v=if i=0 then decide (¬((p.X>10000000∨p.X < -10000000)∨(p.Y>10000000∨p.Y < -10000000)∨(p.Z>10000000∨p.Z < -10000000)))else decide (¬far3 p g)) _ hv (λi x v hx hv=>?_) (λv hv=>.ok (by rw[hv];simp)))) (λu hu=>?_)
   ·have hi:i=0:=by have:=ak hx;simpa using this
    subst hi
    injection hx with hx
    subst hx
    rw[od rfl]at hv
    rw[oc (show ¬(0+1=0) by omega)]
    refine TotX.bind (E:=λv=>v=decide (¬far3 p g)) (Tot.ite (λq0=>Tot.ite (λq1=>.ok ?_) (λq1=>.ok ?_)) (λq0=>.ok ?_)) (λv hv=>.go hv)
    ·rw[q0]at hv
     have q0':=oj hv.symm
     simp at q1
     by_cases z:-10000000≤g.Y∧g.Y≤10000000
     ·rw[oh z,oh (by unfold far3;omega)]
     ·rw[oi z,oi (by unfold far3;omega)]
    ·have q1':=ol q1
     rw[oi (by unfold far3;omega)]
    ·rw[q0]at hv
     have q0':=ol hv.symm
     rw[oi (by unfold far3;omega)]
   ·subst hu
    by_cases z:far3 p g
    ·rw[oi (by simpa using z),od (show (!false)=true from rfl),od z];exact .ok rfl
    ·rw[oh z,oc (by simp),oc z]
     obtain⟨m0,hm0⟩:∃m0,goM (p,[]) (ag.mk p.X p.Y (if p.Z<c.R then c.R else p.Z)) 0=m0:=⟨_,rfl⟩
     obtain⟨m1,hm1⟩:∃m1,goM m0 (ag.mk g.X g.Y m0.1.Z) 0=m1:=⟨_,rfl⟩
     obtain⟨m2,hm2⟩:∃m2,goM m1 (ag.mk g.X g.Y c.R) 0=m2:=⟨_,rfl⟩
     obtain⟨m3,hm3⟩:∃m3,(depL c).foldl (λs z=>goM (goM s (ag.mk g.X g.Y z) c.Rate) (ag.mk g.X g.Y c.R) 0) m2=m3:=⟨_,rfl⟩
     have hcyc:cycM c p g=if c.High=true then goM m3 (ag.mk g.X g.Y c.Initial) 0 else m3:=by
      unfold cycM
      dsimp only
      rw[hm0,hm1,hm2,hm3]
     have hlenM:=cycM_len ok p g
     have l0:m0.2.length≤1:=by rw[←hm0];exact ek _ _ _
     have l1:m1.2.length≤2:=by have:=ek m0 (ag.mk g.X g.Y m0.1.Z) 0;rw[hm1]at this;omega
     have l2:m2.2.length≤3:=by have:=ek m1 (ag.mk g.X g.Y c.R) 0;rw[hm2]at this;omega
     have l3:m3.2.length≤2003:=by have:=fold_len c g (depL c) m2;rw[hm3]at this;omega
     have p1:m1.1=ag.mk g.X g.Y m0.1.Z:=by rw[←hm1];exact lZ _ _ _
     have p2:m2.1=ag.mk g.X g.Y c.R:=by rw[←hm2];exact lZ _ _ _
     have p3:=fold_pos c g (depL c) m2 (by rw[p2]) (by rw[p2])
     rw[hm3]at p3
     have hrate:c.Rate>0:=by have:=ok.rate;omega
     refine Tot.bindX (E:=λs=>s=pth (cycM c p g)) (TotX.of (Tot.guard rfl (Tot.range (λi v=>v=if i=0 then bl.mk p []else pth (cycM c p g)) _ rfl (λi x v hx hv=>?_) (λv hv=>.ok (by rw[hv];simp))))) (λs hs=>.ok (by rw[hs];rfl))
     have hi:i=0:=by have:=ak hx;simpa using this
     subst hi
     injection hx with hx
     subst hx
     rw[od rfl]at hv
     subst hv
     rw[oc (show ¬(0+1=0) by omega)]
     have hdep:iy (bc.mk (r44c c).Code (r44c c).R (r44c c).Z (r44c c).Q (r44c c).Rate (r44c c).Initial (r44c c).High)=some (depL c,0):=by
      have:=r44_Depths_eq c
      rw[od h]at this
      exact this
     refine TotX.bind (E:=λv=>v=pth (cycM c p g)) ?_ (λv hv=>?_)
     ·rw[hdep,ae]
      have eR:(r44c c).R=c.R:=rfl
      have eT:(r44c c).Rate=c.Rate:=rfl
      have eH:(r44c c).High=c.High:=rfl
      have eI:(r44c c).Initial=c.Initial:=rfl
      rw[eR,eT,eH,eI]
      unfold r44_up
      simp only[ae,mmI_max]
      have g0:=ref_go (v:=bl.mk p []) (q:=ag.mk p.X p.Y (if p.Z<c.R then c.R else p.Z)) (k:=1) (r:=0) rfl (by simp)
      rw[show ((bl.mk p []).At,(bl.mk p []).Moves)=(p,[]) from rfl,hm0]at g0
      refine Tot.bind (E:=λv=>v=pth m0) (Tot.eq g0 rfl) (λv hv=>?_)
      subst hv
      have g1:=ref_go (v:=pth m0) (q:=ag.mk g.X g.Y m0.1.Z) (k:=1) (r:=0) rfl (by show m0.2.length≤_;omega)
      rw[show ((pth m0).At,(pth m0).Moves)=m0 from rfl,hm1]at g1
      refine Tot.bind (E:=λv=>v=pth m1) (Tot.eq g1 rfl) (λv hv=>?_)
      subst hv
      have g2:=ref_go (v:=pth m1) (q:=ag.mk g.X g.Y c.R) (k:=1) (r:=0) rfl (by show m1.2.length≤_;omega)
      rw[show ((pth m1).At,(pth m1).Moves)=m1 from rfl,hm2]at g2
      have eX:(pth m1).At.X=g.X:=by show m1.1.X=_;rw[p1]
      have eY:(pth m1).At.Y=g.Y:=by show m1.1.Y=_;rw[p1]
      rw[eX,eY]
      rw[eX,eY]at g2
      refine Tot.bind (E:=λv=>v=pth m2) (Tot.eq g2 rfl) (λv hv=>?_)
      subst hv
      refine Tot.bind (E:=λv=>v=pth m3) (Tot.guard (aK (by show (depL c).length≤_;omega)) (Tot.range (λi v=>∃u:ag×List ar,v=pth u∧u=((depL c).take i).foldl (λs z=>goM (goM s (ag.mk g.X g.Y z) c.Rate) (ag.mk g.X g.Y c.R) 0) m2∧u.2.length≤3+2*i∧u.1.X=g.X∧u.1.Y=g.Y) _ ⟨m2,rfl,rfl,by simpa using l2,by rw[p2],by rw[p2]⟩ (λi z v hx hu=>?_) (λv hu=>.ok ?_))) (λv hv=>?_)
      ·obtain⟨u,rfl,hu1,hu2,ux,uy⟩:=hu
       have hil:=ak hx
       have fx:(pth u).At.X=g.X:=ux
       have fy:(pth u).At.Y=g.Y:=uy
       have hk2:(if (decide (c.Rate>0))=true then some (2:Int)else some 1)=some 2:=by rw[oh hrate];rfl
       have g3:=ref_go (v:=pth u) (q:=ag.mk g.X g.Y z) (k:=2) (r:=c.Rate) (by rw[od hrate]) (by show u.2.length≤_;have:(depL c).length≤1000:=hdl;omega)
       rw[show ((pth u).At,(pth u).Moves)=u from rfl]at g3
       have lu:=ek u (ag.mk g.X g.Y z) c.Rate
       have pu:=lZ u (ag.mk g.X g.Y z) c.Rate
       rw[hk2]
       simp only[ae]
       rw[fx,fy]
       rw[fx,fy]at g3
       refine TotX.bind (E:=λw=>w=pth (goM u (ag.mk g.X g.Y z) c.Rate)) (Tot.eq g3 rfl) (λw hw=>?_)
       subst hw
       generalize hw:goM u (ag.mk g.X g.Y z) c.Rate=w at *
       have wx:(pth w).At.X=g.X:=by show w.1.X=_;rw[pu]
       have wy:(pth w).At.Y=g.Y:=by show w.1.Y=_;rw[pu]
       have g4:=ref_go (v:=pth w) (q:=ag.mk g.X g.Y c.R) (k:=1) (r:=0) rfl (by show w.2.length≤_;have:(depL c).length≤1000:=hdl;omega)
       rw[show ((pth w).At,(pth w).Moves)=w from rfl]at g4
       rw[wx,wy]
       rw[wx,wy]at g4
       refine TotX.bind (E:=λx=>x=pth (goM w (ag.mk g.X g.Y c.R) 0)) (Tot.eq g4 rfl) (λx hx2=>.go ?_)
       subst hx2
       have lw:=ek w (ag.mk g.X g.Y c.R) 0
       refine⟨_,rfl,?_,by omega,by rw[lZ],by rw[lZ]⟩
       rw[zI,hx,List.foldl_append,←hu1,←hw];rfl
      ·obtain⟨u,rfl,hu1,_⟩:=hu
       rw[hu1]
       show pth (((depL c).take (depL c).length).foldl _ m2)=_
       rw[List.take_length,hm3]
      ·subst hv
       refine Tot.bind (E:=λv=>v=pth (cycM c p g)) (Tot.ite (λq=>?_) (λq=>.ok ?_)) (λv hv=>.ok hv)
       ·have fx:(pth m3).At.X=g.X:=p3.1
        have fy:(pth m3).At.Y=g.Y:=p3.2
        have g5:=ref_go (v:=pth m3) (q:=ag.mk g.X g.Y c.Initial) (k:=1) (r:=0) rfl (by show m3.2.length≤_;omega)
        rw[show ((pth m3).At,(pth m3).Moves)=m3 from rfl]at g5
        rw[fx,fy]
        rw[fx,fy]at g5
        refine Tot.bind (E:=λw=>w=pth (cycM c p g)) (Tot.eq g5 (by rw[hcyc,od q])) (λw hw=>.ok hw)
       ·rw[hcyc,oc (by rw[q];simp)]
     ·subst hv
      refine TotX.ite (λq=>?_) (λ_=>.go rfl)
      have:(pth (cycM c p g)).Moves.length=(cycM c p g).2.length:=rfl
      simp at q;omega
 ·rw[oc h,od (by simpa using h)]
theorem r44_Read_same(b:aa)(k f i:Int)(hi:Bool)(o:ao)(hl:b.Words.length≤1000)(hc:c=ao.mk k (if (bp b 82).2=true then (bp b 82).1 else o.R) (if (bp b 90).2=true then (bp b 90).1 else o.Z) (if (bp b 81).2=true then (bp b 81).1 else o.Q) (if (bp b 70).2=true then (bp b 70).1 else f) i hi):r44_Read b k f i hi (r44c o)=some (if cycV c=0 then (r44c c,0)else (bc.mk 0 0 0 0 0 0 false,cycV c)):=by
 have hv:∀l d,gC b l d=some (if (bp b l).2=true then (bp b l).1 else d):=by
  intro l d
  unfold gC
  rw[nG b l hl,ae]
  split<;>rfl
 unfold r44_Read
 have hV:=lz c
 rw[hc]at hV ⊢
 rw[hv,hv,hv,hv,ae,ae,ae,ae]
 show ah (gD (r44c (ao.mk k (if (bp b 82).2=true then (bp b 82).1 else o.R) (if (bp b 90).2=true then (bp b 90).1 else o.Z) (if (bp b 81).2=true then (bp b 81).1 else o.Q) (if (bp b 70).2=true then (bp b 70).1 else f) i hi))) _=_
 rw[hV,ae]
 generalize hcc:(ao.mk k (if (bp b 82).2=true then (bp b 82).1 else o.R) (if (bp b 90).2=true then (bp b 90).1 else o.Z) (if (bp b 81).2=true then (bp b 81).1 else o.Q) (if (bp b 70).2=true then (bp b 70).1 else f) i hi)=cc
 by_cases h:cycV cc=0
 ·rw[od h,h,←hcc];rfl
 ·rw[oc h,od (by simpa using h)]
theorem r33_Quarters_eq(h:k6 p m)(hp:okPos p)(hm:lN m)(hv:movV p m=0):ff p m=some ((qtr m.Kind (qd p m.Center) (qd m.To m.Center):Int),0):=by
 (unfold ff r33_arc;try delta jC jV)
 have hk:((m.Kind==3)||(m.Kind==4))=true:=by simpa using h.kind
 rw[hk,ae,oc (by simp),r33_Valid_eq hp hm,hv,ae,oc (by simp),jI h.p1 h.p2 h.c1 h.c2 h.r0,ae,jI h.t1 h.t2 h.c1 h.c2 (by rw[←h.r1];exact h.r0),ae]
 have ha:=qd_le p m.Center
 have hb:=qd_le m.To m.Center
 generalize qd p m.Center=a at *
 generalize qd m.To m.Center=b at *
 dsimp only
 have ha':a=0∨a=1∨a=2∨a=3:=by omega
 have hb':b=0∨b=1∨b=2∨b=3:=by omega
 rcases h.kind with k | k<;>rw[k]<;>rcases ha' with rfl | rfl | rfl | rfl<;>rcases hb' with rfl | rfl | rfl | rfl<;>decide
theorem tmod_nat(a b:Nat):zO (a:Int) (b:Int)=((a % b:Nat):Int):=by
 rw[Int.tmod_eq_emod_of_nonneg (by omega)];rfl
theorem tdiv_nat(a b:Nat):zL (a:Int) (b:Int)=((a / b:Nat):Int):=by
 rw[zB (by omega)];rfl
theorem r33_Arc_eq(h:k6 p m)(hp:okPos p)(hm:lN m)(hv:movV p m=0):r33_Arc p m=some (arcL p m,0):=by
 apply Tot.get
 (unfold r33_Arc;try delta jB jC lF gF)
 have hQ:ff p m=some ((arcQ p m:Int),0):=r33_Quarters_eq h hp hm hv
 obtain⟨n0,n1,n2⟩:=h.n
 obtain⟨q1,q2⟩:=h.q
 obtain⟨al1,al2⟩:=h.all
 have hr:=h.rad_le
 have hr0:=h.r0
 have hz1:=h.p3
 have hz2:=h.t3
 have hc1:=h.c1
 have hc2:=h.c2
 rw[hQ,ae]
 refine Tot.ite (λq=>by simp at q) (λ_=>?_)
 rw[jI h.p1 h.p2 h.c1 h.c2 h.r0,ae]
 dsimp only
 rw[r33_Chords_eq hr0 hr,ae,n0]
 have ecast:(arcQ p m:Int)*(arcN p m:Int)=((arcN p m*arcQ p m:Nat):Int):=by rw[Int.natCast_mul,Int.mul_comm]
 rw[ecast,am (n:=((arcN p m*arcQ p m:Nat):Int)) (by omega) (by omega)]
 have hqd:=qd_le p m.Center
 have hlen:(arcL p m).length=arcN p m*arcQ p m:=by unfold arcL;simp
 refine Tot.bind (E:=λv=>v=arcL p m) (Tot.loop (λk (v:List ag×Int)=>∃i:Nat,v=((arcL p m).take i,(i:Int))∧i≤arcN p m*arcQ p m∧k=arcN p m*arcQ p m-i) _ (arcN p m*arcQ p m) (by unfold fuel;omega) ⟨0,by simp,zT _,rfl⟩ (λk v hr'=>?_)) (λv hv'=>?_)
 ·obtain⟨i,rfl,hi,hk⟩:=hr'
  dsimp only
  by_cases zi:i<arcN p m*arcQ p m
  ·have hdm:arcN p m*(i / arcN p m)+i % arcN p m=i:=Nat.div_add_mod i (arcN p m)
   have zj:i % arcN p m<arcN p m:=Nat.mod_lt _ (by omega)
   have zq:i / arcN p m<arcQ p m:=Nat.div_lt_of_lt_mul zi
   obtain⟨q,hq⟩:∃q,i / arcN p m=q:=⟨_,rfl⟩
   obtain⟨j,hj⟩:∃j,i % arcN p m=j:=⟨_,rfl⟩
   have hpt:=h.pt zq zj
   rw[hdm]at hpt
   obtain⟨b1,b2,b3⟩:=hpt
   obtain⟨z1,z2⟩:=h.zz b3
   rw[hq]at zq
   rw[hj]at zj
   obtain⟨f1,f2,f3,f4,f5,f6,f7,f8,f9,f10,f11,f12,f13⟩:=n8 (R:=rad p m.Center) (n:=(arcN p m:Int)) (K:=((j+1:Nat):Int)) hr0 hr (by omega) (by omega) (by omega)
   have hlt:((arcL p m).take i).length=i:=by rw[List.length_take,hlen];omega
   have ej:((j:Nat):Int)+1=((j+1:Nat):Int):=rfl
   rw[oh (show (i:Int)<((arcN p m*arcQ p m:Nat):Int) by omega),od rfl,tmod_nat,tdiv_nat,hq,hj,am (n:=((j:Nat):Int)+1) (by omega) (by omega),ej,f1,f2,f3,f4,f5,f6,f7,f8,f9,f10,hlt]
   have hN0:(!((arcN p m:Int)==0))=true:=by simp;omega
   refine .guard hN0 (.guard (by simpa using f11) (.guard (by simpa using f11) (.guard hN0 ?_)))
   refine TotX.bind (E:=λv=>v=(if m.Kind=3 then (-lb (rad p m.Center) (arcN p m:Int) ((j+1:Nat):Int),((qd p m.Center+3*q:Nat):Int))else (lb (rad p m.Center) (arcN p m:Int) ((j+1:Nat):Int),((qd p m.Center+q:Nat):Int)))) (Tot.ite (λk3=>.guard hN0 (.ok ?_)) (λk3=>.ok ?_)) (λv hv'=>?_)
   ·have k3':m.Kind=3:=by simpa using k3
    rw[od k3',am (n:=((q:Nat):Int)) (by omega) (by omega),am (n:=3*((q:Nat):Int)) (by omega) (by omega),am (n:=((qd p m.Center:Nat):Int)+3*((q:Nat):Int)) (by omega) (by omega),am (n:=0-lb _ _ _) (by omega) (by omega),Int.zero_sub]
    congr 1
   ·have k3':¬m.Kind=3:=by simpa using k3
    rw[oc k3',am (n:=((q:Nat):Int)) (by omega) (by omega),am (n:=((qd p m.Center:Nat):Int)+((q:Nat):Int)) (by omega) (by omega)]
    congr 1
   ·refine TotX.bind (E:=λxy=>xy=ma p m i) ?_ (λxy hxy=>?_)
    ·subst hv'
     unfold ma
     rw[hq,hj]
     unfold arcXY
     by_cases k3:m.Kind=3
     ·rw[od k3,od k3]
      dsimp only
      rw[show zO ((qd p m.Center+3*q:Nat):Int) 4=(((qd p m.Center+3*q) % 4:Nat):Int) from tmod_nat _ 4,r33_turned_eq (by omega) (by omega) (by omega),rot_cw _ _ _ _ (by omega)]
      exact .ok rfl
     ·rw[oc k3,oc k3]
      dsimp only
      rw[show zO ((qd p m.Center+q:Nat):Int) 4=(((qd p m.Center+q) % 4:Nat):Int) from tmod_nat _ 4,r33_turned_eq (by omega) (by omega) (by omega),rot_mod]
      exact .ok rfl
    ·subst hxy
     have ei:((i:Nat):Int)+1=((i+1:Nat):Int):=rfl
     rw[am (n:=m.To.Z-p.Z) (by omega) (by omega),am (n:=((i:Nat):Int)+1) (by omega) (by omega),ei,am (n:=(m.To.Z-p.Z)*((i+1:Nat):Int)) (by omega) (by omega),r33_down_eq (by omega) (by omega),ae]
     refine .guard (aQ (by omega)) (.go ⟨arcN p m*arcQ p m-(i+1),by omega,i+1,?_,by omega,rfl⟩)
     rw[am (n:=m.Center.X+_) (by omega) (by omega),am (n:=m.Center.Y+_) (by omega) (by omega),am (n:=p.Z+_) (by omega) (by omega)]
     have ht:=mX (arcPt p m) (arcN p m*arcQ p m) i b3
     have e3:(arcL p m).take (i+1)=(arcL p m).take i++[arcPt p m i]:=ht
     rw[e3];rfl
  ·rw[oi (show ¬(i:Int)<((arcN p m*arcQ p m:Nat):Int) by omega),oc (by simp)]
   refine .ret ?_
   rw[show i=arcN p m*arcQ p m by omega,←hlen,List.take_length]
 ·subst hv'
  refine Tot.ite (λq=>?_) (λ_=>.ok rfl)
  simp at q;omega
def asc(L:List bi)(i:Nat):Prop:=∀a b x y,a<b→b<i→L[a]? = some x→L[b]? = some y→x.Number<y.Number
theorem tb_Valid_asc(t:aC)(hl:t.Lengths.length≤1000)(h:di t=some 0):asc t.Lengths t.Lengths.length:=by
 have key:Tot (di t) (λe=>e=0→asc t.Lengths t.Lengths.length):=by
  (unfold di;try delta jB jR rF iF)
  simp only[jM,ae]
  refine Tot.bind (E:=λ_=>True) (Tot.bind (E:=λ_=>True) (Tot.bindX (E:=λ_=>True) ?_ (λ_ _=>.ok trivial)) (λi _=>.ok trivial)) (λb _=>Tot.ite (λ_=>.ok (by simp)) (λ_=>?_))
  ·repeat' (first | exact TotX.ret trivial | exact TotX.go trivial | refine TotX.ite (λ_=>?_) (λ_=>?_))
  ·refine Tot.bindX (E:=λ_=>asc t.Lengths t.Lengths.length) (TotX.guard (aK (by omega)) (TotX.of (Tot.range (λi _=>asc t.Lengths i) _ (λa b x y h1 h2=>by omega) (λi x v hx hr=>?_) (λv hr=>.ok hr)))) (λ_ h=>.ok λ_=>h)
   have hlt:=ak hx
   refine TotX.bind (E:=λb=>b=true∨∀y,i>0→t.Lengths[i-1]? = some y→y.Number<x.Number) ?_ (λb hb=>TotX.ite (λ_=>.ret (by simp)) (λhf=>.go ?_))
   ·(unfold kz;try delta jV)
    rw[ae]
    refine Tot.ite (λ_=>?_) (λ_=>.ok (.inl rfl))
    refine Tot.ite (λhi=>?_) (λhi=>.ok (.inr λy h0=>by simp at hi;omega))
    simp at hi
    rw[am (by omega) (by omega),show ((i:Int)-1)=((i-1:Nat):Int) by omega]
    obtain⟨y,hy⟩:∃y,t.Lengths[i-1]? = some y:=⟨_,List.getElem?_eq_getElem (by omega)⟩
    rw[gt_k hy,ae]
    by_cases hq:y.Number≥x.Number
    ·exact .ok (.inl (by simpa using hq))
    ·refine .ok (.inr λz _ hz=>?_)
     rw[hy]at hz;injection hz with hz;subst hz;omega
   ·have hb':=hb.resolve_left (by simp[hf])
    intro a b y z h1 h2 hy hz
    rcases zM b i with q | q
    ·exact hr a b y z h1 q hy hz
    ·obtain rfl:b=i:=by omega
     rw[hx]at hz;injection hz with hz;subst hz
     obtain⟨u,hu⟩:∃u,t.Lengths[b-1]? = some u:=⟨_,List.getElem?_eq_getElem (by omega)⟩
     have h3:=hb' u (by omega) hu
     rcases zM a (b-1)with q2 | q2
     ·have:=hr a (b-1) y u q2 (by omega) hy hu
      omega
     ·obtain rfl:a=b-1:=by omega
      rw[hy]at hu;injection hu with hu;subst hu;exact h3
 obtain⟨e,h1,h2⟩:=key
 rw[h]at h1;injection h1 with h1
 exact h2 h1.symm
def placed(L:List bi)(n:Int)(r:Int×Bool):Prop:=0≤r.1∧r.1≤(L.length:Int)∧(∀(k:Nat) x,L[k]? = some x→((k:Int)<r.1→x.Number<n)∧(r.1≤(k:Int)→n≤x.Number))∧(r.2=true↔∃x,L[r.1.toNat]? = some x∧x.Number=n)
theorem tb_find_at(t:aC)(n:Int)(hl:t.Lengths.length≤1000)(hs:asc t.Lengths t.Lengths.length):Tot (nu t n) (placed t.Lengths n):=by
 (unfold nu;try delta jB jR lF iF)
 refine Tot.bind (E:=placed t.Lengths n) (Tot.bind (E:=λv:Int=>0≤v∧v≤(t.Lengths.length:Int)∧∀(k:Nat) x,t.Lengths[k]? = some x→((k:Int)<v→x.Number<n)∧(v≤(k:Int)→n≤x.Number)) ?_ (λv hv=>?_)) (λr hr=>.ok hr)
 ·refine Tot.loop (λm v=>0≤v.1∧v.1≤v.2∧v.2≤(t.Lengths.length:Int)∧m=(v.2-v.1).toNat∧∀(k:Nat) x,t.Lengths[k]? = some x→((k:Int)<v.1→x.Number<n)∧(v.2≤(k:Int)→n≤x.Number)) _ t.Lengths.length (bK (by omega)) ⟨by simp,by simp,by simp,by simp,λk x hx=>⟨λq=>by simp at q,λq=>by have:=ak hx;simp at q;omega⟩⟩ (λm v hr=>?_)
  obtain⟨a,b,c,d,hk⟩:=hr
  refine TotX.ite (λh=>?_) (λh=>.ret ?_)
  ·simp at h
   rw[mid_eq a (by omega) (by omega) (by omega)]
   obtain⟨y,hy,hy2⟩:=gt_ok' (l:=t.Lengths) (i:=(v.1+v.2) / 2) (by omega) (by omega)
   rw[hy,ae]
   unfold eV
   rw[mL,ae,ae]
   have hm:((((v.1+v.2) / 2).toNat:Nat):Int)=(v.1+v.2) / 2:=by omega
   refine TotX.ite (λhc=>.go ?_) (λhc=>.go ?_)
   ·have hlt:y.Number<n:=by
     by_cases q:y.Number<n
     ·exact q
     ·rw[oc q]at hc;split at hc<;>simp at hc
    rw[am (by omega) (by omega)]
    refine⟨_,by omega,by simp;omega,by simp;omega,c,rfl,λk x hx=>⟨λq=>?_,λq=>(hk k x hx).2 q⟩⟩
    simp only at q
    rcases zM k ((v.1+v.2) / 2).toNat with z | z
    ·have:=hs k _ x y z (ak hy2) hx hy2;omega
    ·obtain rfl:k=((v.1+v.2) / 2).toNat:=by omega
     rw[hy2]at hx;injection hx with hx;subst hx;exact hlt
   ·have hge:n≤y.Number:=by
     by_cases q:y.Number<n
     ·rw[od q]at hc;simp at hc
     ·omega
    refine⟨_,by omega,a,by simp;omega,by simp;omega,rfl,λk x hx=>⟨λq=>(hk k x hx).1 q,λq=>?_⟩⟩
    simp only at q
    rcases zM ((v.1+v.2) / 2).toNat k with z | z
    ·have:=hs _ k y x z (ak hx) hy2 hx;omega
    ·obtain rfl:k=((v.1+v.2) / 2).toNat:=by omega
     rw[hy2]at hx;injection hx with hx;subst hx;exact hge
  ·simp at h
   have:v.1=v.2:=by omega
   exact⟨a,by omega,λk x hx=>⟨(hk k x hx).1,λq=>(hk k x hx).2 (by omega)⟩⟩
 ·obtain⟨v0,v1,vk⟩:=hv
  refine Tot.bind (E:=λb=>b=true↔∃x,t.Lengths[v.toNat]? = some x∧x.Number=n) (Tot.ite (λh=>?_) (λh=>.ok ?_)) (λb hb=>.ok ⟨v0,v1,vk,hb⟩)
  ·simp at h
   obtain⟨y,hy,hy2⟩:=gt_ok' (l:=t.Lengths) (i:=v) v0 h
   rw[hy,ae]
   unfold eV
   rw[mL,ae,ae]
   have hge:=(vk _ y hy2).2 (by omega)
   refine .ok ?_
   rw[hy2]
   rw[oc (by omega)]
   by_cases q:y.Number>n
   ·rw[od q]
    simp;omega
   ·rw[oc q]
    simp;omega
  ·simp at h
   have:t.Lengths[v.toNat]? = none:=by rw[List.getElem?_eq_none];omega
   rw[this];simp
def lenW(L:List bi)(n:Int):Int×Int:=if n=0 then (0,0)else match L.find? (λx=>x.Number==n)with | some x=>(x.Length,0) | none=>(0,4)
theorem tb_length_eq(t:aC)(n:Int)(hl:t.Lengths.length≤1000)(hs:asc t.Lengths t.Lengths.length):gu t n=some (lenW t.Lengths n):=by
 unfold gu lenW
 by_cases h0:n=0
 ·simp[h0]
 ·have:(n==0)=false:=by simpa using h0
  simp only[this,zA,oe,h0]
  obtain⟨r,hr,p0,p1,p2,p3⟩:=tb_find_at ⟨t.Work,t.Lengths⟩ n hl hs
  rw[hr,ae]
  cases hb:r.2 with
  | true =>
   obtain⟨x,hx,hxn⟩:=p3.1 hb
   simp only at hx
   have hg:gt t.Lengths r.1=some x:=by unfold gt;rw[oc (by omega)];exact hx
   have hf:t.Lengths.find? (λx=>x.Number==n)=some x:=by
    rw[List.find?_eq_some_iff_getElem]
    refine⟨by simpa using hxn,r.1.toNat,ak hx,?_,?_⟩
    ·have:=List.getElem?_eq_getElem (ak hx)
     rw[this]at hx;injection hx
    ·intro j hj
     have hlt:=ak hx
     have:=(p2 j t.Lengths[j] (List.getElem?_eq_getElem (by omega))).1 (by omega)
     simp;omega
   simp only[Bool.not_true,zA,oe,hg,ae,hf]
  | false =>
   have hf:t.Lengths.find? (λx=>x.Number==n)=none:=by
    rw[List.find?_eq_none]
    intro x hx
    obtain⟨k,hk⟩:=List.mem_iff_getElem?.1 hx
    simp only[beq_iff_eq]
    intro e
    have hq:=p2 k x hk
    rcases Int.lt_or_le (k:Int) r.1 with z | z
    ·have:=hq.1 z;omega
    ·rcases zM r.1.toNat k with z2 | z2
     ·obtain⟨y,hy⟩:∃y,t.Lengths[r.1.toNat]? = some y:=⟨_,List.getElem?_eq_getElem (by have:=ak hk;omega)⟩
      have h1:=(p2 _ y hy).2 (by omega)
      have h2:=hs _ k y x z2 (ak hk) hy hk
      omega
     ·obtain rfl:k=r.1.toNat:=by omega
      have:=p3.2 ⟨x,hk,e⟩
      rw[hb]at this;cases this
   simp only[Bool.not_false,og,hf]
theorem jQ(t:bg)(c n:Int)(hl:t.Lengths.length≤1000):gq (aF t) c n=iS t c n:=by
 (unfold gq iS;try delta jB jR rF jV)
 rw[iv t hl]
 obtain⟨e,he,he2⟩:=ii t hl
 rw[he,ae,ae]
 rcases he2 with rfl | rfl
 ·have hv:di (aF t)=some 0:=by rw[iv t hl];exact he
  have hs:=tb_Valid_asc (aF t) (by simp[aF];omega) hv
  simp only[bne_self_eq_false,zA,oe]
  rw[show gu (aC.mk (aF t).Work (aF t).Lengths) n=some (lenW (aF t).Lengths n) from tb_length_eq (aF t) n (by simp[aF];omega) hs]
  (unfold tb_slot r45_index;try delta jV)
  have hcond:((zO c 1000 != 0)||(decide (c<54000)||decide (c>59000)))=(decide (c<54000)||(decide (c>59000)||(zO c 1000 != 0))):=by
   cases (zO c 1000 != 0)<;>cases decide (c<54000)<;>cases decide (c>59000)<;>rfl
  rw[hcond]
  cases hb:(decide (c<54000)||(decide (c>59000)||(zO c 1000 != 0)))with
  | true=>simp
  | false =>
   simp at hb
   have hd:zL c 1000=c / 1000:=zB (by omega)
   have hw:IntKind.i64.wrap (IntKind.i64.wrap (zL c 1000)-54)=c / 1000-54:=by
    rw[hd,am (n:=c / 1000) (by omega) (by omega),am (by omega) (by omega)]
   simp only[zA,oe,hw,ae,bne_self_eq_false,Bool.false_or]
   have hneg:decide (c / 1000-54<0)=false:=by simp;omega
   have hin:decide (0≤c / 1000-54∧c / 1000-54<6)=true:=by simp;omega
   simp only[hneg,hin,aN,zA,oe]
   have hfind:(aF t).Lengths.find? (λx=>x.Number==n)=(t.Lengths.find? (λx=>x.Number==n)).map (λl=>⟨l.Number,l.Length⟩):=by
    simp only[aF,List.find?_map];rfl
   obtain⟨ev,hev,hbd⟩:=jo (aF t) (by simp[aF];omega)
   obtain rfl:ev=0:=by rw[hv]at hev;injection hev with q;exact q.symm
   obtain⟨⟨w0,w1,w2,w3,w4,w5⟩,_⟩:=hbd.2 rfl
   have hX:∃w:ag,(if (c / 1000-54==0)=true then some t.Work.e0 else if (c / 1000-54==1)=true then some t.Work.e1 else if (c / 1000-54==2)=true then some t.Work.e2 else if (c / 1000-54==3)=true then some t.Work.e3 else if (c / 1000-54==4)=true then some t.Work.e4 else some t.Work.e5)=some w∧inR w:=by
    have:c / 1000-54=0∨c / 1000-54=1∨c / 1000-54=2∨c / 1000-54=3∨c / 1000-54=4∨c / 1000-54=5:=by omega
    rcases this with e | e | e | e | e | e<;>rw[e]
    ·exact⟨_,rfl,w0⟩
    ·exact⟨_,rfl,w1⟩
    ·exact⟨_,rfl,w2⟩
    ·exact⟨_,rfl,w3⟩
    ·exact⟨_,rfl,w4⟩
    ·exact⟨_,rfl,w5⟩
   obtain⟨w,hXe,hw⟩:=hX
   rw[show (aF t).Work=t.Work from rfl,hXe,ae,ae]
   unfold lenW
   unfold inR at hw
   by_cases h0:n=0
   ·simp only[h0,og,bne_self_eq_false,zA,oe,beq_self_eq_true]
    rw[am (by omega) (by omega),Int.add_zero]
   ·have hn:(n==0)=false:=by simpa using h0
    simp only[h0,hn,zA,oe,hfind]
    rw[aK (by omega),aN,range_find (p:=λx:ca=>x.Number==n) (e:=λx=>(ag.mk w.X w.Y (IntKind.i64.wrap (w.Z+x.Length)),(0:Int))) t.Lengths 0 (λi x=>rfl)]
    cases t.Lengths.find? (λx=>x.Number==n)with
    | none=>rfl
    | some x=>rfl
 ·simp
theorem work_same(t:bg)(c n:Int)(p:ag)(hl:t.Lengths.length≤1000):nv (aF t) c n p=mr t c n p:=by
 unfold nv mr mq
 (first | rw[show aC.mk (aF t).Work (aF t).Lengths=aF t from rfl,jQ t c n hl] | rw[jQ t c n hl])
 obtain⟨r,hr⟩:∃r,iS t c n=some r:=by
  rw[←jQ t c n hl]
  obtain⟨r,hr,_⟩:=ic (aF t) c n (by simp[aF];omega)
  exact⟨r,hr⟩
 rw[hr,ae,ae]
 unfold jm
 cases (r.2 != 0)with
 | true=>rfl
 | false =>
  simp only[zA,oe,jM,r45_out_eq,ae]
theorem machine_same(t:bg)(c n:Int)(p:ag)(hl:t.Lengths.length≤1000):d7 (aF t) c n p=iU t c n p:=by
 unfold d7 iU mq
 rw[jQ t c n hl]
 obtain⟨r,hr⟩:∃r,iS t c n=some r:=by
  rw[←jQ t c n hl]
  obtain⟨r,hr,_⟩:=ic (aF t) c n (by simp[aF];omega)
  exact⟨r,hr⟩
 rw[hr,ae,ae]
 unfold jm
 cases (r.2 != 0)with
 | true=>rfl
 | false =>
  simp only[zA,oe,jM,r45_out_eq,ae]
def regMd(s:aq):Prop:=s.Motion∈g9∧s.Distance∈g8
theorem grp_1{c:Int}(h:grp c=1):c∈g9:=by
 unfold grp at h
 by_cases q:c∈g9
 ·exact q
 ·rw[oc q]at h
  exfalso
  revert h
  repeat' split
  all_goals omega
theorem grp_2{c:Int}(h:grp c=2):c∈g8:=by
 unfold grp at h
 by_cases q:c∈g9
 ·rw[od q]at h;omega
 ·rw[oc q]at h
  by_cases q2:c∈g8
  ·exact q2
  ·rw[oc q2]at h
   exfalso
   revert h
   repeat' split
   all_goals omega
theorem put_reg(w:ay)(h:regMd s):regMd (putW s w):=by
 unfold putW
 by_cases h1:w.Letter=71
 ·rw[od h1]
  by_cases g1:grp w.Value=1
  ·rw[od g1];exact⟨grp_1 g1,h.2⟩
  ·rw[oc g1]
   by_cases g2:grp w.Value=2
   ·rw[od g2];exact⟨h.1,grp_2 g2⟩
   ·rw[oc g2]
    by_cases g3:grp w.Value=3
    ·rw[od g3];exact h
    ·rw[oc g3]
     by_cases g4:grp w.Value=4
     ·rw[od g4];exact h
     ·rw[oc g4];exact h
 ·rw[oc h1]
  by_cases h2:w.Letter=70
  ·rw[od h2];exact h
  ·rw[oc h2]
   by_cases h3:w.Letter=84
   ·rw[od h3];exact h
   ·rw[oc h3]
    by_cases h4:w.Letter=72
    ·rw[od h4];exact h
    ·rw[oc h4];exact h
theorem fold_reg:∀(l:List ay) (s:aq),regMd s→regMd (l.foldl putW s)
 | [],_,h=>h
 | w::l,s,h=>fold_reg l _ (put_reg w h)
theorem new_reg:regMd newS:=by unfold regMd newS g9 g8;simp
def knW(w:ay):Bool :=
 if w.Letter=77 then [0,1000,3000,4000,5000,6000,8000,9000,30000].contains w.Value
 else if w.Letter=83 then decide (w.Value≥0)
 else [71,84,70,72,78,88,89,90,73,74,81,82].contains w.Letter
theorem all_not(p:α→Bool)(l:List α):(l.any λx=>!(p x))=!(l.all p):=by
 induction l with
 | nil=>rfl
 | cons x l ih=>rw[List.any_cons,List.all_cons,ih];cases p x<;>rfl
theorem known_fin{f:Nat→ay→Unit→Option (Ex (Ex Bool Unit) Unit)}(l:List ay)(hl:l.length≤1000)(hf:∀i x,f i x ()=if (!(knW x))=true then some (.ret (.ret false))else some (.go ())) :
  bindX (av (be l) (az f (λ_=>some (.go ())) l 0 ())) (λ(_:Unit)=>some true)=some (l.all knW):=by
 rw[aK (by omega),aN,iQ (r:=false) l 0 hf,all_not]
 cases l.all knW<;>rfl
theorem inp_known_eq(b:aa)(hl:b.Words.length≤1000):gL b=some (b.Words.all knW):=by
 (unfold gL;try delta jB jC rF)
 refine known_fin b.Words hl (λi w=>?_)
 rw[contains_eq _ _ (by decide),ae]
 unfold knW
 by_cases h1:w.Letter=77
 ·rw[h1,od rfl]
  cases h:([0,1000,3000,4000,5000,6000,8000,9000,30000]:List Int).contains w.Value<;>rfl
 ·rw[oc h1]
  by_cases h2:w.Letter=83
  ·rw[h2,od rfl]
   by_cases h:w.Value<0
   ·rw[oh h,oi (show ¬w.Value≥0 by omega)];rfl
   ·rw[oi h,oh (show w.Value≥0 by omega)];rfl
  ·rw[oc h2,beq_false_of_ne h1,beq_false_of_ne h2]
   by_cases a1:w.Letter=71
   ·rw[a1];rfl
   by_cases a2:w.Letter=84
   ·rw[a2];rfl
   by_cases a3:w.Letter=70
   ·rw[a3];rfl
   by_cases a4:w.Letter=72
   ·rw[a4];rfl
   by_cases a5:w.Letter=78
   ·rw[a5];rfl
   by_cases a6:w.Letter=88
   ·rw[a6];rfl
   by_cases a7:w.Letter=89
   ·rw[a7];rfl
   by_cases a8:w.Letter=90
   ·rw[a8];rfl
   by_cases a9:w.Letter=73
   ·rw[a9];rfl
   by_cases b1:w.Letter=74
   ·rw[b1];rfl
   by_cases b2:w.Letter=81
   ·rw[b2];rfl
   by_cases b3:w.Letter=82
   ·rw[b3];rfl
   simp[a1,a2,a3,a4,a5,a6,a7,a8,a9,b1,b2,b3]
theorem r47_one_eq(c:Int)(l:List UInt8)(hl:l.length≤1000):r47_one c l=some (l.any λk=>c==(k.toNat:Int)):=by
  (unfold r47_one;try delta jB rF)
  rw[aK (by omega),aN,iQ (p:=λk:UInt8=>c==(k.toNat:Int)) (r:=true) l 0 (λi x=>by
    rw[show ((x.toNat:Int)==c)=(c==(x.toNat:Int)) from Bool.beq_comm])]
  cases l.any λk=>c==(k.toNat:Int)<;>rfl
theorem nD(b:aa)(l:List UInt8)(hb:b.Words.length≤1000)(hl:l.length≤1000):eL b l=some (hasW b l):=by
 (unfold eL;try delta jB rF)
 rw[hasW_iff,aK (by omega),aN,iQ (p:=λw:ay=>l.any λk=>w.Letter==(k.toNat:Int)) (r:=true) b.Words 0 (λi x=>by rw[r47_one_eq _ _ hl,ae])]
 cases b.Words.any λw=>l.any λk=>w.Letter==(k.toNat:Int)<;>rfl
theorem r47_known_eq(b:aa)(hu:∀w∈b.Words,u8W w)(hl:b.Words.length≤1000)(he:iZ b=some e):lx b=some (decide (e=0)&&(dP [] b.Words&&b.Words.all knW)):=by
 (unfold lx;try delta jB jC jR rF)
 rw[he,ae]
 by_cases h0:e=0
 ·(first | rw[oc (by simp[h0]),show aa.mk b.Skip b.Words b.Comment=b from rfl,lH b hu (by omega),ae,oh h0,zG] | rw[oc (by simp[h0]),lH b hu (by omega),ae,oh h0,zG])
  cases hg:dP [] b.Words with
  | false=>rfl
  | true =>
   rw[od rfl,zG]
   show ah (some ((0:Int) != 0)) _=_
   rw[ae,oc (by decide)]
   refine known_fin b.Words hl (λi w=>?_)
   rw[r47_one_eq _ _ (by decide),ae]
   unfold knW
   by_cases h1:w.Letter=77
   ·rw[h1,od rfl]
    by_cases c1:w.Value=0
    ·rw[c1];rfl
    by_cases c2:w.Value=1000
    ·rw[c2];rfl
    by_cases c3:w.Value=3000
    ·rw[c3];rfl
    by_cases c4:w.Value=4000
    ·rw[c4];rfl
    by_cases c5:w.Value=5000
    ·rw[c5];rfl
    by_cases c6:w.Value=6000
    ·rw[c6];rfl
    by_cases c7:w.Value=8000
    ·rw[c7];rfl
    by_cases c8:w.Value=9000
    ·rw[c8];rfl
    by_cases c9:w.Value=30000
    ·rw[c9];rfl
    simp[c1,c2,c3,c4,c5,c6,c7,c8,c9]
   ·rw[oc h1]
    by_cases h2:w.Letter=83
    ·rw[h2,od rfl]
     by_cases h:w.Value<0
     ·rw[oh h,oi (show ¬w.Value≥0 by omega)];rfl
     ·rw[oi h,oh (show w.Value≥0 by omega)];rfl
    ·rw[oc h2,beq_false_of_ne h2]
     by_cases a1:w.Letter=71
     ·rw[a1];rfl
     by_cases a2:w.Letter=84
     ·rw[a2];rfl
     by_cases a3:w.Letter=70
     ·rw[a3];rfl
     by_cases a4:w.Letter=72
     ·rw[a4];rfl
     by_cases a5:w.Letter=78
     ·rw[a5];rfl
     by_cases a6:w.Letter=88
     ·rw[a6];rfl
     by_cases a7:w.Letter=89
     ·rw[a7];rfl
     by_cases a8:w.Letter=90
     ·rw[a8];rfl
     by_cases a9:w.Letter=73
     ·rw[a9];rfl
     by_cases b1:w.Letter=74
     ·rw[b1];rfl
     by_cases b2:w.Letter=81
     ·rw[b2];rfl
     by_cases b3:w.Letter=82
     ·rw[b3];rfl
     simp[h1,h2,a1,a2,a3,a4,a5,a6,a7,a8,a9,b1,b2,b3]
 ·rw[od (by simpa using h0),ae,od rfl,oi h0];rfl
def crd(b:aa)(l a d:Int):Int:=if (bp b l).2=true then (if d=90000 then (bp b l).1 else a+(bp b l).1)else a
def tgtW(s:aq)(b:aa)(p:ag):ag:=⟨crd b 88 p.X s.Distance,crd b 89 p.Y s.Distance,crd b 90 p.Z s.Distance⟩
theorem crd_bd(hv:ci b)(h:-10000000≤a∧a≤10000000)(l d:Int):-1000010000000≤crd b l a d∧crd b l a d≤1000010000000:=by
 have:=ir hv l
 unfold crd
 split
 ·split<;>omega
 ·omega
theorem inp_crd(hv:ci b)(hl:b.Words.length≤1000)(h:-10000000≤a∧a≤10000000)(l d:Int):(ah (ji b l) λ(y:Int×Bool)=>if (!y.2)=true then some a else if (d==90000)=true then some y.1 else some (IntKind.i64.wrap (a+y.1)))=some (crd b l a d):=by
 have:=ir hv l
 rw[iB b l hl,ae]
 unfold crd
 cases (bp b l).2 with
 | false=>rfl
 | true =>
  by_cases hd:d=90000
  ·rw[hd];rfl
  ·rw[beq_false_of_ne hd,od rfl,oc hd,am (by omega) (by omega)];rfl
theorem inp_target_eq(hv:ci b)(hl:b.Words.length≤1000)(hp:inR p):fY s b p=some (tgtW s b p):=by
 (unfold fY;try delta jB)
 rw[inp_crd hv hl hp.1,ae,inp_crd hv hl hp.2.1,ae,inp_crd hv hl hp.2.2,ae]
 rfl
theorem r47_crd(hv:ci b)(hl:b.Words.length≤1000)(h:-10000000≤a∧a≤10000000){d:Int}(hd:d∈g8)(l:Int):cu b l a d=some (crd b l a d):=by
 have:=ir hv l
 unfold cu crd
 rw[nG b l hl,ae]
 cases (bp b l).2 with
 | false=>rfl
 | true =>
  unfold g8 at hd
  simp only[zJ,zF,or_false]at hd
  rcases hd with hd | hd
  ·rw[hd];rfl
  ·rw[hd,am (by omega) (by omega)];rfl
theorem ls(b:aa)(c:Int)(hl:b.Words.length≤1000):iR b c=some (bp b c).1:=by
 unfold iR
 rw[nG b c hl,ae]
def cycB(k:Int):Bool:=(k==81000)||((k==82000)||(k==83000))
def mvV(s:aq)(b:aa)(p:ag):ar:=⟨if s.Motion=3000 then 4 else 3,tgtW s b p,⟨p.X+(bp b 73).1,p.Y+(bp b 74).1⟩,s.Feed⟩
def iniW(c:ao)(p:ag):Int:=if ((c.Code==0)&&((c.R==0)&&((c.Z==0)&&((c.Q==0)&&((c.Rate==0)&&((c.Initial==0)&&(c.High==false)))))))=true then p.Z else c.Initial
def rdC(s:aq)(c:ao)(b:aa)(p:ag):ao :=
 ao.mk s.Motion (if (bp b 82).2=true then (bp b 82).1 else c.R) (if (bp b 90).2=true then (bp b 90).1 else c.Z) (if (bp b 81).2=true then (bp b 81).1 else c.Q) (if (bp b 70).2=true then (bp b 70).1 else s.Feed) (iniW c p) (s.Return==98000)
def reM(m:ar):ap:=⟨m.To,m.Rate⟩
def posV(s:aq)(c:ao)(b:aa)(p:ag):List ap×ao×Int :=
  if s.Motion=0 then ([⟨tgtW s b p,0⟩],zC,0)
  else if s.Motion=1000 then ([⟨tgtW s b p,s.Feed⟩],zC,0)
  else if cycB s.Motion=true then
    (if cycV (rdC s c b p)≠0 then ([],zC,cycV (rdC s c b p))
     else if (expV (rdC s c b p) p ⟨(tgtW s b p).X,(tgtW s b p).Y⟩).2≠0 then ([],zC,(expV (rdC s c b p) p ⟨(tgtW s b p).X,(tgtW s b p).Y⟩).2)
     else ((expV (rdC s c b p) p ⟨(tgtW s b p).X,(tgtW s b p).Y⟩).1.map reM,rdC s c b p,0))
  else if movV p (mvV s b p)=0 then ((arcL p (mvV s b p)).map λq=>⟨q,s.Feed⟩,zC,0)
  else ([],zC,movV p (mvV s b p))
theorem mvV_ok(hv:ci b)(hp:inR p)(hf:i64P s.Feed):okPos p∧lN (mvV s b p):=by
 obtain⟨p1,p2,p3⟩:=hp
 have a1:=crd_bd hv p1 88 s.Distance
 have a2:=crd_bd hv p2 89 s.Distance
 have a3:=crd_bd hv p3 90 s.Distance
 have b1:=ir hv 73
 have b2:=ir hv 74
 refine⟨⟨jb p1,jb p2,jb p3⟩,?_,⟨?_,?_,?_⟩,?_,?_,hf⟩
 ·unfold mvV i64P;dsimp only;split<;>omega
 ·unfold mvV tgtW i64P;dsimp only;omega
 ·unfold mvV tgtW i64P;dsimp only;omega
 ·unfold mvV tgtW i64P;dsimp only;omega
 ·unfold mvV i64P;dsimp only;omega
 ·unfold mvV i64P;dsimp only;omega
theorem mvV_kind(s:aq)(b:aa)(p:ag):(mvV s b p).Kind=3∨(mvV s b p).Kind=4:=by
 unfold mvV;dsimp only;split
 ·exact .inr rfl
 ·exact .inl rfl
theorem arc_ok(hk:m.Kind=3∨m.Kind=4)(h:movV p m=0):k6 p m:=by
 unfold movV at h
 rw[oc (by omega)]at h
 by_cases e2:(m.Kind=3∨m.Kind=4)∧m.Rate>0∧rad p m.Center>0∧rad p m.Center=rad m.To m.Center
 ·rw[od e2]at h
  by_cases f:(far6 p m.To||farP m.Center.X||farP m.Center.Y||farP (m.Center.X+rad p m.Center)||farP (m.Center.X-rad p m.Center)||farP (m.Center.Y+rad p m.Center)||farP (m.Center.Y-rad p m.Center))=true
  ·rw[od f]at h;cases h
  ·have f':(far6 p m.To||farP m.Center.X||farP m.Center.Y||farP (m.Center.X+rad p m.Center)||farP (m.Center.X-rad p m.Center)||farP (m.Center.Y+rad p m.Center)||farP (m.Center.Y-rad p m.Center))=false:=by simpa using f
   simp only[zN,far6]at f'
   obtain⟨⟨⟨⟨⟨⟨⟨⟨⟨⟨⟨g1,g2⟩,g3⟩,g4⟩,g5⟩,g6⟩,fx⟩,fy⟩,h1⟩,h2⟩,h3⟩,h4⟩:=f'
   have k1:=fO h1;have k2:=fO h2;have k3:=fO h3;have k4:=fO h4
   exact⟨hk,fO g1,fO g2,fO g3,fO g4,fO g5,fO g6,fO fx,fO fy,by omega,e2.2.2.2,by omega,by omega⟩
 ·rw[oc e2]at h;cases h
theorem ip_Arc_bad(hk:m.Kind=3∨m.Kind=4)(hp:okPos p)(hm:lN m)(h:movV p m≠0):nf p m=some ([],movV p m):=by
 have hQ:b8 p m=some (0,movV p m):=by
  (unfold b8 im;try delta jC jV)
  have hk':((m.Kind==3)||(m.Kind==4))=true:=by simpa using hk
  rw[hk',ae,oc (by simp)]
  show ah (io p m) _=_
  rw[ip_Valid_eq hp hm,ae,od (by simpa using h)]
 (unfold nf;try delta jB jC lF gF)
 show ah (b8 p m) _=_
 rw[hQ,ae,od (by simpa using h)]
theorem map_loop{β:Type}(g:α→β)(l:List α)(hl:l.length≤1000000):(av (be l) (az (λ(i:Nat) (e:α) (v:List β)=>av (bo (v.length+1)) (some (.go (v++[g e])))) (λv=>some v) l 0 []))=some (l.map g):=by
 rw[aK (by omega),aN,dc (g:=λ(o:List β) (x:α)=>o++[g x]) (R:=λi v=>v.length≤i) (L:=l) ?_ l 0 [] rfl (by simp)]
 ·rw[map_fold];rfl
 ·intro i x v hx hr
  have hlt:=ak hx
  rw[aQ (by omega),aN]
  exact⟨rfl,by simp;omega⟩
theorem expV_len(c:ao)(p:ag)(g:aO):(expV c p g).1.length≤2010:=by
 unfold expV
 split
 ·split
  ·simp
  ·rename_i h _
   exact cycM_len (cycV_ok h) p g
 ·simp
theorem arcL_len(h:k6 p m):(arcL p m).length≤4000:=by
 have:=h.all
 unfold arcL;simp;omega
theorem posV_len(s:aq)(c:ao)(b:aa)(p:ag):(posV s c b p).1.length≤4000:=by
 unfold posV
 split
 ·simp
 ·split
  ·simp
  ·split
   ·split
    ·simp
    ·split
     ·simp
     ·have:=expV_len (rdC s c b p) p ⟨(tgtW s b p).X,(tgtW s b p).Y⟩
      simp;omega
   ·split
    ·rename_i h
     have:=arcL_len (arc_ok (mvV_kind s b p) h)
     simp;omega
    ·simp
theorem inp_positions_eq(hv:ci b)(hl:b.Words.length≤1000)(hp:inR p)(hf:i64P s.Feed):dq s c b p=some (posV s c b p):=by
 unfold dq posV
 (first | rw[show aa.mk b.Skip b.Words b.Comment=b from rfl,inp_target_eq hv hl hp,ae] | rw[inp_target_eq hv hl hp,ae])
 by_cases m0:s.Motion=0
 ·rw[od (by simpa using m0),od m0];rfl
 rw[oc (by simpa using m0),oc m0]
 by_cases m1:s.Motion=1000
 ·rw[od (by simpa using m1),od m1];rfl
 rw[oc (by simpa using m1),oc m1]
 (unfold dD;try delta jV)
 rw[ae]
 by_cases mc:cycB s.Motion=true
 ·rw[od (show ((s.Motion==81000)||((s.Motion==82000)||(s.Motion==83000)))=true from mc),od mc]
  have hcan:fh s c b p (tgtW s b p)=some (if cycV (rdC s c b p)≠0 then ([],zC,cycV (rdC s c b p))
    else if (expV (rdC s c b p) p ⟨(tgtW s b p).X,(tgtW s b p).Y⟩).2≠0 then ([],zC,(expV (rdC s c b p) p ⟨(tgtW s b p).X,(tgtW s b p).Y⟩).2)
    else ((expV (rdC s c b p) p ⟨(tgtW s b p).X,(tgtW s b p).Y⟩).1.map reM,rdC s c b p,0)):=by
   (unfold fh;try delta jB jC rF gF)
   have hi:(if (!((c.Code==0)&&((c.R==0)&&((c.Z==0)&&((c.Q==0)&&((c.Rate==0)&&((c.Initial==0)&&(c.High==false))))))))=true then some c.Initial else some p.Z)=some (iniW c p):=by
    unfold iniW
    cases ((c.Code==0)&&((c.R==0)&&((c.Z==0)&&((c.Q==0)&&((c.Rate==0)&&((c.Initial==0)&&(c.High==false)))))))<;>rfl
   obtain⟨n,hn,hn2⟩:=cy_Read_same b s.Motion s.Feed (iniW c p) (s.Return==98000) c hl
   have hn3:n=rdC s c b p:=hn2
   subst hn3
   rw[hi,ae,hn,ae]
   by_cases z:cycV (rdC s c b p)=0
   ·rw[od z,oc (by simp),cy_Expand_one,ae,oc (show ¬(cycV (rdC s c b p)≠0) by simpa using z)]
    by_cases y:(expV (rdC s c b p) p ⟨(tgtW s b p).X,(tgtW s b p).Y⟩).2=0
    ·rw[oc (by simpa using y),oc (by simpa using y),map_loop (λe:ar=>ap.mk e.To e.Rate) _ (Nat.le_trans (expV_len (rdC s c b p) p ⟨(tgtW s b p).X,(tgtW s b p).Y⟩) (by decide)),ae]
     rfl
    ·rw[od (by simpa using y),od (by simpa using y)];rfl
   ·rw[oc z,od (by simpa using z),od z];rfl
  show ah (fh s c b p (tgtW s b p)) _=_
  rw[hcan,ae]
 ·rw[oc (show ¬((s.Motion==81000)||((s.Motion==82000)||(s.Motion==83000)))=true from mc),oc mc]
  obtain⟨op,om⟩:=mvV_ok (s:=s) hv hp hf
  have hb1:=ir hv 73
  have hb2:=ir hv 74
  obtain⟨p1,p2,p3⟩:=hp
  have harc:lY s b p (tgtW s b p)=some (if movV p (mvV s b p)=0 then ((arcL p (mvV s b p)).map λq=>⟨q,s.Feed⟩,0)else ([],movV p (mvV s b p))):=by
   (unfold lY;try delta jB jC rF gF)
   rw[jy b 73 hl,ae,jy b 74 hl,ae]
   have hk:(if (s.Motion==3000)=true then some (4:Int)else some 3)=some (if s.Motion=3000 then 4 else 3):=by
    by_cases q:s.Motion=3000
    ·rw[od (by simpa using q),od q]
    ·rw[oc (by simpa using q),oc q]
   rw[hk,ae,am (n:=p.X+(bp b 73).1) (by omega) (by omega),am (n:=p.Y+(bp b 74).1) (by omega) (by omega)]
   show ah (nf p (mvV s b p)) _=_
   by_cases z:movV p (mvV s b p)=0
   ·have ok:=arc_ok (mvV_kind s b p) z
    rw[ip_Arc_eq ok op om z,ae,od z,map_loop (λe:ag=>ap.mk e s.Feed) _ (Nat.le_trans (arcL_len ok) (by decide)),ae]
   ·rw[ip_Arc_bad (mvV_kind s b p) op om z,ae,oc z]
    rfl
  show ah (lY s b p (tgtW s b p)) _=_
  rw[harc,ae]
  by_cases z:movV p (mvV s b p)=0
  ·rw[od z,od z];rfl
  ·rw[oc z,oc z];rfl
def ways:ag→List ar→List ap→Prop
 | _,[],fl=>fl=[]
 | p,x::l,fl=>∃w fl',cq p x=some (w,0)∧w.length≤4000∧ways x.To l fl'∧fl=w.map (λq=>ap.mk q x.Rate)++fl'
theorem ib:∀(l:List ar) (p:ag),(∀m∈l,m.Kind≠3∧m.Kind≠4)→ways p l (l.map reM)
 | [],_,_=>rfl
 | x::l,p,h=>by
  obtain⟨h3,h4⟩:=h x (by simp)
  refine⟨[x.To],l.map reM,?_,by simp,ib l x.To (λm hm=>h m (by simp[hm])),rfl⟩
  (unfold cq;try delta jV)
  rw[od (by simp[h3,h4])]
theorem ways_arc(ok:k6 p m)(hp:okPos p)(hm:lN m)(hv:movV p m=0):ways p [m] ((arcL p m).map λq=>ap.mk q m.Rate):=by
 refine⟨arcL p m,[],?_,arcL_len ok,rfl,by simp⟩
 (unfold cq;try delta jV)
 rw[oc (by rcases ok.kind with k | k<;>simp[k]),r33_Arc_eq ok hp hm hv,ae]
theorem mF{s:ag×List ar}(q:ag)(r:Int)(h:∀m∈s.2,m.Kind≠3∧m.Kind≠4):∀m∈(goM s q r).2,m.Kind≠3∧m.Kind≠4:=by
 unfold goM
 split
 ·exact h
 ·intro m hm
  rcases List.mem_append.1 hm with z | z
  ·exact h m z
  ·simp only[zJ,zF,or_false]at z
   subst z
   dsimp only
   split<;>omega
theorem fold_kind(c:ao)(g:aO):∀(l:List Int) (s:ag×List ar),(∀m∈s.2,m.Kind≠3∧m.Kind≠4)→∀m∈(l.foldl (λs z=>goM (goM s (ag.mk g.X g.Y z) c.Rate) (ag.mk g.X g.Y c.R) 0) s).2,m.Kind≠3∧m.Kind≠4
 | [],s,h=>h
 | z::l,s,h=>fold_kind c g l _ (mF _ _ (mF _ _ h))
theorem cycM_kind(c:ao)(p:ag)(g:aO):∀m∈(cycM c p g).2,m.Kind≠3∧m.Kind≠4:=by
 unfold cycM
 dsimp only
 have h3:=fold_kind c g (depL c) (goM (goM (goM (p,[]) (ag.mk p.X p.Y (if p.Z<c.R then c.R else p.Z)) 0) (ag.mk g.X g.Y (goM (p,[]) (ag.mk p.X p.Y (if p.Z<c.R then c.R else p.Z)) 0).1.Z) 0) (ag.mk g.X g.Y c.R) 0) (mF _ _ (mF _ _ (mF _ _ (by simp))))
 split
 ·exact mF _ _ h3
 ·exact h3
theorem expV_kind(c:ao)(p:ag)(g:aO):∀m∈(expV c p g).1,m.Kind≠3∧m.Kind≠4:=by
 unfold expV
 split
 ·split
  ·simp
  ·exact cycM_kind c p g
 ·simp
theorem r47_moves_eq{c:ao}(st:aS)(at_:ag)(hv:ci b)(hl:b.Words.length≤1000)(hp:inR p)(hf:i64P s.Feed)(hr:regMd s)(hn:s.Motion≠80000) :
  ∃l c',jW (ax.mk st (r44c c) at_) (dh s) b p=some (l,c',(posV s c b p).2.2)∧((posV s c b p).2.2=0→c'=r44c (posV s c b p).2.1∧ways p l (posV s c b p).1∧l.length≤3000):=by
 (unfold jW;try delta jC jV)
 have eD:(dh s).Distance=s.Distance:=rfl
 have eM:(dh s).Motion=s.Motion:=rfl
 have eF:(dh s).Feed=s.Feed:=rfl
 have eR:(dh s).Return=s.Return:=rfl
 rw[eD,eM,eF,eR,r47_crd hv hl hp.1 hr.2,ae,r47_crd hv hl hp.2.1 hr.2,ae,r47_crd hv hl hp.2.2 hr.2,ae]
 (unfold ea;try delta jV)
 rw[ae]
 have hcodes:=hr.1
 unfold g9 at hcodes
 simp only[zJ,zF,or_false]at hcodes
 unfold posV
 by_cases mc:cycB s.Motion=true
 ·have m0:¬s.Motion=0:=by intro q;rw[q]at mc;cases mc
  have m1:¬s.Motion=1000:=by intro q;rw[q]at mc;cases mc
  rw[od (show ((s.Motion==81000)||((s.Motion==82000)||(s.Motion==83000)))=true from mc),oc m0,oc m1,od mc]
  have hi:(if (((r44c c).Code==0)&&(((r44c c).R==0)&&(((r44c c).Z==0)&&(((r44c c).Q==0)&&(((r44c c).Rate==0)&&(((r44c c).Initial==0)&&((r44c c).High==false)))))))=true then some p.Z else some (r44c c).Initial)=some (iniW c p):=by
   show (if ((c.Code==0)&&((c.R==0)&&((c.Z==0)&&((c.Q==0)&&((c.Rate==0)&&((c.Initial==0)&&(c.High==false)))))))=true then some p.Z else some c.Initial)=_
   unfold iniW
   cases ((c.Code==0)&&((c.R==0)&&((c.Z==0)&&((c.Q==0)&&((c.Rate==0)&&((c.Initial==0)&&(c.High==false)))))))<;>rfl
  have hR:=r44_Read_same b s.Motion s.Feed (iniW c p) (s.Return==98000) c hl (c:=rdC s c b p) rfl
  dsimp only
  rw[hi,ae,hR,ae]
  by_cases z:cycV (rdC s c b p)=0
  ·rw[od z,oc (by simp),oc (show ¬(cycV (rdC s c b p)≠0) by simpa using z),r44_Expand_one,ae]
   have hk:=expV_kind (rdC s c b p) p ⟨(tgtW s b p).X,(tgtW s b p).Y⟩
   have hln:=expV_len (rdC s c b p) p ⟨(tgtW s b p).X,(tgtW s b p).Y⟩
   show ∃l c',some ((expV (rdC s c b p) p ⟨(tgtW s b p).X,(tgtW s b p).Y⟩).1,r44c (rdC s c b p),(expV (rdC s c b p) p ⟨(tgtW s b p).X,(tgtW s b p).Y⟩).2)=_∧_
   by_cases y:(expV (rdC s c b p) p ⟨(tgtW s b p).X,(tgtW s b p).Y⟩).2=0
   ·rw[oc (by simpa using y)]
    exact⟨_,_,by rw[y],λ_=>⟨rfl,ib _ _ hk,by omega⟩⟩
   ·rw[od y]
    exact⟨_,_,rfl,λq=>absurd q y⟩
  ·rw[oc z,od (by simpa using z),od z]
   exact⟨_,_,rfl,λq=>absurd q z⟩
 ·rw[oc (show ¬((s.Motion==81000)||((s.Motion==82000)||(s.Motion==83000)))=true from mc)]
  by_cases m0:s.Motion=0
  ·rw[od m0]
   simp only[m0,bne_self_eq_false,zA,oe,ae,beq_iff_eq,zD,show ¬((0:Int)=2000) by decide,show ¬((0:Int)=3000) by decide,or_self,d5]
   exact⟨_,_,rfl,λ_=>⟨rfl,ib [_] p (by simp),by simp⟩⟩
  rw[oc m0]
  by_cases m1:s.Motion=1000
  ·rw[od m1]
   simp only[m1,bne_iff_ne,ne_eq,show ¬((1000:Int)=0) by decide,not_false_eq_true,og,ae,beq_iff_eq,zD,show ¬((1000:Int)=2000) by decide,show ¬((1000:Int)=3000) by decide,or_self,oe,d5]
   exact⟨_,_,rfl,λ_=>⟨rfl,ib [_] p (by simp),by simp⟩⟩
  rw[oc m1,oc mc]
  have m23:s.Motion=2000∨s.Motion=3000:=by
   rcases hcodes with h | h | h | h | h | h | h | h
   ·exact absurd h m0
   ·exact absurd h m1
   ·exact .inl h
   ·exact .inr h
   ·exact absurd h hn
   ·rw[h]at mc;exact absurd rfl mc
   ·rw[h]at mc;exact absurd rfl mc
   ·rw[h]at mc;exact absurd rfl mc
  obtain⟨op,om⟩:=mvV_ok (s:=s) hv hp hf
  have hb1:=ir hv 73
  have hb2:=ir hv 74
  obtain⟨p1,p2,p3⟩:=hp
  rw[od (show (s.Motion != 0)=true by simpa using m0),ae,od (show ((s.Motion==2000)||(s.Motion==3000))=true by simpa using m23)]
  have hk:(if (s.Motion==3000)=true then some (4:Int)else some 3)=some (if s.Motion=3000 then 4 else 3):=by
   by_cases q:s.Motion=3000
   ·rw[od (by simpa using q),od q]
   ·rw[oc (by simpa using q),oc q]
  rw[hk,ae,ls b 73 hl,ae,ls b 74 hl,ae,am (n:=p.X+(bp b 73).1) (by omega) (by omega),am (n:=p.Y+(bp b 74).1) (by omega) (by omega)]
  have hV:=r33_Valid_eq op om
  (first | rw[show ar.mk (if s.Motion=3000 then 4 else 3) (ar.mk 2 (ag.mk (crd b 88 p.X s.Distance) (crd b 89 p.Y s.Distance) (crd b 90 p.Z s.Distance)) (aO.mk 0 0) s.Feed).To (aO.mk (p.X+(bp b 73).1) (p.Y+(bp b 74).1)) (ar.mk 2 (ag.mk (crd b 88 p.X s.Distance) (crd b 89 p.Y s.Distance) (crd b 90 p.Z s.Distance)) (aO.mk 0 0) s.Feed).Rate=mvV s b p from rfl,hV,ae] | rw[hV,ae])
  by_cases z:movV p (mvV s b p)=0
  ·rw[z,oc (by decide),od rfl,d5]
   exact⟨_,_,rfl,λ_=>⟨rfl,ways_arc (arc_ok (mvV_kind s b p) z) op om z,by simp⟩⟩
  ·rw[od (by simpa using z),oc z,bindX_r]
   exact⟨_,_,rfl,λq=>absurd q z⟩
def cr(t:aC)(w n:Int)(q:ag):ag×Int:=(d7 t w n q).getD (⟨0,0,0⟩,1)
theorem machV_eq(ht:t.Lengths.length≤1000)(w n:Int)(q:ag):d7 t w n q=some (cr t w n q):=by
 obtain⟨e,h,_⟩:=mW t w n q ht
 unfold cr;rw[h];rfl
def addM(r:ag)(rate tool i:Int)(v:List al×ag):List al×ag:=(if (!posEq r v.2)=true then v.1++[al.mk v.2 r rate tool i]else v.1,r)
def runM(t:aC)(w n tool i:Int):List ap→List al×ag→Ex Int (List al×ag)
 | [],v=>.go v
 | x::l,v=>if (cr t w n x.at_).2≠0 then .ret (cr t w n x.at_).2 else runM t w n tool i l (addM (cr t w n x.at_).1 x.rate tool i v)
theorem runM_append(t:aC)(w n tool i:Int)(m:List ap):∀(l:List ap) (v:List al×ag),runM t w n tool i (l++m) v=match runM t w n tool i l v with | .ret e=>.ret e | .go u=>runM t w n tool i m u
 | [],v=>rfl
 | x::l,v=>by
  simp only[zK,runM]
  by_cases h:(cr t w n x.at_).2=0
  ·rw[oc (by simpa using h),oc (by simpa using h)]
   exact runM_append t w n tool i m l _
  ·rw[od h,od h]
theorem addM_len(r:ag)(rate tool i:Int)(v:List al×ag):(addM r rate tool i v).1.length≤v.1.length+1:=by
 unfold addM;dsimp only;split<;>simp
theorem runM_len(t:aC)(w n tool i:Int):∀(l:List ap) (v u:List al×ag),runM t w n tool i l v=.go u→u.1.length≤v.1.length+l.length
 | [],v,u,h=>by injection h with h;subst h;simp
 | x::l,v,u,h=>by
  simp only[runM]at h
  by_cases q:(cr t w n x.at_).2=0
  ·rw[oc (by simpa using q)]at h
   have h1:=runM_len t w n tool i l _ u h
   have h2:=addM_len (cr t w n x.at_).1 x.rate tool i v
   simp only[zP];omega
  ·rw[od q]at h;cases h
theorem runM_ret(t:aC)(w n tool i:Int):∀(l:List ap) (v:List al×ag) (e:Int),runM t w n tool i l v=.ret e→e≠0
 | [],v,e,h=>by cases h
 | x::l,v,e,h=>by
  simp only[runM]at h
  by_cases q:(cr t w n x.at_).2=0
  ·rw[oc (by simpa using q)]at h
   exact runM_ret t w n tool i l _ e h
  ·rw[od q]at h
   injection h with h
   rw[←h];exact q
theorem runM_end(t:aC)(w n tool i:Int)(p:ag):∀(l:List ap) (v u:List al×ag),runM t w n tool i l v=.go u→v.2=endW p v.1→u.2=endW p u.1
 | [],v,u,h,hv=>by injection h with h;subst h;exact hv
 | x::l,v,u,h,hv=>by
  simp only[runM]at h
  by_cases q:(cr t w n x.at_).2=0
  ·rw[oc (by simpa using q)]at h
   refine runM_end t w n tool i p l _ u h ?_
   unfold addM
   dsimp only
   cases z:posEq (cr t w n x.at_).1 v.2 with
   | true=>rw[oc (by simp),←hv];exact posEq_iff.1 z
   | false=>rw[od (by simp),endW_snoc]
  ·rw[od q]at h;cases h
theorem runM_set(t:aC)(w n tool:Int)(i:Nat):∀(l:List ap) (v:List al×ag),runM t w n tool (i:Int) l (v.1.map (setB i),v.2)=match runM t w n tool 0 l v with | .ret e=>.ret e | .go u=>.go (u.1.map (setB i),u.2)
 | [],v=>rfl
 | x::l,v=>by
  simp only[runM]
  by_cases h:(cr t w n x.at_).2=0
  ·rw[oc (by simpa using h),oc (by simpa using h)]
   have e:addM (cr t w n x.at_).1 x.rate tool (i:Int) (v.1.map (setB i),v.2)=((addM (cr t w n x.at_).1 x.rate tool 0 v).1.map (setB i),(addM (cr t w n x.at_).1 x.rate tool 0 v).2):=by
    unfold addM
    dsimp only
    cases z:posEq (cr t w n x.at_).1 v.2 with
    | true=>rfl
    | false=>simp[setB]
   rw[e]
   exact runM_set t w n tool i l _
  ·rw[od h,od h]
theorem run_loop{α σ ε:Type}{f:Nat→α→σ→Option (Ex ε σ)}{d:σ→Option ε}{t:aC}{w n tool i:Int}(emb:List al×ag→σ)(pr:α→ap)(g:Int→ε)
  (hf:∀(k:Nat) x (v:List al×ag),v.1.length≤300000→f k x (emb v)=some (if (cr t w n (pr x).at_).2≠0 then .ret (g (cr t w n (pr x).at_).2)else .go (emb (addM (cr t w n (pr x).at_).1 (pr x).rate tool i v)))) :
  ∀(l:List α) (k:Nat) (v:List al×ag),v.1.length+l.length≤300000→az f d l k (emb v)=match runM t w n tool i (l.map pr) v with | .ret e=>some (g e) | .go u=>d (emb u)
 | [],k,v,_=>rfl
 | x::l,k,v,hv=>by
  simp only[zP]at hv
  simp only[az,hf k x v (by omega),List.map_cons,runM]
  by_cases h:(cr t w n (pr x).at_).2=0
  ·rw[oc (by simpa using h),oc (by simpa using h)]
   have:=addM_len (cr t w n (pr x).at_).1 (pr x).rate tool i v
   exact run_loop emb pr g hf l (k+1) _ (by omega)
  ·rw[od h,od h]
def lastTo:ag→List ar→ag
 | p,[]=>p
 | _,x::l=>lastTo x.To l
theorem ref_loop{ε:Type}{f:Nat→ar→List al×ax×ag→Option (Ex ε (List al×ax×ag))}{d:List al×ax×ag→Option ε}{t:aC}{w n tool i:Int}(st:aS)(cy:bc)(g:Int→ε)
  (hf:∀(k:Nat) (x:ar) (v:List al) (a p:ag) (ws:List ag),cq p x=some (ws,0)→ws.length≤4000→v.length+ws.length≤300000→f k x (v,ax.mk st cy a,p)=some (match runM t w n tool i (ws.map λq=>ap.mk q x.Rate) (v,a)with | .ret e=>.ret (g e) | .go u=>.go (u.1,ax.mk st cy u.2,x.To))) :
  ∀(l:List ar) (k:Nat) (v:List al) (a p:ag) (fl:List ap),ways p l fl→v.length+fl.length≤300000→az f d l k (v,ax.mk st cy a,p)=match runM t w n tool i fl (v,a)with | .ret e=>some (g e) | .go u=>d (u.1,ax.mk st cy u.2,lastTo p l)
 | [],k,v,a,p,fl,h,_=>by
  have h':fl=[]:=h
  subst h';rfl
 | x::l,k,v,a,p,fl,h,hv=>by
  obtain⟨ws,fl',h1,h2,h3,h4⟩:=h
  subst h4
  simp only[List.length_append,List.length_map]at hv
  rw[runM_append]
  simp only[az,hf k x v a p ws h1 h2 (by omega)]
  cases q:runM t w n tool i (ws.map λq=>ap.mk q x.Rate) (v,a)with
  | ret e=>rfl
  | go u =>
   have hlen:=runM_len t w n tool i _ _ _ q
   simp only[List.length_map]at hlen
   exact ref_loop st cy g hf l (k+1) u.1 u.2 x.To fl' h3 (by omega)
theorem run_fin{R:Type}{f:Nat→ap→List al×ag→Option (Ex (Ex R (List al×ag)) (List al×ag))}{L:List ap}{v:List al×ag}{k:List al×ag→Option R}(t:aC)(w n tool i:Int)(g:Int→R)(hL:v.1.length+L.length≤300000)
  (hf:∀(j:Nat) x (v:List al×ag),v.1.length≤300000→f j x v=some (if (cr t w n x.at_).2≠0 then .ret (.ret (g (cr t w n x.at_).2))else .go (addM (cr t w n x.at_).1 x.rate tool i v))) :
  bindX (av (be L) (az f (λv=>some (.go (v.1,v.2))) L 0 v)) k=match runM t w n tool i L v with | .ret e=>some (g e) | .go u=>k u:=by
 have h:=run_loop (t:=t) (w:=w) (n:=n) (tool:=tool) (i:=i) (f:=f) (d:=λv=>some (.go (v.1,v.2))) (λv=>v) (λx=>x) (λe=>Ex.ret (g e)) hf L 0 v hL
 rw[aK (by omega),aN,h,List.map_id']
 cases runM t w n tool i L v<;>rfl
theorem inner_fin{f:Nat→ag→List al×ax→Option (Ex (Ex ε (List al×ax)) (List al×ax))}{ws:List ag}{v:List al}{st:aS}{cy:bc}{a:ag}{k:List al×ax→Option ε}(t:aC)(w n tool i rate:Int)(g:Int→ε)(hv:v.length+ws.length≤300000)
  (hf:∀(j:Nat) (q:ag) (v:List al×ag),v.1.length≤300000→f j q (v.1,ax.mk st cy v.2)=some (if (cr t w n q).2≠0 then .ret (.ret (g (cr t w n q).2))else .go ((addM (cr t w n q).1 rate tool i v).1,ax.mk st cy (addM (cr t w n q).1 rate tool i v).2))) :
  bindX (av (be ws) (az f (λv=>some (.go (v.1,v.2))) ws 0 (v,ax.mk st cy a))) k=match runM t w n tool i (ws.map λq=>ap.mk q rate) (v,a)with | .ret e=>some (g e) | .go u=>k (u.1,ax.mk st cy u.2):=by
 have h:=run_loop (t:=t) (w:=w) (n:=n) (tool:=tool) (i:=i) (f:=f) (d:=λv=>some (.go (v.1,v.2))) (λv=>(v.1,ax.mk st cy v.2)) (λq=>ap.mk q rate) (λe=>Ex.ret (g e)) hf ws 0 (v,a) hv
 rw[aK (by omega),aN,h]
 cases runM t w n tool i (ws.map λq=>ap.mk q rate) (v,a)<;>rfl
theorem outer_fin{R:Type}{f:Nat→ar→List al×ax×ag→Option (Ex (Ex R (List al×ax×ag)) (List al×ax×ag))}{l:List ar}{st:aS}{cy:bc}{a p:ag}{k:List al×ax×ag→Option R}(t:aC)(w n tool i:Int)(fl:List ap)(g:Int→R)(hw:ways p l fl)(hl:l.length≤3000)(hv:fl.length≤4000)
  (hf:∀(j:Nat) (x:ar) (v:List al) (a p:ag) (ws:List ag),cq p x=some (ws,0)→ws.length≤4000→v.length+ws.length≤300000→f j x (v,ax.mk st cy a,p)=some (match runM t w n tool i (ws.map λq=>ap.mk q x.Rate) (v,a)with | .ret e=>.ret (.ret (g e)) | .go u=>.go (u.1,ax.mk st cy u.2,x.To))) :
  bindX (av (be l) (az f (λv=>some (.go (v.1,v.2.1,v.2.2))) l 0 ([],ax.mk st cy a,p))) k=match runM t w n tool i fl ([],a)with | .ret e=>some (g e) | .go u=>k (u.1,ax.mk st cy u.2,lastTo p l):=by
 have h:=ref_loop (t:=t) (w:=w) (n:=n) (tool:=tool) (i:=i) (f:=f) (d:=λv=>some (.go (v.1,v.2.1,v.2.2))) st cy (λe=>Ex.ret (g e)) hf l 0 [] a p fl hw (by simp;omega)
 rw[aK (by omega),aN,h]
 cases runM t w n tool i fl ([],a)<;>rfl
theorem posV_c{d:ao}(h:¬cycB s.Motion=true):posV s c b p=posV s d b p:=by
 unfold posV
 rw[oc h,oc h]
variable {β:Type}
theorem unit_s(f:Unit→Option β):ah (some ()) f=f ():=rfl
theorem ijqr(hI hQ cy a b:Bool):(if hI=true then (if a=true then (if b=true then some true else if hQ=true then some (!cy)else some false)else if hQ=true then some (!cy)else some false)else if hQ=true then some (!cy)else some false)=some ((hI&&a&&b)||(hQ&&!cy)):=by
 cases hI<;>cases hQ<;>cases cy<;>cases a<;>cases b<;>rfl
def sameS(p:ag)(i:Nat)(x:Option (List al×aq×ao×Int))(y:Option (List al×ax×Int)):Prop :=
 ∃l s d e at_,x=some (l,s,d,e)∧y=some (l.map (setB i),ax.mk (dh s) (r44c d) at_,e)∧(e=0→at_=endW p l∧regMd s∧i64P s.Feed)
theorem gA(h:e≠0):sameS p i (some ([],aq.mk 0 0 0 0 0 0 0 0,ao.mk 0 0 0 0 0 0 false,e)) (some ([],ax.mk (aS.mk 0 0 0 0 0 0 0 0) (bc.mk 0 0 0 0 0 0 false) (ag.mk 0 0 0),e)) :=
 ⟨[],_,_,e,⟨0,0,0⟩,rfl,rfl,λq=>absurd q h⟩
theorem put_feed(h:i64P s.Feed)(hw:i64P w.Value):i64P (putW s w).Feed:=by
 unfold putW
 by_cases h1:w.Letter=71
 ·rw[od h1]
  by_cases g1:grp w.Value=1
  ·rw[od g1];exact h
  ·rw[oc g1]
   by_cases g2:grp w.Value=2
   ·rw[od g2];exact h
   ·rw[oc g2]
    by_cases g3:grp w.Value=3
    ·rw[od g3];exact h
    ·rw[oc g3]
     by_cases g4:grp w.Value=4
     ·rw[od g4];exact h
     ·rw[oc g4];exact h
 ·rw[oc h1]
  by_cases h2:w.Letter=70
  ·rw[od h2];exact hw
  ·rw[oc h2]
   by_cases h3:w.Letter=84
   ·rw[od h3];exact h
   ·rw[oc h3]
    by_cases h4:w.Letter=72
    ·rw[od h4];exact h
    ·rw[oc h4];exact h
theorem fold_feed:∀(l:List ay) (s:aq),i64P s.Feed→(∀w∈l,i64P w.Value)→i64P (l.foldl putW s).Feed
 | [],_,h,_=>h
 | w::l,s,h,hw=>fold_feed l _ (put_feed h (hw w (by simp))) (λx hx=>hw x (by simp[hx]))
theorem step_same    {t:bg}  (i : Nat) (hb : okS b) (ht : t.Lengths.length ≤ 1000) (hs : regMd s) (hF : i64P s.Feed) :
    sameS p i (ip s c b (aF t) p) (mo (ax.mk (dh s) (r44c c) p) b t (i:Int)):=by
  obtain⟨hu,hl,hc⟩:=hb
  have hok:okB b:=⟨hu,by omega⟩
  have ht':(aF t).Lengths.length≤1000:=by simp[aF];omega
  obtain⟨ev,hev,hev2⟩:=ii t ht
  have hev':di (aF t)=some ev:=by rw[iv t ht,hev]
  obtain⟨ew,hbk,h41,hew⟩:=valid41 b hl hc
  have hkn:=r47_known_eq b hu hl h41
  have hbad:(ah (iu b) λ(y2:Int)=>if (y2 != 0)=true then some true else ah (kM b) λ(y3:Int)=>if (y3 != 0)=true then some true else ah (gL b) λ(y4:Bool)=>some (!y4))=some (!(decide (ew=0)&&(dP [] b.Words&&b.Words.all knW))):=by
    rw[hbk,ae]
    by_cases q:ew=0
    · rw[oc (by simpa using q),oh q,zG,nH b hu (by omega),ae]
      cases dP [] b.Words with
      | false=>rfl
      | true=>rw[od rfl,oc (by decide),inp_known_eq b hl,ae,zG]
    · rw[od (by simpa using q),oi q];rfl
  have hchk:bF (aF t) p=some (if ev≠0 then 1 else if inR p then 0 else 11):=by
    unfold bF
    (first | rw[show aC.mk (aF t).Work (aF t).Lengths=aF t from rfl,hev',ae,dt,ae] | rw[hev',ae,dt,ae])
    by_cases v0:ev=0
    · rw[oc (show ¬((ev != 0)=true) by simpa using v0),oc (show ¬(ev≠0) by simpa using v0)]
      by_cases hp:inR p
      · rw[oh hp,od hp];rfl
      · rw[oi hp,oc hp];rfl
    · rw[od (by simpa using v0),od v0]
  (unfold ip mo;try delta jB jC jR rF jV gF iF)
  simp only[unit_s]
  rw[hchk,ae,hev,ae]
  by_cases v0:ev=0
  · rw[oc (show ¬(ev≠0) by simpa using v0),oc (show ¬((ev != 0)=true) by simpa using v0)]
    rw[show dk (ax.mk (dh s) (r44c c) p).At=dk p from rfl,jG,ae]
    by_cases hp:inR p
    · rw[od hp,oh hp,oc (show ¬(((0:Int) != 0)=true) by decide),oc (show ¬((!true)=true) by decide),hbad,ae,hkn,ae]
      cases hk:(decide (ew=0)&&(dP [] b.Words&&b.Words.all knW))with
      | false=>exact gA (by decide)
      | true =>
        simp only[zX,oo]at hk
        obtain⟨k1,k2,k3⟩:=hk
        have hv:ci b:=by
          rcases hew with⟨_,z⟩|⟨z,_⟩
          · exact z
          · omega
        have hgood:=k2
        (first | rw[oc (by simp),oc (by simp),nI s b hok,ae,show aa.mk b.Skip b.Words b.Comment=b from rfl,r42_Apply_eq s b hok,ae,od hgood,od hgood] | rw[oc (by simp),oc (by simp),nI s b hok,ae,r42_Apply_eq s b hok,ae,od hgood,od hgood])
        have hr1:=fold_reg b.Words s hs
        have hF1:=fold_feed b.Words s hF (λw hw=>by
          have:=hv.2.2.1 w hw
          unfold okW at this
          unfold i64P;omega)
        generalize b.Words.foldl putW s=s1 at hr1 hF1
        dsimp only
        rw[oc (by decide)]
        have cI:∀k,dD k=some (cycB k):=λ_=>rfl
        have cR:∀k,ea k=some (cycB k):=λ_=>rfl
        have eM:(dh s1).Motion=s1.Motion:=rfl
        have eFd:(dh s1).Feed=s1.Feed:=rfl
        simp only[cI,cR,ae,eM,eFd]
        obtain⟨c1,hc1⟩:∃c1,(if cycB s1.Motion=true then c else zC)=c1:=⟨_,rfl⟩
        have i1:(if (!cycB s1.Motion)=true then some (ao.mk 0 0 0 0 0 0 false)else some (ao.mk c.Code c.R c.Z c.Q c.Rate c.Initial c.High))=some c1:=by
          rw[←hc1]
          cases cycB s1.Motion<;>rfl
        have i2:(if cycB s1.Motion=true then some (ax.mk (dh s1) (r44c c) p)else some (ax.mk (dh s1) (bc.mk 0 0 0 0 0 0 false) p))=some (ax.mk (dh s1) (r44c c1) p):=by
          rw[←hc1]
          cases cycB s1.Motion<;>rfl
        have a1:gX b [88,89,90,73,74,81,82]=some (hasW b [88,89,90,73,74,81,82]):=iA b _ hl (by decide)
        have a2:gX b [73,74]=some (hasW b [73,74]):=iA b _ hl (by decide)
        have a3:gX b [81,82]=some (hasW b [81,82]):=iA b _ hl (by decide)
        have b1:eL b [88,89,90,73,74,81,82]=some (hasW b [88,89,90,73,74,81,82]):=nD b _ hl (by decide)
        have b2:eL b [73,74]=some (hasW b [73,74]):=nD b _ hl (by decide)
        have b3:eL b [81,82]=some (hasW b [81,82]):=nD b _ hl (by decide)
        rw[i1,ae,i2,ae]
        simp only[a1,a2,a3,b1,b2,b3,ae]
        cases hXYZ:hasW b [88,89,90,73,74,81,82]with
        | false=>exact⟨[],s1,c1,0,p,rfl,rfl,λ_=>⟨rfl,hr1,hF1⟩⟩
        | true =>
          rw[oc (show ¬((!true)=true) by decide),oc (show ¬((!true)=true) by decide),ijqr,ae,ae]
          cases hbad2:((hasW b [73,74]&&(s1.Motion != 2000)&&(s1.Motion != 3000))||(hasW b [81,82]&&!(cycB s1.Motion)))with
          | true=>exact gA (by decide)
          | false =>
            rw[oc (show ¬(false=true) by decide),oc (show ¬(false=true) by decide)]
            cases hst:((s1.Motion==80000)||((s1.Motion != 0)&&(decide (s1.Feed≤0))))with
            | true=>exact gA (by decide)
            | false =>
              rw[oc (show ¬(false=true) by decide),oc (show ¬(false=true) by decide)]
              have hne:s1.Motion≠80000:=by
                intro q;rw[q]at hst;simp at hst
              obtain⟨n,hn⟩:∃n,(if (s1.Length==43000)=true then some (IntKind.i64.wrap (zL s1.Offset 1000))else some 0)=some n:=by
                cases (s1.Length==43000)<;>exact⟨_,rfl⟩
              have hn2:jU (dh s1)=some n:=hn
              have eW:(dh s1).Work=s1.Work:=rfl
              have eT:(dh s1).Tool=s1.Tool:=rfl
              obtain⟨wp,hwp,hwr⟩:=tb_Work_tot (aF t) s1.Work n p ht'
              have hwp2:mr t s1.Work n p=some wp:=by rw[←work_same t _ _ _ ht,hwp]
              rw[hn,ae,hn2,ae,eW,eT,hwp,hwp2,ae,ae]
              by_cases w0:wp.2=0
              · rw[oc (by simpa using w0),oc (by simpa using w0)]
                have hir:=hwr w0
                obtain⟨ml,mc,hml,hml2⟩:=r47_moves_eq (c:=c) (dh s) p hv hl hir hF1 hr1 hne
                have hlenV:=posV_len s1 c b wp.1
                have hpc:posV s1 c1 b wp.1=posV s1 c b wp.1:=by
                  rw[←hc1]
                  by_cases q:cycB s1.Motion=true
                  · rw[od q]
                  · exact posV_c q
                rw[inp_positions_eq hv hl hir hF1,hpc,ae]
                show sameS p i _ (ah (jW (ax.mk (dh s) (r44c c) p) (dh s1) b wp.1) _)
                rw[hml,ae]
                generalize hpv:posV s1 c b wp.1=pv at *
                obtain⟨fl,d,e⟩:=pv
                dsimp only at hml2 hlenV ⊢
                by_cases e0:e=0
                · rw[oc (by simpa using e0),oc (by simpa using e0)]
                  obtain⟨m1,m2,m3⟩:=hml2 e0
                  subst m1
                  rw[run_fin (aF t) s1.Work n (IntKind.i64.wrap (zL s1.Tool 1000)) 0 (λe=>([],zS,zC,e)) (by simpa using (show fl.length≤300000 by omega)),
                    outer_fin (aF t) s1.Work n (IntKind.i64.wrap (zL s1.Tool 1000)) (i:Int) fl (λe=>([],ax.mk (dh zS) (r44c zC) (ag.mk 0 0 0),e)) m2 m3 (by omega)]
                  · have hset:=runM_set (aF t) s1.Work n (IntKind.i64.wrap (zL s1.Tool 1000)) i fl ([],p)
                    rw[show (([]:List al).map (setB i),p)=(([]:List al),p) from rfl]at hset
                    rw[hset]
                    cases hrun:runM (aF t) s1.Work n (IntKind.i64.wrap (zL s1.Tool 1000)) 0 fl ([],p)with
                    | ret e1 =>
                      have he1:e1≠0:=runM_ret _ _ _ _ _ _ _ _ hrun
                      exact gA he1
                    | go u =>
                      have hu2:=runM_end (aF t) s1.Work n _ 0 p fl ([],p) u hrun rfl
                      exact⟨u.1,s1,d,0,u.2,rfl,rfl,λ_=>⟨hu2,hr1,hF1⟩⟩
                  · intro j x v a q ws h1 h2 h3
                    dsimp only
                    rw[h1,ae,oc (by simp),inner_fin (aF t) s1.Work n (IntKind.i64.wrap (zL s1.Tool 1000)) (i:Int) x.Rate (λe=>Ex.ret (Ex.ret (Ex.ret ([],ax.mk (dh zS) (r44c zC) (ag.mk 0 0 0),e)))) h3]
                    · cases runM (aF t) s1.Work n (IntKind.i64.wrap (zL s1.Tool 1000)) (i:Int) (ws.map λq=>ap.mk q x.Rate) (v,a)<;>rfl
                    · intro j q v hv3
                      dsimp only
                      (first | rw[ae,show bg.mk t.Work t.Lengths=t from rfl,←machine_same t _ _ _ ht,machV_eq ht',ae] | rw[ae,←machine_same t _ _ _ ht,machV_eq ht',ae])
                      by_cases z:(cr (aF t) s1.Work n q).2=0
                      · rw[oc (show ¬(((cr (aF t) s1.Work n q).2 != 0)=true) by simpa using z),oc (show ¬((cr (aF t) s1.Work n q).2≠0) by simpa using z)]
                        unfold addM posEq
                        rw[aQ (by omega),aN]
                        dsimp only
                        cases (((cr (aF t) s1.Work n q).1.X==v.2.X)&&(((cr (aF t) s1.Work n q).1.Y==v.2.Y)&&((cr (aF t) s1.Work n q).1.Z==v.2.Z)))<;>rfl
                      · rw[od (show ((cr (aF t) s1.Work n q).2 != 0)=true by simpa using z),od (show (cr (aF t) s1.Work n q).2≠0 by simpa using z)]
                        rfl
                  · intro j x v hv3
                    (first | rw[show aC.mk (aF t).Work (aF t).Lengths=aF t from rfl,machV_eq ht',ae] | rw[machV_eq ht',ae])
                    by_cases z:(cr (aF t) s1.Work n x.at_).2=0
                    · rw[oc (show ¬(((cr (aF t) s1.Work n x.at_).2 != 0)=true) by simpa using z),oc (show ¬((cr (aF t) s1.Work n x.at_).2≠0) by simpa using z)]
                      unfold addM posEq
                      rw[aQ (by omega),aN]
                      cases (((cr (aF t) s1.Work n x.at_).1.X==v.2.X)&&(((cr (aF t) s1.Work n x.at_).1.Y==v.2.Y)&&((cr (aF t) s1.Work n x.at_).1.Z==v.2.Z)))<;>rfl
                    · rw[od (show ((cr (aF t) s1.Work n x.at_).2 != 0)=true by simpa using z),od (show (cr (aF t) s1.Work n x.at_).2≠0 by simpa using z)]
                      rfl
                · rw[od (by simpa using e0),od (by simpa using e0)]
                  exact gA e0
              · rw[od (by simpa using w0),od (by simpa using w0)]
                exact gA w0
    · rw[oc hp,oi hp]
      exact gA (by decide)
  · have v1:ev=1:=by omega
    subst v1
    exact gA (e:=1) (by decide)
theorem one_M:∀(l:List ay) (seen:List Int),dP seen l=true→((87:Int)∈seen→(l.filter λw=>w.Letter==77)=[])∧(l.filter λw=>w.Letter==77).length≤1
 | [],_,_=>by simp
 | w::l,seen,h=>by
  simp only[dP,zX]at h
  obtain⟨⟨⟨_,_⟩,h3⟩,h4⟩:=h
  have ih:=one_M l (clsW w::seen) h4
  by_cases hw:w.Letter=77
  ·have hc:clsW w=87:=by rw[clsW_letter (by omega),hw];rfl
   have hrest:(l.filter λw=>w.Letter==77)=[]:=ih.1 (by rw[hc];simp)
   have hnot:(87:Int)∉seen:=by rw[hc]at h3;simpa using h3
   refine⟨λq=>absurd q hnot,?_⟩
   simp[hw,hrest]
  ·have:(w.Letter==77)=false:=by simpa using hw
   simp only[List.filter_cons,this,zA,oe]
   exact⟨λq=>ih.1 (List.mem_cons_of_mem _ q),ih.2⟩
theorem r47_ends_eq(hl:b.Words.length≤1000)(h:dP [] b.Words=true):r47_ends b=some (endsW b):=by
 have h1:=(one_M b.Words [] h).2
 unfold r47_ends endsW
 rw[ls b 77 hl,ae,find_codes]
 unfold codesW
 cases hf:b.Words.filter λw=>w.Letter==77 with
 | nil=>rfl
 | cons x l =>
  rw[hf]at h1
  simp only[zP]at h1
  have:l=[]:=List.length_eq_zero_iff.1 (by omega)
  subst this
  simp only[List.map_cons,List.map_nil]
  congr 1
  rw[zE,List.contains_iff_mem,List.mem_singleton,beq_iff_eq]
  exact eq_comm
theorem step_ref{t:bg}(i:Nat)(hb:okS b)(ht:t.Lengths.length≤1000)(hs:regMd s)(hF:i64P s.Feed) :
  ∃at_,mo (ax.mk (dh s) (r44c c) p) b t (i:Int)=some ((fA s c b (aF t) p).1.map (setB i),ax.mk (dh (fA s c b (aF t) p).2.1) (r44c (fA s c b (aF t) p).2.2.1) at_,(fA s c b (aF t) p).2.2.2)∧((fA s c b (aF t) p).2.2.2=0→at_=endW p (fA s c b (aF t) p).1∧regMd (fA s c b (aF t) p).2.1∧i64P (fA s c b (aF t) p).2.1.Feed):=by
 obtain⟨l,s',d,e,a,h1,h2,h3⟩:=step_same (c:=c) (p:=p) i hb ht hs hF
 rw[stepT_eq hb (by simp[aF];omega)]at h1
 injection h1 with h1
 rw[h1]
 exact⟨a,h2,h3⟩
theorem blocks_loop{f:Nat→aa→List al×ax→Option (Ex (Ex (List al×bE) (List al×ax)) (List al×ax))}{t:bg}{N:Nat}{L:List aa}(ht:t.Lengths.length≤1000)(hb:∀b∈L,okS b)
  (hf:∀(i:Nat) (b:aa) (o:List al) (s:aq) (c:ao) (p:ag),b∈L→o.length≤20000→regMd s→i64P s.Feed→f i b (o,ax.mk (dh s) (r44c c) p)=some (
    if (fA s c b (aF t) p).2.2.2≠0 then .ret (.ret (o,⟨(i:Int),(fA s c b (aF t) p).2.2.2⟩))
    else if o.length+(fA s c b (aF t) p).1.length>20000 then .ret (.ret (o,⟨(i:Int),3⟩))
    else if endsW b=true then .ret (.ret (o++(fA s c b (aF t) p).1.map (setB i),⟨-1,0⟩))
    else .go (o++(fA s c b (aF t) p).1.map (setB i),ax.mk (dh (fA s c b (aF t) p).2.1) (r44c (fA s c b (aF t) p).2.2.1) (endW p (fA s c b (aF t) p).1)))) :
  ∀(l:List aa) (i:Nat) (o:List al) (s:aq) (c:ao) (p:ag),(∀b∈l,b∈L)→o.length≤20000→regMd s→i64P s.Feed →
   bindX (az f (λv=>some (.go (v.1,v.2))) l i (o,ax.mk (dh s) (r44c c) p)) (λv=>some (v.1,bE.mk (N:Int) 13))=some ((runB (aF t) N i l (o,p,s,c)).1,bE.mk (runB (aF t) N i l (o,p,s,c)).2.Block (runB (aF t) N i l (o,p,s,c)).2.Code)
 | [],i,o,s,c,p,_,_,_,_=>rfl
 | b::l,i,o,s,c,p,hm,ho,hs,hF=>by
  have hbL:=hm b (by simp)
  have hR:=step_ref (c:=c) (p:=p) i (hb b hbL) ht hs hF
  simp only[az,hf i b o s c p hbL ho hs hF,runB]
  obtain⟨a,_,hR2⟩:=hR
  by_cases h1:(fA s c b (aF t) p).2.2.2=0
  ·obtain⟨_,r1,r2⟩:=hR2 h1
   by_cases h2:o.length+(fA s c b (aF t) p).1.length>20000
   ·simp only[h1,h2,ne_eq,not_true_eq_false,oe,og,bindX_r]
   ·by_cases h3:endsW b=true
    ·simp only[h1,h2,h3,ne_eq,not_true_eq_false,oe,og,bindX_r]
    ·simp only[h1,h2,h3,ne_eq,not_true_eq_false,oe]
     exact blocks_loop ht hb hf l (i+1) _ _ _ _ (λb hb=>hm b (by simp[hb])) (by simp;omega) r1 r2
  ·simp only[h1,ne_eq,not_false_eq_true,og,bindX_r]
theorem r47_Blocks_eq(L:List aa)(t:bg)(p:ag)(e:Int)(he:bF (aF t) p=some e)(hL:L.length≤1000)(hb:∀b∈L,okS b)(ht:t.Lengths.length≤1000) :
  ix L t p=some (if e≠0 then ([],⟨-1,e⟩)else ((runB (aF t) L.length 0 L ([],p,newS,zC)).1,⟨(runB (aF t) L.length 0 L ([],p,newS,zC)).2.Block,(runB (aF t) L.length 0 L ([],p,newS,zC)).2.Code⟩)):=by
 have ht':(aF t).Lengths.length≤1000:=by simp[aF];omega
 obtain⟨ev,hev,hev2⟩:=ii t ht
 have hev':di (aF t)=some ev:=by rw[iv t ht,hev]
 unfold bF at he
 (first | rw[show aC.mk (aF t).Work (aF t).Lengths=aF t from rfl,hev',ae,dt,ae]at he | rw[hev',ae,dt,ae]at he)
 (unfold ix;try delta jB jC rF jV gF)
 rw[hev,ae,jG,ae]
 by_cases v0:ev=0
 ·rw[oc (by simpa using v0)]at he
  rw[oc (by simpa using v0)]
  by_cases hp:inR p
  ·rw[oh hp,oc (by simp)]at he
   injection he with he
   rw[oh hp,oc (by simp),←he,oc (by decide)]
   unfold r42_New
   rw[ae,aK (by omega),aN]
   refine blocks_loop ht hb (λi b o s c p hbL ho hs hF=>?_) L 0 [] newS zC p (λb h=>h) (by simp) new_reg (by unfold i64P newS;dsimp only;omega)
   have hbk:=hb b hbL
   obtain⟨a,hR,hR2⟩:=step_ref (c:=c) (p:=p) i hbk ht hs hF
   have hE:=stepT_E (s:=s) (c:=c) (p:=p) (t:=aF t) hbk ht'
   dsimp only
   rw[hR,ae]
   generalize fA s c b (aF t) p=r at hE hR2 ⊢
   obtain⟨hlen,_,hE2⟩:=hE
   dsimp only
   by_cases h1:r.2.2.2=0
   ·obtain⟨r1,_,_⟩:=hR2 h1
    have hw:IntKind.i64.wrap ((o.length:Int)+((r.1.map (setB i)).length:Int))=(o.length:Int)+(r.1.length:Int):=by
     rw[List.length_map];exact am (by omega) (by omega)
    rw[hw,oc (show ¬(r.2.2.2≠0) by simpa using h1),h1]
    by_cases h2:o.length+r.1.length>20000
    ·rw[oh (show (o.length:Int)+(r.1.length:Int)>20000 by omega),od (by rfl),ae,od (by decide),od h2]
    ·rw[oi (show ¬(o.length:Int)+(r.1.length:Int)>20000 by omega),oc (by decide),ae,oc (by decide),oc h2,aQ (by simp;omega),aN,r47_ends_eq hbk.2.1 (hE2 h1).2,ae,r1]
     cases endsW b<;>rfl
   ·rw[beq_false_of_ne h1,Bool.false_and,oc (by simp),ae,od (by simpa using h1),od h1]
  ·rw[oi hp,od (by simp)]at he
   injection he with he
   rw[oi hp,od (by simp),←he,od (by decide)]
 ·have v1:ev=1:=by omega
  subst v1
  rw[od (by decide)]at he
  injection he with he
  rw[od (by decide),←he,od (by decide)]
end Go.Proofs.YtjemmjpdmbenkaaGreatDoor
