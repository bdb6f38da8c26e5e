/-
  Na, Qx, Qe, Vx, Vy, Vz, Wx in one text.
-/
import Derived.Test.YtplhejpjnfjopaaGreatDoorMB
import Derived.Test.YtplhejpjnfjopaaGreatDoorPz
import Derived.Test.YtplhejpjnfjopaaGreatDoorMH
import Derived.Test.YtplhejpjnfjopaaGreatDoorMwe
open Bool renaming false_eq_true → zA,or_eq_true → zI,not_true → zN,or_eq_false_iff → zR,eq_iff_iff → zT
open Int renaming tdiv_eq_ediv_of_nonneg → zB,mul_nonneg → zD,mul_le_mul_of_nonneg_right → zE,mul_le_mul_of_nonneg_left → zF,mul_le_mul → zG,ediv_lt_of_lt_mul → zH,ediv_nonneg → zJ,add_mul → zM,mul_assoc → zO,tmod → zV,tdiv → zW
open List renaming contains_cons → zK,take_add_one → zL,not_mem_nil → zQ,range → zU,mem_cons → zY,any_cons → zZ
open Nat renaming zero_le → zX
namespace Go.Proofs.YtplhejpjnfjopaaGreatDoor
open Go.RowKit
def codes1:List Int:=[0,1000,2000,3000,80000,81000,82000,83000]
def codes2:List Int:=[90000,91000]
def codes3:List Int:=[54000,55000,56000,57000,58000,59000]
def codes4:List Int:=[43000,49000]
def codes5:List Int:=[98000,99000]
def grp(c:Int):Int:=if c∈codes1 then 1 else if c∈codes2 then 2 else if c∈codes3 then 3 else if c∈codes4 then 4 else if c∈codes5 then 5 else 0
theorem grp_cases(c:Int):(c∈codes1++codes2++codes3++codes4++codes5)∨(c∉codes1++codes2++codes3++codes4++codes5):=Decidable.em _
theorem iV(c:Int):iW c=some (grp c):=by
 rcases grp_cases c with h | h
 ·simp only[codes1,codes2,codes3,codes4,codes5,List.cons_append,List.nil_append,zY,zQ,or_false]at h
  rcases h with h | h | h | h | h | h | h | h | h | h | h | h | h | h | h | h | h | h | h | h<;>(subst h;decide)
 ·simp only[codes1,codes2,codes3,codes4,codes5,List.cons_append,List.nil_append,zY,zQ,or_false,not_or]at h
  have e:∀k:Int,c≠k→(c==k)=false:=λk hk=>by simpa using hk
  simp[iW,grp,codes1,codes2,codes3,codes4,codes5,e,h]
theorem grp_in(c:Int):grp c=0∨grp c=1∨grp c=2∨grp c=3∨grp c=4∨grp c=5:=by
 unfold grp
 by_cases h1:c∈codes1
 ·simp[h1]
 by_cases h2:c∈codes2
 ·simp[h1,h2]
 by_cases h3:c∈codes3
 ·simp[h1,h2,h3]
 by_cases h4:c∈codes4
 ·simp[h1,h2,h3,h4]
 by_cases h5:c∈codes5
 ·simp[h1,h2,h3,h4,h5]
 ·simp[h1,h2,h3,h4,h5]
def putW(s:am)(w:ay):am :=
 if w.Letter=71 then (if grp w.Value=1 then { s with Motion:=w.Value }else if grp w.Value=2 then { s with Distance:=w.Value }else if grp w.Value=3 then { s with Work:=w.Value }else if grp w.Value=4 then { s with Length:=w.Value }else { s with Return:=w.Value })
 else if w.Letter=70 then { s with Feed:=w.Value }else if w.Letter=84 then { s with Tool:=w.Value }else if w.Letter=72 then { s with Offset:=w.Value }else s
theorem md_put_eq(s:am)(w:ay)(h:w.Letter=71→grp w.Value≠0):md_put s w=some (putW s w):=by
 unfold md_put putW
 by_cases h1:w.Letter=71
 ·have h0:=h h1
  rcases grp_in w.Value with q | q | q | q | q | q
  ·exact absurd q h0
  all_goals (simp[h1,iV,q];rfl)
 ·by_cases h2:w.Letter=70
  ·simp[h2]
  ·by_cases h3:w.Letter=84
   ·simp[h3]
   ·by_cases h4:w.Letter=72<;>simp[h1,h2,h3,h4]
def clsW(w:ay):Int:=if w.Letter=71 then grp w.Value else 10+w.Letter
def fK(w:ay):Bool:=if w.Letter=70 then decide (w.Value≥0)else if w.Letter=84∨w.Letter=72 then decide (w.Value≥0)&&zV w.Value 1000==0 else true
def u8W(w:ay):Prop:=0≤w.Letter∧w.Letter≤255
def goodW:List Int→List ay→Bool
 | _,[]=>true
 | seen,w::r=>clsW w != 0&&fK w&&!(seen.contains (clsW w))&&goodW (clsW w::seen) r
def kW(seen:List Int)(lm gm:List (Int×Bool)):Prop :=
 (∀c,0≤c→c≠71→(mget lm c).getD false=seen.contains (10+c))∧∀k,1≤k→k≤5→(mget gm k).getD false=seen.contains k
theorem clsW_letter{w:ay}(h:w.Letter≠71):clsW w=10+w.Letter:=by simp[clsW,h]
theorem clsW_g{w:ay}(h:w.Letter=71):clsW w=grp w.Value:=by simp[clsW,h]
theorem mapsOk_letter{seen:List Int}{lm gm:List (Int×Bool)}(h:kW seen lm gm){c:Int}(h0:0≤c):kW ((10+c)::seen) (mput lm c true) gm:=by
 refine⟨λk hk h1=>?_,λk h1 h2=>?_⟩
 ·rw[mget_put,zK]
  by_cases e:k=c
  ·subst e;simp
  ·have:(k==c)=false:=by simpa using e
   have e2:(10+k==10+c)=false:=by simp;omega
   simp only[this,e2,zA,if_false,Bool.false_or]
   exact h.1 k hk h1
 ·rw[zK,h.2 k h1 h2]
  have:(k==10+c)=false:=by simp;omega
  simp[this]
theorem mapsOk_group{seen:List Int}{lm gm:List (Int×Bool)}(h:kW seen lm gm){g:Int}(h0:1≤g)(h5:g≤5):kW (g::seen) lm (mput gm g true):=by
 refine⟨λk hk h1=>?_,λk h1 h2=>?_⟩
 ·rw[zK,h.1 k hk h1]
  have:(10+k==g)=false:=by simp;omega
  simp[this]
 ·rw[mget_put,zK]
  by_cases e:k=g
  ·subst e;simp
  ·have:(k==g)=false:=by simpa using e
   simp only[this,zA,if_false,Bool.false_or]
   exact h.2 k h1 h2
abbrev MB:=List (Int×Bool)
def jP(seen:List Int)(w:ay):Bool:=clsW w != 0&&fK w&&!(seen.contains (clsW w))
theorem chk_loop{f:Nat→ay→MB×MB→Option (Ex (Ex Int (MB×MB)) (MB×MB))}{d:MB×MB→Option (Ex Int (MB×MB))}(hd:∀v,d v=some (.go v))
  (hf:∀i w seen lm gm,u8W w→kW seen lm gm→(jP seen w=true→∃lm' gm',f i w (lm,gm)=some (.go (lm',gm'))∧kW (clsW w::seen) lm' gm')∧(jP seen w=false→f i w (lm,gm)=some (.ret (.ret 1)))) :
  ∀(l:List ay) (i:Nat) (seen:List Int) (lm gm:MB),(∀w∈l,u8W w)→kW seen lm gm→(goodW seen l=true→∃v,aU f d l i (lm,gm)=some (.go v))∧(goodW seen l=false→aU f d l i (lm,gm)=some (.ret 1))
 | [],i,seen,lm,gm,_,_=>⟨λ_=>⟨_,hd _⟩,λh=>by simp[goodW]at h⟩
 | w::l,i,seen,lm,gm,hu,hm=>by
  have h:=hf i w seen lm gm (hu w (by simp)) hm
  have hg:goodW seen (w::l)=(jP seen w&&goodW (clsW w::seen) l):=rfl
  cases hn:jP seen w with
  | true =>
   obtain⟨lm',gm',h1,h2⟩:=h.1 hn
   rw[hg,hn,Bool.true_and]
   simp only[aU,h1]
   exact chk_loop hd hf l (i+1) _ lm' gm' (λw hw=>hu w (by simp[hw])) h2
  | false =>
   rw[hg,hn,Bool.false_and]
   refine⟨λq=>by simp at q,λ_=>?_⟩
   simp only[aU,h.2 hn]
theorem chk_fin{f:Nat→ay→MB×MB→Option (Ex (Ex Int (MB×MB)) (MB×MB))}{d:MB×MB→Option (Ex Int (MB×MB))}{l:List ay}(hu:∀w∈l,u8W w)(hd:∀v,d v=some (.go v))
  (hf:∀i w seen lm gm,u8W w→kW seen lm gm→(jP seen w=true→∃lm' gm',f i w (lm,gm)=some (.go (lm',gm'))∧kW (clsW w::seen) lm' gm')∧(jP seen w=false→f i w (lm,gm)=some (.ret (.ret 1)))) :
  bindX (aU f d l 0 ([],[])) (λ_=>some 0)=some (if goodW [] l=true then 0 else 1):=by
 have h:=chk_loop hd hf l 0 [] [] [] hu ⟨λc _ _=>by simp[mget],λk _ _=>by simp[mget]⟩
 cases hg:goodW [] l with
 | true=>obtain⟨v,hv⟩:=h.1 hg;rw[hv];rfl
 | false=>rw[h.2 hg];rfl
theorem lj(b:ac)(hu:∀w∈b.Words,u8W w)(hl:b.Words.length≤9223372036854775807):iY b=some (if goodW [] b.Words=true then 0 else 1):=by
 unfold iY
 rw[bn hl,bO]
 refine chk_fin hu (λ_=>rfl) ?_
 intro i w seen lm gm hw hm
 by_cases h1:w.Letter=71
 ·have hc:=clsW_g h1
  have hwh:fK w=true:=by simp[fK,h1]
  rcases grp_in w.Value with q | q
  ·refine⟨λh=>by simp[jP,hc,q]at h,λ_=>?_⟩
   simp[h1,iV,q]
  ·have hg:=hm.2 (grp w.Value) (by omega) (by omega)
   have hg0:grp w.Value≠0:=by omega
   constructor
   ·intro h
    have hs:grp w.Value∉seen:=by simp[jP,hc,hwh]at h;exact h.2
    refine⟨lm,mput gm (grp w.Value) true,?_,by rw[hc];exact mapsOk_group hm (by omega) (by omega)⟩
    simp[h1,iV,hg0,hg,hs]
   ·intro h
    have hs:grp w.Value∈seen:=by simp[jP,hc,hwh]at h;exact h hg0
    simp[h1,iV,hg0,hg,hs]
 ·have hc:=clsW_letter h1
  have hl:=hm.1 w.Letter hw.1 h1
  have hne:(clsW w==0)=false:=by rw[hc];simp;have:=hw.1;omega
  have hn:jP seen w=(fK w&&!(seen.contains (10+w.Letter))):=by
   have:(clsW w != 0)=true:=by simpa using hne
   rw[jP,this,hc];simp
  rw[hn]
  cases hs:seen.contains (10+w.Letter)with
  | true =>
   rw[hs]at hl
   refine⟨λh=>by simp at h,λ_=>?_⟩
   by_cases h2:w.Letter=70
   ·rw[h2]at hl
    by_cases hv:w.Value<0<;>simp[h2,hv,hl]
   ·by_cases h3:w.Letter=84∨w.Letter=72
    ·by_cases hv:w.Value<0
     ·rcases h3 with h3 | h3<;>(rw[h3]at hl;simp[h3,hv])
     ·by_cases hq:zV w.Value 1000=0
      ·rcases h3 with h3 | h3<;>(rw[h3]at hl;simp[h3,hv,hq,hl])
      ·rcases h3 with h3 | h3<;>(rw[h3]at hl;simp[h3,hv,hq])
    ·have h4:w.Letter≠84:=λe=>h3 (.inl e)
     have h5:w.Letter≠72:=λe=>h3 (.inr e)
     simp[h1,h2,h4,h5,hl]
  | false =>
   rw[hs]at hl
   have hg:kW (clsW w::seen) (mput lm w.Letter true) gm:=by rw[hc];exact mapsOk_letter hm hw.1
   refine⟨λh=>⟨mput lm w.Letter true,gm,?_,hg⟩,λh=>?_⟩
   ·have hwh:fK w=true:=by simpa using h
    unfold fK at hwh
    by_cases h2:w.Letter=70
    ·rw[h2]at hl
     have hv:¬w.Value<0:=by simp[h2]at hwh;omega
     simp[h2,hv,hl]
    ·by_cases h3:w.Letter=84∨w.Letter=72
     ·simp[h2,h3]at hwh
      have hv:¬w.Value<0:=by omega
      rcases h3 with h3 | h3<;>(rw[h3]at hl;simp[h3,hv,hwh.2,hl])
     ·have h4:w.Letter≠84:=λe=>h3 (.inl e)
      have h5:w.Letter≠72:=λe=>h3 (.inr e)
      simp[h1,h2,h4,h5,hl]
   ·have hwh:fK w=false:=by simpa using h
    unfold fK at hwh
    by_cases h2:w.Letter=70
    ·have hv:w.Value<0:=by simp[h2]at hwh;omega
     simp[h2,hv]
    ·by_cases h3:w.Letter=84∨w.Letter=72
     ·simp[h2,h3]at hwh
      by_cases hv:w.Value<0
      ·rcases h3 with h3 | h3<;>simp[h3,hv]
      ·have hq:¬zV w.Value 1000=0:=hwh (by omega)
       rcases h3 with h3 | h3<;>simp[h3,hv,hq]
     ·simp[h2,h3]at hwh
theorem wrap_i64{n:Int}(h:-9223372036854775808≤n)(h2:n≤9223372036854775807):IntKind.i64.wrap n=n:=IntWalk.i64_in _ ⟨h,by omega⟩
theorem gt_k{α:Type}{l:List α}{k:Nat}{x:α}(h:l[k]? = some x):gt l (k:Int)=some x:=by
 simp[gt,h]
def okB(b:ac):Prop:=(∀w∈b.Words,u8W w)∧b.Words.length≤9223372036854775806
theorem goodW_ne:∀(l:List ay) (s:List Int),goodW s l=true→∀w∈l,clsW w≠0
 | [],_,_,w,hw=>by simp at hw
 | x::l,s,h,w,hw=>by
  simp only[goodW,Bool.and_eq_true,bne_iff_ne]at h
  rcases List.mem_cons.1 hw with e | e
  ·subst e;exact h.1.1.1
  ·exact goodW_ne l _ h.2 w e
theorem cls_put{w:ay}(h:clsW w≠0):w.Letter=71→grp w.Value≠0:=λe=>by rwa [clsW_g e]at h
def zS:am:=⟨0,0,0,0,0,0,0,0⟩
theorem md_Apply_eq(s:am)(b:ac)(h:okB b):md_Apply s b=some (if goodW [] b.Words=true then (b.Words.foldl putW s,0)else (zS,1)):=by
 unfold md_Apply
 rw[lj b h.1 (by have:=h.2;omega),aA]
 cases hg:goodW [] b.Words with
 | false=>simp[zS]
 | true =>
  simp only[if_true]
  rw[bn (by have:=h.2;omega),bO,rangeX_go putW b.Words 0 s ?_]
  ·simp
  ·intro i x v hx
   rw[md_put_eq v x (cls_put (goodW_ne _ _ hg x hx)),aA]
def endW(p:ag)(l:List ao):ag:=match l.getLast? with | some m=>m.To | none=>p
theorem gt_last{α:Type}{l:List α}{x:α}(h:l.getLast? = some x)(hl:l.length≤9223372036854775807):gt l (IntKind.i64.wrap ((l.length:Int)-1))=some x:=by
 have hne:l≠[]:=by rintro rfl;simp at h
 have hp:0<l.length:=List.length_pos_iff.2 hne
 rw[wrap_i64 (by omega) (by omega),show ((l.length:Int)-1)=((l.length-1:Nat):Int) by omega]
 refine gt_k ?_
 rw[List.getLast?_eq_getElem?]at h
 exact h
theorem inp_End_eq(p:ag)(l:List ao)(hl:l.length≤9223372036854775807):inp_End p l=some (endW p l):=by
  unfold inp_End endW
  cases h:l.getLast? with
  | none => have : l = [] := by simpa using h
            subst this;rfl
  | some x =>
    have hne:l≠[]:=by rintro rfl;simp at h
    have hz:((l.length:Int)==0)=false:=by simp;exact hne
    simp only[hz,zA,if_false,gt_last h hl,aA]
def posEq(a b:ag):Bool:=a.X==b.X&&(a.Y==b.Y&&a.Z==b.Z)
theorem posEq_iff{a b:ag}:posEq a b=true↔a=b:=by
 cases a;cases b;simp[posEq]
def connW:ag→List ao→Bool
 | _,[]=>true
 | p,m::l=>posEq m.From p&&connW m.To l
def inR(p:ag):Prop:=(-10000000≤p.X∧p.X≤10000000)∧(-10000000≤p.Y∧p.Y≤10000000)∧(-10000000≤p.Z∧p.Z≤10000000)
instance (p:ag):Decidable (inR p):=by unfold inR;infer_instance
theorem gw(p:ag):jk p=some (!decide (inR p)):=by
 unfold jk mmI
 by_cases h:inR p
 ·rw[decide_eq_true h]
  unfold inR at h
  simp only[zN,Option.some.injEq,zR,decide_eq_false_iff_not]
  constructor<;>(repeat' split)<;>omega
 ·rw[decide_eq_false h]
  unfold inR at h
  simp only[Bool.not_false,Option.some.injEq,zI,decide_eq_true_eq]
  repeat' split
  all_goals omega
theorem inp_inside_eq(p:ag):im p=some (decide (inR p)):=by
 have h:∀n,dL n=some (decide (n < -10000000)||decide (n>10000000)):=λn=>rfl
 unfold im
 simp only[h,aA]
 by_cases h1:(decide (p.X < -10000000)||decide (p.X>10000000))=true
 ·have:¬inR p:=by unfold inR;simp at h1;omega
  simp[h1,this]
 by_cases h2:(decide (p.Y < -10000000)||decide (p.Y>10000000))=true
 ·have:¬inR p:=by unfold inR;simp at h2;omega
  simp[h1,h2,this]
 by_cases h3:(decide (p.Z < -10000000)||decide (p.Z>10000000))=true
 ·have:¬inR p:=by unfold inR;simp at h3;omega
  simp[h1,h2,h3,this]
 ·have:inR p:=by unfold inR;simp at h1 h2 h3;omega
  simp[h1,h2,h3,this]
def findW(b:ac)(c:Int):Int×Bool:=match b.Words.find? (λw=>w.Letter==c)with | some w=>(w.Value,true) | none=>(0,false)
theorem gk(b:ac)(c:Int)(hl:b.Words.length≤1000):gK b c=some (findW b c):=by
 unfold gK findW
 rw[bn (by omega),bO,range_find (p:=λw:ay=>w.Letter==c) (e:=λw=>(w.Value,true)) b.Words 0 (λi x=>rfl)]
 cases b.Words.find? (λw=>w.Letter==c)<;>rfl
def hasW(b:ac)(l:List UInt8):Bool:=l.any λc=>(findW b (c.toNat:Int)).2
theorem gj(b:ac)(l:List UInt8)(hl:b.Words.length≤1000)(h2:l.length≤1000):fI b l=some (hasW b l):=by
 unfold fI hasW
 rw[bn (by omega),bO,range_any (p:=λc:UInt8=>(findW b (c.toNat:Int)).2) (r:=true) l 0 (λi x=>by rw[gk b _ hl,aA])]
 cases l.any λc=>(findW b (c.toNat:Int)).2<;>rfl
theorem gY(b:ac)(c:Int)(hl:b.Words.length≤1000):il b c=some (findW b c).1:=by
 unfold il
 rw[gk b c hl,aA]
theorem bk_Valid_tot(b:ac)(hl:b.Words.length≤1000)(hc:b.Comment.length≤1000):Tot (gc b) (λe=>(e=0∨e=1)∧(e=0→∀w∈b.Words,-1000000000000≤w.Value∧w.Value≤1000000000000)):=by
 unfold gc
 refine Tot.ite (λ_=>.ok ⟨.inr rfl,by simp⟩) (λ_=>?_)
 refine Tot.bindX (E:=λ_=>∀w∈b.Words,-1000000000000≤w.Value∧w.Value≤1000000000000) (TotX.guard (bn (by omega)) (TotX.of (Tot.range (λi _=>∀w∈b.Words.take i,-1000000000000≤w.Value∧w.Value≤1000000000000) _ (by simp) (λi x v hx hr=>?_) (λv hr=>.ok (by simpa using hr))))) (λ_ hw=>?_)
 ·refine TotX.ite (λ_=>.ret ⟨.inr rfl,by simp⟩) (λh=>.go ?_)
  intro w hw
  rw[zL,hx,List.mem_append]at hw
  rcases hw with hw | hw
  ·exact hr w hw
  ·simp at hw;subst hw
   simp at h
   omega
 ·refine Tot.bindX (E:=λ_=>True) (TotX.guard (bn (by simp[la];omega)) (TotX.of (Tot.range (λ_ _=>True) _ trivial (λi x v _ _=>?_) (λv _=>.ok trivial)))) (λ_ _=>.ok ⟨.inl rfl,λ_=>hw⟩)
  refine TotX.bind (E:=λ_=>True) (.ok trivial) λy _=>TotX.ite (λ_=>.ret ⟨.inr rfl,by simp⟩) (λ_=>.go trivial)
theorem index_tot(l:List Int)(c:Int)(hl:l.length≤1000):Tot (bB l c) (λ_=>True):=by
 unfold bB
 exact Tot.bindX (E:=λ_=>True) (TotX.guard (bn (by omega)) (TotX.of (Tot.range (λ_ _=>True) _ trivial (λi x v _ _=>TotX.ite (λ_=>.ret trivial) (λ_=>.go trivial)) (λv _=>.ok trivial)))) (λ_ _=>.ok trivial)
theorem contains_tot(l:List Int)(c:Int)(hl:l.length≤1000):Tot (aY l c) (λ_=>True):=by
 unfold aY
 exact Tot.bind (index_tot l c hl) λ_ _=>.ok trivial
theorem inp_known_tot(b:ac)(hl:b.Words.length≤1000):Tot (ft b) (λ_=>True):=by
 unfold ft
 refine Tot.bindX (E:=λ_=>True) (TotX.guard (bn (by omega)) (TotX.of (Tot.range (λ_ _=>True) _ trivial (λi x v _ _=>?_) (λv _=>.ok trivial)))) (λ_ _=>.ok trivial)
 refine TotX.bindX (E:=λ_=>True) (TotX.of (Tot.bind (E:=λ_=>True) ?_ λy _=>?_)) (λ_ _=>.go trivial)
 ·repeat' (first | exact .ok trivial | refine Tot.ite (λ_=>?_) (λ_=>?_))
 ·refine Tot.ite (λ_=>.ok trivial) (λ_=>Tot.ite (λ_=>?_) (λ_=>Tot.ite (λ_=>Tot.ite (λ_=>.ok trivial) (λ_=>.ok trivial)) (λ_=>.ok trivial)))
  exact Tot.bind (contains_tot _ _ (by decide)) λy _=>Tot.ite (λ_=>.ok trivial) (λ_=>.ok trivial)
theorem jF(t:aw)(hl:t.Lengths.length≤1000):Tot (ey t) (λe=>(e=0∨e=1)∧(e=0→(inR t.Work.e0∧inR t.Work.e1∧inR t.Work.e2∧inR t.Work.e3∧inR t.Work.e4∧inR t.Work.e5)∧∀x∈t.Lengths,0≤x.Length∧x.Length≤10000000)):=by
 unfold ey
 simp only[gw,aA]
 refine Tot.bind (E:=λb=>b=true∨(inR t.Work.e0∧inR t.Work.e1∧inR t.Work.e2∧inR t.Work.e3∧inR t.Work.e4∧inR t.Work.e5)) (Tot.bind (E:=λi:Int=>i≥0∨(inR t.Work.e0∧inR t.Work.e1∧inR t.Work.e2∧inR t.Work.e3∧inR t.Work.e4∧inR t.Work.e5)) (Tot.bindX (E:=λ_=>inR t.Work.e0∧inR t.Work.e1∧inR t.Work.e2∧inR t.Work.e3∧inR t.Work.e4∧inR t.Work.e5) ?_ (λ_ h=>.ok (.inr h))) (λi hi=>.ok (hi.elim (λh=>.inl (by simpa using h)) .inr))) (λb hb=>Tot.ite (λ_=>.ok ⟨.inr rfl,by simp⟩) (λh=>?_))
 ·by_cases h0:inR t.Work.e0
  ·by_cases h1:inR t.Work.e1
   ·by_cases h2:inR t.Work.e2
    ·by_cases h3:inR t.Work.e3
     ·by_cases h4:inR t.Work.e4
      ·by_cases h5:inR t.Work.e5
       ·simp only[h0,h1,h2,h3,h4,h5,decide_true,zN,zA,if_false];exact .go ⟨trivial,trivial,trivial,trivial,trivial,trivial⟩
       ·simp[h0,h1,h2,h3,h4,h5];exact .ret (by simp)
      ·simp[h0,h1,h2,h3,h4];exact .ret (by simp)
     ·simp[h0,h1,h2,h3];exact .ret (by simp)
    ·simp[h0,h1,h2];exact .ret (by simp)
   ·simp[h0,h1];exact .ret (by simp)
  ·simp[h0];exact .ret (by simp)
 ·have hw:=hb.resolve_left (by simp[h])
  refine Tot.bindX (E:=λ_=>∀x∈t.Lengths,0≤x.Length∧x.Length≤10000000) (TotX.guard (bn (by omega)) (TotX.of (Tot.range (λi _=>∀x∈t.Lengths.take i,0≤x.Length∧x.Length≤10000000) _ (by simp) (λi x v hx hr=>?_) (λv hr=>.ok (by simpa using hr))))) (λ_ h=>.ok ⟨.inl rfl,λ_=>⟨hw,h⟩⟩)
  refine TotX.bind (E:=λb=>b=true∨(0≤x.Length∧x.Length≤10000000)) ?_ (λb hb=>TotX.ite (λ_=>.ret ⟨.inr rfl,by simp⟩) (λh=>.go ?_))
  ·unfold tb_entry
   rw[aA]
   refine Tot.ite (λhe=>?_) (λ_=>.ok (.inl rfl))
   have he':0≤x.Length∧x.Length≤10000000:=by simp at he;omega
   refine Tot.ite (λhi=>?_) (λ_=>.ok (.inr he'))
   have hlt:=az hx
   simp at hi
   rw[wrap_i64 (by omega) (by omega)]
   obtain⟨y,hy,_⟩:=gt_ok' (l:=t.Lengths) (i:=(i:Int)-1) (by omega) (by omega)
   rw[hy,aA]
   exact .ok (.inr he')
  ·intro y hy
   rw[zL,hx,List.mem_append]at hy
   rcases hy with hy | hy
   ·exact hr y hy
   ·simp at hy;subst hy
    exact hb.resolve_left (by simp[h])
theorem mid_eq{lo hi:Int}(h0:0≤lo)(h1:lo≤4000000000000000000)(h2:0≤hi)(h3:hi≤4000000000000000000):IntKind.i64.wrap (shrI .u64 (IntKind.u64.wrap (IntKind.i64.wrap (lo+hi))) 1)=(lo+hi) / 2:=by
 rw[wrap_i64 (n:=lo+hi) (by omega) (by omega)]
 have:IntKind.u64.wrap (lo+hi)=lo+hi:=by unfold IntKind.wrap;simp[IntKind.signed,IntKind.bits];omega
 rw[this]
 have:shrI .u64 (lo+hi) 1=(lo+hi) / 2:=by
  unfold shrI
  simp[IntKind.bits]
  rw[Int.fdiv_eq_ediv_of_nonneg _ (by decide)]
 rw[this,wrap_i64 (by omega) (by omega)]
theorem compare_eq(a b:Int):cY a b=some (if a<b then -1 else if a>b then 1 else 0):=by
 unfold cY dD
 simp only[bne_self_eq_false,aA,zA,if_false]
 by_cases h:a<b
 ·simp[h]
 ·by_cases h2:a>b<;>simp[h,h2]
theorem tb_find_tot(t:aw)(n:Int)(hl:t.Lengths.length≤1000):Tot (tb_find t n) (λr=>0≤r.1∧(r.2=true→r.1<(t.Lengths.length:Int))):=by
 unfold tb_find
 refine Tot.bind (E:=λr=>0≤r.1∧(r.2=true→r.1<(t.Lengths.length:Int))) (Tot.bind (E:=λv:Int=>0≤v) ?_ (λv hv=>?_)) (λr hr=>.ok hr)
 ·refine Tot.loop (λm v=>0≤v.1∧v.1≤v.2∧v.2≤(t.Lengths.length:Int)∧m=(v.2-v.1).toNat) _ t.Lengths.length (fuel_gt (by omega)) ⟨by simp,by simp,by simp,by simp⟩ (λm v hr=>?_)
  obtain⟨a,b,c,d⟩:=hr
  refine TotX.ite (λh=>?_) (λ_=>.ret a)
  simp at h
  rw[mid_eq a (by omega) (by omega) (by omega)]
  obtain⟨y,hy,_⟩:=gt_ok' (l:=t.Lengths) (i:=(v.1+v.2) / 2) (by omega) (by omega)
  rw[hy,aA]
  unfold gi
  rw[compare_eq,aA,aA]
  refine TotX.ite (λ_=>.go ?_) (λ_=>.go ?_)
  ·rw[wrap_i64 (by omega) (by omega)]
   exact⟨_,by omega,by simp;omega,by simp;omega,c,rfl⟩
  ·exact⟨_,by omega,a,by simp;omega,by simp;omega,rfl⟩
 ·refine Tot.bind (E:=λb=>b=true→v<(t.Lengths.length:Int)) (Tot.ite (λh=>?_) (λ_=>.ok (by simp))) (λb hb=>.ok ⟨hv,hb⟩)
  simp at h
  obtain⟨y,hy,_⟩:=gt_ok' (l:=t.Lengths) (i:=v) hv h
  rw[hy,aA]
  unfold gi
  rw[compare_eq,aA,aA]
  exact .ok λ_=>h
theorem tb_length_tot(t:aw)(n:Int)(hl:t.Lengths.length≤1000)(hv:∀x∈t.Lengths,0≤x.Length∧x.Length≤10000000):Tot (jD t n) (λr=>0≤r.1∧r.1≤10000000):=by
 unfold jD
 refine Tot.ite (λ_=>.ok (by decide)) (λ_=>Tot.bind (tb_find_tot ⟨t.Work,t.Lengths⟩ n hl) λr hr=>Tot.ite (λ_=>.ok (by decide)) (λh=>?_))
 simp at h
 obtain⟨y,hy,hq⟩:=gt_ok' (l:=t.Lengths) (i:=r.1) hr.1 (hr.2 h)
 rw[hy,aA]
 exact .ok (hv y (List.mem_of_getElem? hq))
theorem tb_slot_tot(c:Int):Tot (tb_slot c) (λr=>r.2=0→0≤r.1∧r.1<6):=by
 unfold tb_slot
 refine Tot.ite (λ_=>.ok (by simp)) (λh=>.ok λ_=>?_)
 simp at h
 have:zW c 1000=c / 1000:=zB (by omega)
 simp only[this]
 rw[wrap_i64 (n:=c / 1000) (by omega) (by omega),wrap_i64 (by omega) (by omega)]
 omega
theorem iJ(t:aw)(c n:Int)(hl:t.Lengths.length≤1000):Tot (gv t c n) (λr=>r.2=0→(-10000000≤r.1.X∧r.1.X≤10000000)∧(-10000000≤r.1.Y∧r.1.Y≤10000000)∧(-10000000≤r.1.Z∧r.1.Z≤20000000)):=by
 unfold gv
 refine Tot.bind (jF t hl) λe he=>Tot.ite (λh=>.ok λh2=>?_) (λh=>?_)
 ·simp at h h2;exact absurd h2 h
 ·simp at h
  obtain⟨hw,hle⟩:=he.2 h
  refine Tot.bind (tb_slot_tot c) λr hr=>Tot.bind (tb_length_tot ⟨t.Work,t.Lengths⟩ n hl hle) λq hq=>Tot.ite (λ_=>.ok (by simp)) (λh2=>?_)
  simp at h2
  have h3:=hr h2.1
  refine Tot.bind (E:=λp=>inR p) (Tot.guard (by simp;omega) ?_) (λp hp=>.ok λ_=>?_)
  ·repeat' (first | exact .ok hw.1 | exact .ok hw.2.1 | exact .ok hw.2.2.1 | exact .ok hw.2.2.2.1 | exact .ok hw.2.2.2.2.1 | exact .ok hw.2.2.2.2.2 | refine Tot.ite (λ_=>?_) (λ_=>?_))
  ·unfold inR at hp
   simp only
   rw[wrap_i64 (by omega) (by omega)]
   omega
theorem jC(p by_:ag)(s:Int):Tot (eZ p by_ s) (λr=>r.2=0→inR r.1):=by
 unfold eZ
 simp only[gw,aA]
 refine Tot.ite (λ_=>.ok (by simp)) (λ_=>Tot.ite (λ_=>.ok (by simp)) (λh=>.ok λ_=>?_))
 simpa using h
theorem kK(t:aw)(c n:Int)(p:ag)(hl:t.Lengths.length≤1000):Tot (cz t c n p) (λr=>r.2=0→inR r.1):=by
 unfold cz
 refine Tot.bind (iJ t c n hl) λe _=>Tot.ite (λh=>.ok λh2=>?_) (λ_=>Tot.bind (jC _ _ _) λr hr=>.ok hr)
 simp at h h2;exact absurd h2 h
theorem lc(t:aw)(c n:Int)(p:ag)(hl:t.Lengths.length≤1000):Tot (iL t c n p) (λr=>r.2=0→inR r.1):=by
 unfold iL
 refine Tot.bind (iJ ⟨t.Work,t.Lengths⟩ c n hl) λe _=>Tot.ite (λh=>.ok λh2=>?_) (λ_=>Tot.bind (jC _ _ _) λr hr=>.ok hr)
 simp at h h2;exact absurd h2 h
theorem jS(t:aw)(p:ag)(hl:t.Lengths.length≤1000):Tot (bC t p) (λe=>e=0→inR p):=by
 unfold bC
 refine Tot.bind (jF ⟨t.Work,t.Lengths⟩ hl) λe he=>Tot.ite (λ_=>.ok (by simp)) (λ_=>?_)
 rw[inp_inside_eq,aA]
 exact Tot.ite (λ_=>.ok (by simp)) (λh=>.ok λ_=>by simpa using h)
theorem dA(a b:Int):Tot (cS a b) (λ_=>True):=by
 unfold cS
 exact Tot.bind (E:=λ_=>True) (Tot.ite (λ_=>.ok trivial) (λ_=>.ok trivial)) λ_ _=>.ok trivial
theorem ef(p:ag)(c:aG):Tot (cV p c) (λr=>0≤r.1∧r.1≤3):=by
 unfold cV
 refine Tot.ite (λ_=>Tot.bind (dA _ _) λ_ _=>.ok (by simp)) (λ_=>Tot.ite (λ_=>Tot.bind (dA _ _) λ_ _=>.ok (by simp)) (λ_=>Tot.ite (λ_=>Tot.bind (dA _ _) λ_ _=>.ok (by simp)) (λ_=>Tot.ite (λ_=>Tot.bind (dA _ _) λ_ _=>.ok (by simp)) (λ_=>.ok (by simp)))))
theorem ip_right_tot(p:ag)(m:au):Tot (fU p m) (λ_=>True):=by
 unfold fU
 refine Tot.ite (λ_=>.ok trivial) (λ_=>Tot.ite (λ_=>.ok trivial) (λ_=>Tot.bind (ef _ _) λa _=>Tot.bind (ef _ _) λb _=>Tot.bind (E:=λ_=>True) (Tot.bind (E:=λ_=>True) (.ok trivial) λy _=>?_) λ_ _=>.ok trivial))
 exact Tot.ite (λ_=>Tot.ite (λ_=>Tot.ite (λ_=>.ok trivial) (λ_=>.ok trivial)) (λ_=>.ok trivial)) (λ_=>.ok trivial)
theorem ip_Valid_tot(p:ag)(m:au):Tot (d4 p m) (λ_=>True):=by
 unfold d4
 refine Tot.bind (ip_right_tot _ _) λ_ _=>Tot.ite (λ_=>.ok trivial) (λ_=>Tot.bind (E:=λ_=>True) (.ok trivial) λb _=>?_)
 refine Tot.bindX (E:=λl=>l.length≤10) (TotX.ite (λ_=>TotX.bind (ef _ _) λr _=>TotX.bind (E:=λ_=>True) ?_ λb _=>TotX.ite (λ_=>.ret trivial) (λ_=>.go (by simp))) (λ_=>.go (by simp))) (λl hl=>?_)
 ·refine Tot.ite (λ_=>.ok trivial) (λ_=>Tot.bind (dA _ _) λ_ _=>Tot.ite (λ_=>.ok trivial) (λ_=>Tot.bind (dA _ _) λ_ _=>.ok trivial))
 ·refine Tot.bindX (E:=λ_=>True) (TotX.guard (bn (by omega)) (TotX.of (Tot.range (λ_ _=>True) _ trivial (λi x v _ _=>TotX.bind (dA _ _) λ_ _=>TotX.ite (λ_=>.ret trivial) (λ_=>.go trivial)) (λv _=>.ok trivial)))) (λ_ _=>.ok trivial)
theorem ip_Quarters_tot(p:ag)(m:au):Tot (cl p m) (λr=>r.2=0→1≤r.1∧r.1≤4):=by
 unfold cl
 refine Tot.bind (E:=λ_=>True) (.ok trivial) λb _=>Tot.ite (λ_=>.ok (by simp)) (λ_=>Tot.bind (ip_Valid_tot _ _) λe _=>Tot.ite (λh=>.ok λh2=>?_) (λ_=>Tot.bind (ef _ _) λa ha=>Tot.bind (ef _ _) λc hc=>?_))
 ·simp at h h2;exact absurd h2 h
 ·have e1:IntKind.i64.wrap (c.1-a.1)=c.1-a.1:=wrap_i64 (by omega) (by omega)
  rw[e1,wrap_i64 (n:=0-(c.1-a.1)) (by omega) (by omega)]
  refine Tot.bind (E:=λv:Int=>-3≤v∧v≤3) (Tot.ite (λ_=>.ok (by omega)) (λ_=>.ok (by omega))) λv hv=>Tot.bind (E:=λv:Int=>1≤v∧v≤4) (Tot.ite (λh=>.ok ?_) (λh=>.ok ?_)) λv hv=>.ok λ_=>hv
  ·simp at h;rw[wrap_i64 (by omega) (by omega)];omega
  ·simp at h;omega
theorem ip_Chords_tot(r:Int):Tot (gz r) (λn=>0≤n∧n≤1073741824):=by
 unfold gz
 refine Tot.ite (λ_=>.ok (by decide)) (λ_=>Tot.bind (E:=λn:Int=>0≤n∧n≤1073741824) ?_ λn hn=>.ok hn)
 refine Tot.loop (λm v=>1≤v.1∧v.1≤v.2∧v.2≤1073741824∧m=(v.2-v.1).toNat) _ 1073741823 (fuel_gt (by omega)) (by decide) (λm v hr=>?_)
 obtain⟨a,b,c,d⟩:=hr
 refine TotX.ite (λh=>?_) (λ_=>.ret (by omega))
 simp at h
 rw[wrap_i64 (n:=v.1+v.2) (by omega) (by omega),zB (by omega),wrap_i64 (n:=(v.1+v.2) / 2) (by omega) (by omega)]
 refine TotX.ite (λ_=>.go ?_) (λ_=>.go ?_)
 ·exact⟨_,by omega,a,by simp;omega,by simp;omega,rfl⟩
 ·rw[wrap_i64 (by omega) (by omega)]
  exact⟨_,by omega,by simp;omega,by simp;omega,c,rfl⟩
theorem ip_turned_tot(x y q:Int):Tot (fq x y q) (λ_=>True):=by
 unfold fq
 have hA:-9223372036854775808≤andI .i64 q 3∧andI .i64 q 3≤9223372036854775807:=i64_lo _
 generalize andI .i64 q 3=A at hA
 refine Tot.bind (E:=λ_=>True) ?_ λ_ _=>.ok trivial
 refine Tot.loop (λm v=>0≤v.2.2∧m=(A-v.2.2).toNat) _ A.toNat (fuel_gt (by omega)) ⟨by simp,by simp⟩ (λm v hr=>?_)
 refine TotX.ite (λh=>.go ?_) (λ_=>.ret trivial)
 simp at h
 rw[wrap_i64 (n:=v.2.2+1) (by omega) (by omega)]
 exact⟨(A-(v.2.2+1)).toNat,by have:=hr.2;have:=hr.1;omega,by simp;omega,rfl⟩
theorem ip_floor_tot(a b:Int)(h:b≠0):Tot (ja a b) (λ_=>True):=by
 unfold ja
 have hb:(!(b==0))=true:=by simp[h]
 exact Tot.guard hb (Tot.guard hb (Tot.bind (E:=λ_=>True) (Tot.ite (λ_=>.ok trivial) (λ_=>.ok trivial)) λ_ _=>.ok trivial))
theorem sq_le{i n:Int}(h0:0≤i)(h:i≤n)(hn:n≤20000):0≤i*i∧i*i≤400000000:=by
 have h1:i*i≤20000*i:=zE (by omega) h0
 have h2:0≤i*i:=zD h0 h0
 omega
theorem ip_Arc_tot(p:ag)(mv:au):Tot (kY p mv) (λr=>r.1.length≤80000):=by
 unfold kY
 refine Tot.bind (ip_Quarters_tot _ _) λq hq=>Tot.ite (λ_=>.ok (by simp)) (λh=>?_)
 simp at h
 have hq4:=hq h
 refine Tot.bind (ef _ _) λpt _=>Tot.bind (ip_Chords_tot _) λn hn=>Tot.ite (λ_=>.ok (by simp)) (λhm=>?_)
 have hn2:n≤20000:=by
  simp at hm
  have:q.1=1∨q.1=2∨q.1=3∨q.1=4:=by omega
  rcases this with e | e | e | e<;>(rw[e,wrap_i64 (by omega) (by omega)]at hm;omega)
 have hnq:0<n→IntKind.i64.wrap (n*q.1)≠0:=by
  intro h0
  have:q.1=1∨q.1=2∨q.1=3∨q.1=4:=by omega
  rcases this with e | e | e | e<;>(rw[e,wrap_i64 (by omega) (by omega)];omega)
 have hnn:=sq_le (i:=n) hn.1 (Int.le_refl n) hn2
 refine Tot.bind (E:=λl:List ag=>l.length≤80000) ?_ λl hl=>.ok hl
 refine Tot.loop (λm v=>0≤v.2∧v.2≤q.1∧(v.1.length:Int)≤v.2*20000∧m=(q.1-v.2).toNat) _ q.1.toNat (fuel_gt (by omega)) ⟨by simp,by simp;omega,by simp,by simp⟩ (λm v hr=>?_)
 obtain⟨a,b,c,d⟩:=hr
 refine TotX.ite (λh=>?_) (λ_=>.ret (by omega))
 simp at h
 refine TotX.bind (E:=λl:List ag=>(l.length:Int)≤(v.2+1)*20000) ?_ (λl hl=>.go ?_)
 ·refine Tot.loop (λm u=>1≤u.2∧u.2≤n+1∧(u.1.length:Int)≤v.2*20000+u.2-1∧m=(n+1-u.2).toNat) _ n.toNat (fuel_gt (by omega)) ⟨by simp,by simp;omega,by simp;omega,by simp⟩ (λm u hr=>?_)
  obtain⟨a',b',c',d'⟩:=hr
  refine TotX.ite (λh'=>?_) (λh'=>.ret ?_)
  ·simp at h'
   have hii:=sq_le (i:=u.2) (by omega) h' hn2
   have hpos:0<n*n:=Int.mul_pos (by omega) (by omega)
   have hg:(!((IntKind.i64.wrap ((IntKind.i64.wrap (n*n))+(IntKind.i64.wrap (u.2*u.2))))==0))=true:=by
    rw[wrap_i64 (n:=n*n) (by omega) (by omega),wrap_i64 (n:=u.2*u.2) (by omega) (by omega),wrap_i64 (by omega) (by omega)]
    simp;omega
   refine TotX.guard hg (TotX.guard hg (TotX.bind (E:=λ_=>True) (Tot.ite (λ_=>Tot.bind (ip_turned_tot _ _ _) λ_ _=>.ok trivial) (λ_=>Tot.bind (ip_turned_tot _ _ _) λ_ _=>.ok trivial)) λr _=>TotX.bind (ip_floor_tot _ _ (hnq (by omega))) λz _=>TotX.guard (bA (by omega)) (.go ?_)))
   rw[wrap_i64 (n:=u.2+1) (by omega) (by omega)]
   exact⟨_,by omega,by simp;omega,by simp;omega,by simp;omega,rfl⟩
  ·simp at h';omega
 ·rw[wrap_i64 (n:=v.2+1) (by omega) (by omega)]
  exact⟨_,by omega,by simp;omega,by simp;omega,by simpa using hl,rfl⟩
theorem inp_arc_tot(s:am)(b:ac)(p q:ag)(hl:b.Words.length≤1000):Tot (jT s b p q) (λr=>r.1.length≤80000):=by
 unfold jT
 rw[gY b _ hl,aA,gY b _ hl,aA]
 refine Tot.bind (E:=λ_=>True) (Tot.ite (λ_=>.ok trivial) (λ_=>.ok trivial)) λk _=>Tot.bind (ip_Arc_tot _ _) λr hr=>Tot.bind (E:=λl:List aq=>l.length≤80000) ?_ λl hl=>.ok hl
 refine Tot.guard (bn (by omega)) (Tot.range (λi v=>v.length≤i) _ (by simp) (λi x v hx hr'=>?_) (λv hv=>.ok (by omega)))
 have hlt:=az hx
 exact TotX.guard (bA (by omega)) (.go (by simp;omega))
theorem ff(c d:Int)(b:ac)(hl:b.Words.length≤1000):Tot (dn c d b) (λ_=>True):=by
 unfold dn
 rw[gk b c hl,aA]
 exact Tot.ite (λ_=>.ok trivial) (λ_=>.ok trivial)
def cyOk(c:ak):Prop:=c.Code=83000→0<c.Q∧c.Q≤10000000∧(-10000000≤c.R∧c.R≤10000000)∧(-10000000≤c.Z∧c.Z≤10000000)∧c.R-c.Z-1<1000*c.Q∧c.Z<c.R
theorem cy_Valid_tot(c:ak):Tot (fe c) (λe=>e=0→cyOk c):=by
 unfold fe
 refine Tot.ite (λ_=>.ok (by simp)) (λh0=>?_)
 simp only[eO,aA]
 refine Tot.bind (E:=λb=>b=true∨((c.Code=83000→c.Q≤10000000)∧(-10000000≤c.R∧c.R≤10000000)∧(-10000000≤c.Z∧c.Z≤10000000))) ?_ (λb hb=>Tot.ite (λ_=>.ok (by simp)) (λhf=>?_))
 ·refine Tot.ite (λ_=>.ok (.inl rfl)) (λh1=>Tot.ite (λ_=>.ok (.inl rfl)) (λh2=>Tot.ite (λ_=>.ok (.inl rfl)) (λh3=>Tot.ite (λhc=>?_) (λhc=>.ok (.inr ?_)))))
  ·simp at h1 h2 hc
   by_cases hq:c.Q>10000000∨c.Q < -10000000
   ·exact .ok (.inl (by simpa using hq))
   ·exact .ok (.inr ⟨λ_=>by omega,by omega,by omega⟩)
  ·simp at h1 h2 hc
   exact⟨λe=>absurd e hc,by omega,by omega⟩
 ·have hb':=hb.resolve_left (by simp[hf])
  refine Tot.bind (E:=λb=>b=true∨cyOk c) (Tot.ite (λhc=>?_) (λhc=>.ok (.inr λe=>?_))) (λb hb2=>Tot.ite (λ_=>.ok (by simp)) (λhf2=>.ok λ_=>hb2.resolve_left (by simp[hf2])))
  ·simp at hc
   simp only[hc,beq_self_eq_true,if_true,zR,decide_eq_false_iff_not]at h0
   have hq:0<c.Q:=by omega
   refine Tot.guard (by simp;omega) (.ok ?_)
   have hqq:=hb'.1 hc
   rw[wrap_i64 (n:=c.R-c.Z) (by omega) (by omega),wrap_i64 (n:=c.R-c.Z-1) (by omega) (by omega),zB (by omega)]
   have hd0:0≤(c.R-c.Z-1) / c.Q:=zJ (by omega) (by omega)
   have hd1:(c.R-c.Z-1) / c.Q≤c.R-c.Z-1:=Int.ediv_le_self _ (by omega)
   rw[wrap_i64 (by omega) (by omega)]
   by_cases h9:(c.R-c.Z-1) / c.Q>999
   ·exact .inl (by simpa using h9)
   ·refine .inr λ_=>⟨hq,hqq,hb'.2.1,hb'.2.2,?_,by omega⟩
    have:=Int.lt_mul_of_ediv_lt hq (show (c.R-c.Z-1) / c.Q<1000 by omega)
    exact this
  ·simp at hc;exact absurd e hc
theorem cy_Depths_tot(c:ak):Tot (fw c) (λr=>r.1.length≤1001):=by
 unfold fw
 refine Tot.bind (cy_Valid_tot c) λe he=>Tot.ite (λ_=>.ok (by simp)) (λh=>Tot.bind (E:=λl:List Int=>l.length≤1000) (Tot.ite (λhc=>?_) (λ_=>.ok (by simp))) λl hl=>Tot.guard (bA (by omega)) (.ok (by simp;omega)))
 simp at h hc
 obtain⟨h1,h2,h3,h4,h5,h6⟩:=he h hc
 rw[wrap_i64 (n:=c.R-c.Q) (by omega) (by omega)]
 refine Tot.loop (λm v=>v.2=c.R-((v.1.length:Int)+1)*c.Q∧c.Z-c.Q≤v.2∧v.2≤c.R∧v.1.length≤1000∧m=(v.2-c.Z).toNat) _ (c.R-c.Q-c.Z).toNat (fuel_gt (by omega)) ?_ (λm v hr=>?_)
 ·exact⟨by simp,by simp;omega,by simp;omega,by simp,rfl⟩
 ·obtain⟨a,b,b2,c',d⟩:=hr
  refine TotX.ite (λh=>?_) (λ_=>.ret c')
  simp at h
  have hlt:(v.1.length:Int)+1<1000:=by
   have:((v.1.length:Int)+1)*c.Q<1000*c.Q:=by omega
   exact Int.lt_of_mul_lt_mul_right this (by omega)
  refine TotX.guard (bA (by omega)) (.go ?_)
  rw[wrap_i64 (n:=v.2-c.Q) (by omega) (by omega)]
  refine⟨_,by omega,?_,by simp;omega,by simp;omega,by simp;omega,rfl⟩
  simp only[List.length_append,List.length_cons,List.length_nil]
  rw[a]
  have:(((v.1.length+(0+1):Nat):Int)+1)*c.Q=((v.1.length:Int)+1)*c.Q+c.Q:=by
   rw[show (((v.1.length+(0+1):Nat):Int)+1)=((v.1.length:Int)+1)+1 by omega,zM,Int.one_mul]
  omega
theorem cy_Expand_tot(c:ak)(p:ag)(l:List aG)(hl:l.length≤100):Tot (dX c p l) (λr=>r.1.length≤300000):=by
 unfold dX
 refine Tot.bind (cy_Depths_tot c) λds hd=>Tot.ite (λ_=>.ok (by simp)) (λ_=>?_)
 refine Tot.bind (E:=λ_=>True) (Tot.bind (E:=λ_=>True) (.ok trivial) λ_ _=>Tot.ite (λ_=>.ok trivial) (λ_=>Tot.bind (E:=λ_=>True) (.ok trivial) λ_ _=>Tot.ite (λ_=>.ok trivial) (λ_=>Tot.bind (E:=λ_=>True) (.ok trivial) λ_ _=>.ok trivial))) λb _=>?_
 refine Tot.bind (E:=λ_=>True) (Tot.guard (bn (by omega)) (Tot.range (λ_ _=>True) _ trivial (λi x v _ _=>TotX.bind (E:=λ_=>True) (Tot.ite (λ_=>.ok trivial) (λ_=>Tot.bind (E:=λ_=>True) (.ok trivial) λ_ _=>Tot.ite (λ_=>.ok trivial) (λ_=>Tot.bind (E:=λ_=>True) (.ok trivial) λ_ _=>.ok trivial))) λ_ _=>.go trivial) (λv _=>.ok trivial))) λfar _=>Tot.ite (λ_=>.ok (by simp)) (λ_=>?_)
 refine Tot.bindX (E:=λv:ag×List au=>v.2.length≤300000) (TotX.guard (bn (by omega)) (TotX.of (Tot.range (λi v=>v.2.length≤i*3000) _ (by simp) (λi x v hx hr=>?_) (λv hv=>.ok (by simp only;omega))))) (λv hv=>.ok hv)
 have hi:=az hx
 have e1:(i+1)*3000=i*3000+3000:=by omega
 have e2:i*3000≤297000:=by omega
 rw[e1]
 generalize i*3000=B at hr e2
 refine TotX.bindX (E:=λv:ag×List au=>v.2.length≤B+3000) (TotX.of ?_) (λv hv=>.go hv)
 refine Tot.bind (E:=λu:Int×List au=>u.2.length≤B+1) (Tot.ite (λ_=>Tot.bind (E:=λu:Int×List au=>u.2.length≤B+1) (Tot.ite (λ_=>Tot.guard (bA (by omega)) (.ok (by simp;omega))) (λ_=>.ok (by simp only;omega))) λu hu=>.ok hu) (λ_=>.ok (by simp only;omega))) λu1 h1=>?_
 refine Tot.bind (E:=λu:ag×List au=>u.2.length≤B+2) (Tot.ite (λ_=>Tot.guard (bA (by omega)) (.ok (by simp;omega))) (λ_=>.ok (by simp only;omega))) λu2 h2=>?_
 refine Tot.bind (E:=λu:ag×List au=>u.2.length≤B+3) (Tot.ite (λ_=>Tot.guard (bA (by omega)) (.ok (by simp;omega))) (λ_=>.ok (by simp only;omega))) λu3 h3=>?_
 refine Tot.bind (E:=λu:ag×List au=>u.2.length≤B+2010) (Tot.guard (bn (by omega)) (Tot.range (λj v=>v.2.length≤B+3+2*j) _ (by simpa using h3) (λj z w hz hw=>?_) (λv hv=>.ok (by simp only;omega)))) λu4 h4=>?_
 ·have hj:=az hz
  refine TotX.bind (E:=λu:ag×List au=>u.2.length≤B+3+2*j+1) (Tot.ite (λ_=>Tot.guard (bA (by omega)) (.ok (by simp;omega))) (λ_=>.ok (by simp only;omega))) λa ha=>TotX.bind (E:=λu:ag×List au=>u.2.length≤B+3+2*j+2) (Tot.ite (λ_=>Tot.guard (bA (by omega)) (.ok (by simp;omega))) (λ_=>.ok (by simp only;omega))) λb hb=>.go (by simp only;omega)
 ·refine Tot.bind (E:=λu:ag×List au=>u.2.length≤B+2011) (Tot.ite (λ_=>Tot.bind (E:=λu:ag×List au=>u.2.length≤B+2011) (Tot.ite (λ_=>Tot.guard (bA (by omega)) (.ok (by simp;omega))) (λ_=>.ok (by simp only;omega))) λu hu=>.ok hu) (λ_=>.ok (by simp only;omega))) λu5 h5=>Tot.ite (λ_=>.ok (by simp)) (λ_=>.ok (by simp only;omega))
theorem cy_Read_tot(b:ac)(k f i:Int)(h:Bool)(c:ak)(hl:b.Words.length≤1000):Tot (lp b k f i h c) (λ_=>True):=by
 unfold lp
 refine Tot.bind (ff _ _ _ hl) λ_ _=>Tot.bind (ff _ _ _ hl) λ_ _=>Tot.bind (ff _ _ _ hl) λ_ _=>Tot.bind (ff _ _ _ hl) λ_ _=>Tot.bind (cy_Valid_tot _) λ_ _=>Tot.ite (λ_=>.ok trivial) (λ_=>.ok trivial)
theorem inp_canned_tot(s:am)(c:ak)(b:ac)(p q:ag)(hl:b.Words.length≤1000):Tot (eg s c b p q) (λr=>r.1.length≤300000):=by
 unfold eg
 refine Tot.bind (E:=λ_=>True) (Tot.ite (λ_=>.ok trivial) (λ_=>.ok trivial)) λi _=>Tot.bind (cy_Read_tot _ _ _ _ _ _ hl) λr _=>Tot.ite (λ_=>.ok (by simp)) (λ_=>Tot.bind (cy_Expand_tot _ _ _ (by simp)) λm hm=>Tot.ite (λ_=>.ok (by simp)) (λ_=>Tot.bind (E:=λl:List aq=>l.length≤300000) ?_ λl hl=>.ok hl))
 refine Tot.guard (bn (by omega)) (Tot.range (λi v=>v.length≤i) _ (by simp) (λi x v hx hr'=>?_) (λv hv=>.ok (by omega)))
 have hlt:=az hx
 exact TotX.guard (bA (by omega)) (.go (by simp;omega))
theorem inp_target_tot(s:am)(b:ac)(p:ag)(hl:b.Words.length≤1000):Tot (eX s b p) (λ_=>True):=by
 unfold eX
 simp only[gk b _ hl,aA]
 refine Tot.bind (E:=λ_=>True) (Tot.bind (E:=λ_=>True) (Tot.ite (λ_=>.ok trivial) (λ_=>Tot.ite (λ_=>.ok trivial) (λ_=>.ok trivial))) λ_ _=>Tot.bind (E:=λ_=>True) (Tot.ite (λ_=>.ok trivial) (λ_=>Tot.ite (λ_=>.ok trivial) (λ_=>.ok trivial))) λ_ _=>Tot.bind (E:=λ_=>True) (Tot.ite (λ_=>.ok trivial) (λ_=>Tot.ite (λ_=>.ok trivial) (λ_=>.ok trivial))) λ_ _=>.ok trivial) λ_ _=>.ok trivial
theorem inp_positions_tot(s:am)(c:ak)(b:ac)(p:ag)(hl:b.Words.length≤1000):Tot (da s c b p) (λr=>r.1.length≤300000):=by
 unfold da
 refine Tot.bind (inp_target_tot s ⟨b.Skip,b.Words,b.Comment⟩ p hl) λq _=>Tot.ite (λ_=>.ok (by simp)) (λ_=>Tot.ite (λ_=>.ok (by simp)) (λ_=>Tot.bind (E:=λ_=>True) (.ok trivial) λy _=>Tot.ite (λ_=>Tot.bind (inp_canned_tot _ _ _ _ _ hl) λr hr=>.ok hr) (λ_=>Tot.bind (inp_arc_tot _ ⟨b.Skip,b.Words,b.Comment⟩ _ _ hl) λr hr=>.ok (by simp only;omega))))
theorem endW_cons(x:ao)(l:List ao)(p:ag):endW p (x::l)=endW x.To l:=by
 cases l with
 | nil=>rfl
 | cons y r =>
  unfold endW
  rw[List.getLast?_cons_cons]
  cases h:(y::r).getLast? with
  | none=>simp at h
  | some z=>rfl
theorem connW_snoc(l:List ao)(m:ao):∀p,connW p (l++[m])=(connW p l&&posEq m.From (endW p l)):=by
 induction l with
 | nil=>intro p;simp[connW,endW]
 | cons x l ih =>
  intro p
  simp only[List.cons_append,connW,ih]
  rw[endW_cons,Bool.and_assoc]
theorem endW_snoc(l:List ao)(m:ao)(p:ag):endW p (l++[m])=m.To:=by simp[endW]
theorem posEq_refl(p:ag):posEq p p=true:=posEq_iff.2 rfl
def goodM(p:ag)(l:List ao):Prop:=connW p l=true∧(∀m∈l,inR m.From∧inR m.To∧m.From≠m.To)∧inR (endW p l)
def okS(b:ac):Prop:=(∀w∈b.Words,u8W w)∧b.Words.length≤1000∧b.Comment.length≤1000
def stepE(p:ag)(b:ac)(r:List ao×am×ak×Int):Prop:=r.1.length≤300000∧(∀m∈r.1,m.Block=0)∧(r.2.2.2=0→goodM p r.1∧goodW [] b.Words=true)
theorem ed{p:ag}{b:ac}{s:am}{c:ak}{e:Int}(h:e≠0):stepE p b ([],s,c,e):=⟨by simp,by simp,λq=>absurd q h⟩
theorem inp_Step_tot(s:am)(c:ak)(b:ac)(t:aw)(p:ag)(hb:okS b)(ht:t.Lengths.length≤1000):Tot (fW s c b t p) (stepE p b):=by
 obtain⟨hu,hl,hc⟩:=hb
 have hok:okB b:=⟨hu,by omega⟩
 unfold fW
 refine Tot.bind (jS t p ht) λe he=>Tot.ite (λh=>.ok (ed (by simpa using h))) (λh0=>?_)
 have hp:=he (by simpa using h0)
 refine Tot.bind (E:=λx=>x=true∨goodW [] b.Words=true) (Tot.bind (bk_Valid_tot b hl hc) λ_ _=>Tot.ite (λ_=>.ok (.inl rfl)) (λ_=>Tot.bind (E:=λx=>x=if goodW [] b.Words=true then 0 else 1) (.eq (lj b hu (by omega)) rfl) λx hx=>Tot.ite (λ_=>.ok (.inl rfl)) (λhx0=>Tot.bind (inp_known_tot b hl) λ_ _=>.ok (.inr ?_)))) λbad hbad=>Tot.ite (λ_=>.ok (ed (by decide))) (λhbf=>?_)
 ·rw[hx]at hx0
  cases hg:goodW [] b.Words with
  | true=>rfl
  | false=>simp[hg]at hx0
 have hgood:=hbad.resolve_left (by simp[hbf])
 refine Tot.bind (E:=λ_=>True) (.eq (md_Apply_eq s b hok) trivial) λr _=>Tot.ite (λh=>.ok (ed (by simpa using h))) (λ_=>?_)
 refine Tot.bind (E:=λ_=>True) (.ok trivial) λcy _=>Tot.bind (E:=λ_=>True) (Tot.ite (λ_=>.ok trivial) (λ_=>.ok trivial)) λc2 _=>?_
 simp only[gj b _ hl (show ([88,89,90,73,74,81,82]:List UInt8).length≤1000 by decide),gj b _ hl (show ([73,74]:List UInt8).length≤1000 by decide),gj b _ hl (show ([81,82]:List UInt8).length≤1000 by decide),aA,dj]
 refine Tot.ite (λ_=>.ok ⟨by simp,by simp,λ_=>⟨⟨rfl,by simp,hp⟩,hgood⟩⟩) (λ_=>?_)
 refine Tot.bind (E:=λ_=>True) ?_ λbad _=>Tot.ite (λ_=>.ok (ed (by decide))) (λ_=>Tot.ite (λ_=>.ok (ed (by decide))) (λ_=>?_))
 ·repeat' (first | exact .ok trivial | refine Tot.ite (λ_=>?_) (λ_=>?_))
 refine Tot.bind (E:=λ_=>True) (Tot.ite (λ_=>.ok trivial) (λ_=>.ok trivial)) λnum _=>Tot.bind (lc ⟨t.Work,t.Lengths⟩ _ _ _ ht) λwp _=>Tot.ite (λh=>.ok (ed (by simpa using h))) (λ_=>?_)
 refine Tot.bind (inp_positions_tot _ _ ⟨b.Skip,b.Words,b.Comment⟩ _ hl) λps hps=>Tot.ite (λh=>.ok (ed (by simpa using h))) (λ_=>?_)
 refine Tot.bindX (E:=λv:List ao×ag=>v.1.length≤300000∧(∀m∈v.1,m.Block=0)∧goodM p v.1) (TotX.guard (bn (by omega)) (TotX.of (Tot.range (λ(i:Nat) (v:List ao×ag)=>v.1.length≤i∧(∀m∈v.1,m.Block=0)∧goodM p v.1∧v.2=endW p v.1) _ ⟨by simp,by simp,⟨rfl,by simp,hp⟩,rfl⟩ (λi x v hx hr=>?_) (λv hv=>.ok ⟨by have:=hv.1;simp only;omega,hv.2.1,hv.2.2.1⟩)))) (λv hv=>.ok ⟨hv.1,hv.2.1,λ_=>⟨hv.2.2,hgood⟩⟩)
 have hi:=az hx
 obtain⟨a1,a2,a3,a4⟩:=hr
 refine TotX.bind (kK ⟨t.Work,t.Lengths⟩ _ _ _ ht) λq2 hto=>TotX.ite (λh=>.ret (ed (by simpa using h))) (λh=>?_)
 have hto':=hto (by simpa using h)
 have hv2:inR v.2:=a4▸a3.2.2
 refine TotX.bind (E:=λl=>l.length≤i+1∧(∀m∈l,m.Block=0)∧goodM p l∧q2.1=endW p l) (Tot.ite (λhne=>Tot.guard (bA (by omega)) (.ok ?_)) (λheq=>.ok ?_)) λl hl=>.go hl
 ·have hne':¬(q2.1=v.2):=by
   intro e
   have:posEq q2.1 v.2=true:=posEq_iff.2 e
   unfold posEq at this
   simp[this]at hne
  refine⟨by simp;omega,?_,⟨?_,?_,?_⟩,?_⟩
  ·intro m hm
   rcases List.mem_append.1 hm with q | q
   ·exact a2 m q
   ·simp at q;subst q;rfl
  ·rw[connW_snoc,a3.1,a4]
   exact posEq_refl _
  ·intro m hm
   rcases List.mem_append.1 hm with q | q
   ·exact a3.2.1 m q
   ·simp at q;subst q;exact⟨hv2,hto',λe=>hne' e.symm⟩
  ·rw[endW_snoc];exact hto'
  ·rw[endW_snoc]
 ·have he:q2.1=v.2:=by
   refine posEq_iff.1 ?_
   unfold posEq
   simpa using heq
  exact⟨by omega,a2,a3,by rw[he];exact a4⟩
def codesW(b:ac)(c:Int):List Int:=(b.Words.filter λw=>w.Letter==c).map (·.Value)
theorem codes_fold(l:List ay)(c:Int):∀o:List Int,l.foldl (λo w=>if (w.Letter==c)=true then o++[w.Value]else o) o=o++(l.filter λw=>w.Letter==c).map (·.Value):=by
 induction l with
 | nil=>intro o;simp
 | cons w l ih =>
  intro o
  rw[List.foldl_cons,ih]
  by_cases h:(w.Letter==c)=true
  ·simp[h]
  ·simp[h]
theorem bk_Codes_eq(b:ac)(c:Int)(hl:b.Words.length≤1000):gf b c=some (codesW b c):=by
 unfold gf
 rw[bn (by omega),bO,range_fold (g:=λ(o:List Int) (w:ay)=>if (w.Letter==c)=true then o++[w.Value]else o) (R:=λi v=>v.length≤i) (L:=b.Words) ?_ b.Words 0 [] rfl (by simp)]
 ·rw[aA,codes_fold];rfl
 ·intro i x v hx hr
  have hlt:=az hx
  by_cases h:(x.Letter==c)=true
  ·simp only[h,if_true]
   rw[bA (by omega),bO]
   exact⟨rfl,by simp;omega⟩
  ·have h':(x.Letter==c)=false:=by simpa using h
   simp only[h',zA,if_false]
   exact⟨rfl,by omega⟩
theorem range_idx{f:Nat→Int→Unit→Option (Ex (Ex Int Unit) Unit)}{p:Int→Bool}(hf:∀(i:Nat) x,f i x ()=if p x=true then some (.ret (.ret (i:Int)))else some (.go ())):∀(l:List Int) (i:Nat),∃k:Nat,aU f (λ_=>some (.go ())) l i ()=some (if l.any p=true then .ret (k:Int)else .go ())
 | [],i=>⟨0,rfl⟩
 | x::l,i=>by
  simp only[aU,hf i x,zZ]
  by_cases h:p x=true
  ·exact⟨i,by simp[h]⟩
  ·have h':p x=false:=by simpa using h
   obtain⟨k,hk⟩:=range_idx hf l (i+1)
   exact⟨k,by simpa [h'] using hk⟩
theorem contains_eq(l:List Int)(c:Int)(hl:l.length≤1000):aY l c=some (l.contains c):=by
 unfold aY bB
 rw[bn (by omega),bO]
 obtain⟨k,hk⟩:=range_idx (f:=λ(i127:Nat) (e129:Int) (_:Unit)=>if (c==e129)=true then some (.ret (.ret (i127:Int)))else some (.go ())) (p:=λx=>c==x) (λi x=>rfl) l 0
 rw[hk]
 have:l.any (λx=>c==x)=l.contains c:=by
  rw[zT,List.contains_iff_mem];simp
 rw[this]
 cases l.contains c<;>simp
def setB(i:Nat)(m:ao):ao:=⟨m.From,m.To,m.Rate,m.Tool,(i:Int)⟩
theorem range_set{L:List ao}(g:ao→ao){f:Nat→ao→List ao→Option (Ex (List ao) (List ao))}(hf:∀(i:Nat) x v e,gt v (i:Int)=some e→f i x v=some (.go (v.set i (g e)))):aU f (λv=>some v) L 0 L=some (L.map g):=by
  obtain⟨e,h1,h2⟩:=rangeX_inv (f:=f) (d:=λv=>some v) (λi v=>v=(L.take i).map g++L.drop i) (λe=>e=L.map g) L (λi x v hx hr=>by
    right
    have hlt:=az hx
    have hgt:gt v (i:Int)=some x:=by
      refine gt_k ?_
      rw[hr,List.getElem?_append_right (by simp;omega)]
      simp[Nat.min_eq_left (Nat.le_of_lt hlt),hx]
    refine⟨_,hf i x v x hgt,?_⟩
    rw[hr,List.set_append_right _ _ (by simp;omega)]
    have hd:L.drop i=x::L.drop (i+1):=by
      rw[List.drop_eq_getElem_cons hlt]
      rw[List.getElem?_eq_getElem hlt]at hx
      injection hx with hx
      rw[hx]
    rw[hd,zL,hx]
    simp[Nat.min_eq_left (Nat.le_of_lt hlt)]) (λv hv=>⟨v,rfl,by simpa using hv⟩) L 0 L rfl (zX _) (by simp)
  rw[h1,h2]
def zC:ak:=⟨0,0,0,0,0,0,false⟩
def stepT(s:am)(c:ak)(b:ac)(t:aw)(p:ag):List ao×am×ak×Int:=(fW s c b t p).getD ([],zS,zC,1)
theorem stepT_eq{s:am}{c:ak}{b:ac}{t:aw}{p:ag}(hb:okS b)(ht:t.Lengths.length≤1000):fW s c b t p=some (stepT s c b t p):=by
 obtain⟨e,h,_⟩:=inp_Step_tot s c b t p hb ht
 unfold stepT;rw[h];rfl
theorem stepT_E{s:am}{c:ak}{b:ac}{t:aw}{p:ag}(hb:okS b)(ht:t.Lengths.length≤1000):stepE p b (stepT s c b t p):=by
 obtain⟨e,h,h2⟩:=inp_Step_tot s c b t p hb ht
 unfold stepT;rw[h];exact h2
abbrev Run:=List ao×ag×am×ak
def endsW(b:ac):Bool:=(codesW b 77).contains 30000
def runB(t:aw)(N:Nat):Nat→List ac→Run→List ao×aM
 | _,[],v=>(v.1,⟨(N:Int),13⟩)
 | i,b::l,v =>
  let r:=stepT v.2.2.1 v.2.2.2 b t v.2.1
  if r.2.2.2≠0 then (v.1,⟨(i:Int),r.2.2.2⟩)
  else if v.1.length+r.1.length>20000 then (v.1,⟨(i:Int),3⟩)
  else if endsW b=true then (v.1++r.1.map (setB i),⟨-1,0⟩)
  else runB t N (i+1) l (v.1++r.1.map (setB i),endW v.2.1 r.1,r.2.1,r.2.2.1)
theorem endW_map(p:ag)(i:Nat)(l:List ao):endW p (l.map (setB i))=endW p l:=by
 unfold endW
 rw[List.getLast?_map]
 cases l.getLast?<;>rfl
def newS:am:=⟨0,90000,54000,49000,98000,0,0,0⟩
theorem inp_Blocks_eq (L : List ac) (t : aw) (p : ag) (e : Int) (he : bC t p = some e) (hL : L.length ≤ 100000) (hb : ∀ b ∈ L, okS b) (ht : t.Lengths.length ≤ 1000) :
    cD L t p=some (if e≠0 then ([],⟨-1,e⟩)else runB t L.length 0 L ([],p,newS,zC)):=by
  unfold cD
  rw[show (aw.mk t.Work t.Lengths)=t from rfl,he,aA]
  by_cases h0:e=0
  · have h0':(e != 0)=false:=by simp[h0]
    rw[if_neg (show ¬(e≠0) by simpa using h0)]
    simp only[h0',zA,if_false,md_New,aA]
    rw[bn (by omega),bO]
    have key : ∀ (f : Nat → ac → Run → Option (Ex (Ex (List ao × aM) Run) Run)),
        (∀(i:Nat) (b:ac) (v:Run),b∈L→v.1.length≤20000→f i b v=(let r:=stepT v.2.2.1 v.2.2.2 b t v.2.1
          if r.2.2.2≠0 then some (.ret (.ret (v.1,⟨(i:Int),r.2.2.2⟩)))
          else if v.1.length+r.1.length>20000 then some (.ret (.ret (v.1,⟨(i:Int),3⟩)))
          else if endsW b=true then some (.ret (.ret (v.1++r.1.map (setB i),⟨-1,0⟩)))
          else some (.go (v.1++r.1.map (setB i),endW v.2.1 r.1,r.2.1,r.2.2.1)))) →
        ∀(l:List ac) (i:Nat) (v:Run),(∀b∈l,b∈L)→v.1.length≤20000→bindX (aU f (λv=>some (.go (v.1,v.2.1,v.2.2.1,v.2.2.2))) l i v) (λv=>some (v.1,aM.mk (L.length:Int) 13))=some (runB t L.length i l v):=by
      intro f hf l
      induction l with
      | nil=>intro i v _ _;rfl
      | cons b l ih =>
        intro i v hm hv
        simp only[aU,hf i b v (hm b (by simp)) hv,runB]
        by_cases h1:(stepT v.2.2.1 v.2.2.2 b t v.2.1).2.2.2=0
        · by_cases h2:v.1.length+(stepT v.2.2.1 v.2.2.2 b t v.2.1).1.length>20000
          · simp[h1,h2]
          · by_cases h3:endsW b=true
            · simp[h1,h2,h3]
            · simp only[h1,h2,h3,ne_eq,not_true_eq_false,if_false]
              exact ih (i+1) _ (λb hb=>hm b (by simp[hb])) (by simp;omega)
        · simp[h1]
    refine key _ ?_ L 0 _ (λb h=>h) (by simp)
    intro i b v hbL hv
    have hbk:=hb b hbL
    rw[stepT_eq hbk ht,aA]
    have hE:=stepT_E (s:=v.2.2.1) (c:=v.2.2.2) (p:=v.2.1) hbk ht
    generalize stepT v.2.2.1 v.2.2.2 b t v.2.1=r at hE
    obtain⟨hlen,_,_⟩:=hE
    simp only
    by_cases h1:r.2.2.2=0
    · have hw:IntKind.i64.wrap ((v.1.length:Int)+(r.1.length:Int))=(v.1.length:Int)+(r.1.length:Int):=wrap_i64 (by omega) (by omega)
      by_cases h2:v.1.length+r.1.length>20000
      · have:decide ((v.1.length:Int)+(r.1.length:Int)>20000)=true:=by simp;omega
        simp[h1,hw,this,h2]
      · have h2':decide ((v.1.length:Int)+(r.1.length:Int)>20000)=false:=by simp;omega
        simp only[h1,beq_self_eq_true,if_true,hw,h2',aA,zA,if_false,ne_eq,not_true_eq_false,h2,bne_self_eq_false]
        rw[bn (by omega),bO,range_set (setB i) (λk x v e hg=>by rw[hg,aA];rfl),aA,bA (by simp;omega),bO,inp_End_eq _ _ (by simp;omega),aA,bk_Codes_eq b _ hbk.2.1,aA,contains_eq _ _ (by
          unfold codesW
          have:=List.length_filter_le (λw:ay=>w.Letter==77) b.Words
          have:=hbk.2.1
          simp;omega),aA,endW_map]
        unfold endsW
        cases (codesW b 77).contains 30000<;>simp
    · simp[h1]
  · have h0':(e != 0)=true:=by simp[h0]
    simp[h0',h0]
theorem map_fold{α β:Type}(g:α→β)(l:List α):∀o:List β,l.foldl (λo x=>o++[g x]) o=o++l.map g:=by
 induction l with
 | nil=>intro o;simp
 | cons x l ih=>intro o;rw[List.foldl_cons,ih];simp
theorem endW_append(p:ag)(l m:List ao):endW p (l++m)=endW (endW p l) m:=by
  cases hm:m.getLast? with
  | none => have : m = [] := by simpa using hm
            subst this;simp[endW]
  | some x=>simp[endW,List.getLast?_append,hm]
set_option linter.unusedVariables false
set_option linter.unusedSimpArgs false
theorem Tot.get{α:Type}{m:Option α}{x:α}(h:Tot m (λe=>e=x)):m=some x:=by
 obtain⟨e,h1,h2⟩:=h
 rw[h1,h2]
def cycV(c:ak):Int :=
 if ¬(c.Code=83000∨c.Code=81000∨c.Code=82000)∨c.Z≥c.R∨c.R>c.Initial∨c.Rate<1∨c.Rate>1000000000000∨(c.Code=83000∧c.Q≤0)then 1
 else if (c.R>10000000∨c.R < -10000000)∨(c.Z>10000000∨c.Z < -10000000)∨(c.Initial>10000000∨c.Initial < -10000000)∨(c.Code=83000∧(c.Q>10000000∨c.Q < -10000000))then 11
 else if c.Code=83000∧(c.R-c.Z-1) / c.Q>999 then 3 else 0
theorem tdiv_ed{a b:Int}(h:0≤a):zW a b=a / b:=zB h
theorem jh(c:ak):fe c=some (cycV c):=by
 obtain⟨code,R,Z,Q,rate,ini,high⟩:=c
 apply Tot.get
 unfold fe cycV
 dsimp only
 refine Tot.ite (λq=>.ok ?_) (λq=>?_)
 ·rw[if_pos]
  by_cases a:code=83000
  ·subst a;simp at q;omega
  ·rw[if_neg (by simpa using a)]at q
   by_cases b:code=81000
   ·subst b;simp at q;omega
   ·simp[b]at q;omega
 ·have hb:¬(¬(code=83000∨code=81000∨code=82000)∨Z≥R∨R>ini∨rate<1∨rate>1000000000000∨(code=83000∧Q≤0)):=by
   by_cases a:code=83000
   ·subst a;simp at q;omega
   ·rw[if_neg (by simpa using a)]at q
    by_cases b:code=81000
    ·subst b;simp at q;omega
    ·simp[b]at q;omega
  rw[if_neg hb]
  refine Tot.bind (E:=λv=>v=decide ((R>10000000∨R < -10000000)∨(Z>10000000∨Z < -10000000)∨(ini>10000000∨ini < -10000000)∨(code=83000∧(Q>10000000∨Q < -10000000)))) ?_ (λv hv=>?_)
  ·unfold eO
   simp only[aA]
   refine Tot.ite (λq1=>.ok ?_) (λq1=>Tot.ite (λq2=>.ok ?_) (λq2=>Tot.ite (λq3=>.ok ?_) (λq3=>Tot.ite (λq4=>.ok ?_) (λq4=>.ok ?_))))
   ·simp at q1;rw[eq_comm,decide_eq_true_eq];omega
   ·simp at q2;rw[eq_comm,decide_eq_true_eq];omega
   ·simp at q3;rw[eq_comm,decide_eq_true_eq];omega
   ·simp at q4
    subst q4
    simp at q1 q2 q3
    rw[zT]
    simp only[zI,decide_eq_true_eq,true_and]
    omega
   ·simp at q1 q2 q3 q4
    rw[decide_eq_false (by omega)]
  ·by_cases z:(R>10000000∨R < -10000000)∨(Z>10000000∨Z < -10000000)∨(ini>10000000∨ini < -10000000)∨(code=83000∧(Q>10000000∨Q < -10000000))
   ·rw[decide_eq_true z]at hv
    subst hv
    rw[if_pos rfl,if_pos z]
    exact .ok rfl
   ·rw[decide_eq_false z]at hv
    subst hv
    rw[if_neg (by simp),if_neg z]
    by_cases a:code=83000
    ·subst a
     have hQ:0<Q:=by omega
     rw[if_pos (by simp),wrap_i64 (n:=R-Z) (by omega) (by omega),wrap_i64 (n:=R-Z-1) (by omega) (by omega),tdiv_ed (by omega)]
     have hd:0≤(R-Z-1) / Q:=zJ (by omega) (by omega)
     have hd2:(R-Z-1) / Q≤R-Z-1:=Int.ediv_le_self _ (by omega)
     rw[wrap_i64 (by omega) (by omega),beq_eq_false_iff_ne.2 (show Q≠0 by omega)]
     refine Tot.bind (E:=λv=>v=decide ((R-Z-1) / Q>999)) (.ok rfl) (λv hv=>?_)
     subst hv
     by_cases y:(R-Z-1) / Q>999
     ·rw[decide_eq_true y,if_pos rfl,if_pos ⟨rfl,y⟩];exact .ok rfl
     ·rw[decide_eq_false y,if_neg (by simp),if_neg (λw=>y w.2)];exact .ok rfl
    ·rw[if_neg (by simpa using a),if_neg (λw=>a w.1)]
     exact .ok rfl
structure CycOk (c:ak):Prop where
 code:c.Code=83000∨c.Code=81000∨c.Code=82000
 zr:c.Z<c.R
 ri:c.R≤c.Initial
 rate:1≤c.Rate∧c.Rate≤1000000000000
 q:c.Code=83000→0<c.Q∧c.Q≤10000000
 r:-10000000≤c.R∧c.R≤10000000
 z:-10000000≤c.Z∧c.Z≤10000000
 i:-10000000≤c.Initial∧c.Initial≤10000000
 n:c.Code=83000→0≤(c.R-c.Z-1) / c.Q∧(c.R-c.Z-1) / c.Q≤999
theorem jg{c:ak}(h:cycV c=0):CycOk c:=by
 unfold cycV at h
 by_cases h1:¬(c.Code=83000∨c.Code=81000∨c.Code=82000)∨c.Z≥c.R∨c.R>c.Initial∨c.Rate<1∨c.Rate>1000000000000∨(c.Code=83000∧c.Q≤0)
 ·rw[if_pos h1]at h;cases h
 rw[if_neg h1]at h
 by_cases h2:(c.R>10000000∨c.R < -10000000)∨(c.Z>10000000∨c.Z < -10000000)∨(c.Initial>10000000∨c.Initial < -10000000)∨(c.Code=83000∧(c.Q>10000000∨c.Q < -10000000))
 ·rw[if_pos h2]at h;cases h
 rw[if_neg h2]at h
 by_cases h3:c.Code=83000∧(c.R-c.Z-1) / c.Q>999
 ·rw[if_pos h3]at h;cases h
 refine⟨by omega,by omega,by omega,by omega,λa=>by omega,by omega,by omega,by omega,λa=>⟨?_,?_⟩⟩
 ·exact zJ (by omega) (by omega)
 ·rcases Int.lt_or_le 999 ((c.R-c.Z-1) / c.Q)with y | y
  ·exact absurd ⟨a,y⟩ h3
  ·exact y
def depN(c:ak):Nat:=if c.Code=83000 then ((c.R-c.Z-1) / c.Q).toNat else 0
def depL(c:ak):List Int:=(zU (depN c)).map (λ(k:Nat)=>c.R-((k:Int)+1)*c.Q)++[c.Z]
theorem dep_iff{R Z Q:Int}(hQ:0<Q)(k:Nat):(R-((k:Int)+1)*Q>Z)↔(k:Int)+1≤(R-Z-1) / Q:=by
 rw[Int.le_ediv_iff_mul_le hQ];omega
theorem depN_le{c:ak}(h:CycOk c):depN c≤999:=by
 unfold depN
 split
 ·rename_i a
  have:=h.n a;omega
 ·omega
theorem depL_len{c:ak}(h:CycOk c):(depL c).length≤1000:=by
 have:=depN_le h
 unfold depL
 simp;omega
theorem mul_bd{k Q:Int}(h0:0≤k)(h1:k≤2000)(q0:0<Q)(q1:Q≤10000000):0≤k*Q∧k*Q≤20000000000:=by
 have h2:k*Q≤2000*10000000:=zG h1 q1 (by omega) (by omega)
 exact⟨zD h0 (by omega),by omega⟩
theorem jX(c:ak):fw c=some (if cycV c=0 then (depL c,0)else ([],cycV c)):=by
 unfold fw
 rw[jh,aA]
 by_cases h:cycV c=0
 ·rw[if_pos h,h,if_neg (by simp)]
  have ok:=jg h
  have hN:=depN_le ok
  apply Tot.get
  refine Tot.bind (E:=λv=>v=(zU (depN c)).map (λ(k:Nat)=>c.R-((k:Int)+1)*c.Q)) (Tot.ite (λq=>?_) (λq=>.ok ?_)) (λv hv=>?_)
  ·have a:c.Code=83000:=by simpa using q
   obtain⟨q0,q1⟩:=ok.q a
   have r:=ok.r
   have hdn:depN c=((c.R-c.Z-1) / c.Q).toNat:=by unfold depN;rw[if_pos a]
   have hn:=ok.n a
   refine Tot.loop (λm (v:List Int×Int)=>∃k:Nat,v=((zU k).map (λ(k:Nat)=>c.R-((k:Int)+1)*c.Q),c.R-((k:Int)+1)*c.Q)∧k≤depN c∧m=depN c-k) _ (depN c) (by unfold fuel;omega) ⟨0,?_,zX _,rfl⟩ (λm v hr=>?_)
   ·rw[wrap_i64 (by omega) (by omega)];simp
   ·obtain⟨k,rfl,k1,k2⟩:=hr
    have hb:=mul_bd (k:=(k:Int)+1) (by omega) (by omega) q0 q1
    have hb2:=mul_bd (k:=(k:Int)+2) (by omega) (by omega) q0 q1
    have he:((k:Int)+2)*c.Q=((k:Int)+1)*c.Q+c.Q:=by
     rw[show (k:Int)+2=((k:Int)+1)+1 by omega,zM];omega
    have hi:=dep_iff (R:=c.R) (Z:=c.Z) q0 k
    dsimp only
    by_cases y:c.R-((k:Int)+1)*c.Q>c.Z
    ·have y2:=hi.1 y
     rw[decide_eq_true y,if_pos rfl]
     refine .guard (bA (by simp;omega)) (.go ⟨depN c-(k+1),by omega,k+1,?_,by omega,rfl⟩)
     rw[wrap_i64 (by omega) (by omega),List.range_succ,List.map_append]
     have e:c.R-((k:Int)+1)*c.Q-c.Q=c.R-(((k+1:Nat):Int)+1)*c.Q:=by
      rw[show ((k+1:Nat):Int)+1=(k:Int)+2 by omega,he];omega
     rw[e];rfl
    ·have y2:¬((k:Int)+1≤(c.R-c.Z-1) / c.Q):=λw=>y (hi.2 w)
     rw[decide_eq_false y,if_neg (by simp)]
     refine .ret ?_
     rw[show k=depN c by omega]
  ·have a:c.Code≠83000:=by simpa using q
   unfold depN
   rw[if_neg a];rfl
  ·subst hv
   refine .guard (bA (by simp;omega)) (.ok rfl)
 ·rw[if_neg h,if_pos (by simpa using h)]
def goM(s:ag×List au)(q:ag)(r:Int):ag×List au:=if q=s.1 then s else (q,s.2++[au.mk (if r>0 then 2 else 1) q (aG.mk 0 0) r])
theorem pos_eta(p:ag):ag.mk p.X p.Y p.Z=p:=rfl
theorem pos_ext{p q:ag}:p=q↔p.X=q.X∧p.Y=q.Y∧p.Z=q.Z:=by
 cases p;cases q;simp
theorem dC(s:ag×List au)(q:ag)(r:Int):(goM s q r).2.length≤s.2.length+1:=by
 unfold goM;split<;>simp
theorem goM_pos(s:ag×List au)(q:ag)(r:Int):(goM s q r).1=q:=by
 unfold goM;split
 ·rename_i h;exact h.symm
 ·rfl
def cycM(c:ak)(p:ag)(g:aG):ag×List au :=
 let m0:=goM (p,[]) (ag.mk p.X p.Y (if p.Z<c.R then c.R else p.Z)) 0
 let m1:=goM m0 (ag.mk g.X g.Y m0.1.Z) 0
 let m2:=goM m1 (ag.mk g.X g.Y c.R) 0
 let m3:=(depL c).foldl (λs z=>goM (goM s (ag.mk g.X g.Y z) c.Rate) (ag.mk g.X g.Y c.R) 0) m2
 if c.High=true then goM m3 (ag.mk g.X g.Y c.Initial) 0 else m3
theorem kV{p q:ag}{l:List au}{k r:Int}(hk:k=if r>0 then 2 else 1)(hl:l.length≤10000000):(if (!((q.X==p.X)&&((q.Y==p.Y)&&(q.Z==p.Z))))=true then aF (okLen (l.length+1)) (some (q,l++[au.mk k q (aG.mk 0 0) r]))else some (p,l))=some (goM (p,l) q r):=by
 unfold goM
 rw[bA (by omega),bO]
 by_cases h:q=p
 ·subst h;simp
 ·rw[if_neg (show ¬q=(p,l).1 from h),if_pos,hk]
  rw[pos_ext]at h
  simp;omega
theorem fold_len(c:ak)(g:aG):∀(l:List Int) (s:ag×List au),(l.foldl (λs z=>goM (goM s (ag.mk g.X g.Y z) c.Rate) (ag.mk g.X g.Y c.R) 0) s).2.length≤s.2.length+2*l.length
 | [],s=>by simp
 | z::l,s=>by
  rw[List.foldl_cons]
  have h1:=fold_len c g l (goM (goM s (ag.mk g.X g.Y z) c.Rate) (ag.mk g.X g.Y c.R) 0)
  have h2:=dC (goM s (ag.mk g.X g.Y z) c.Rate) (ag.mk g.X g.Y c.R) 0
  have h3:=dC s (ag.mk g.X g.Y z) c.Rate
  simp only[List.length_cons]
  omega
theorem cycM_len{c:ak}(h:CycOk c)(p:ag)(g:aG):(cycM c p g).2.length≤2010:=by
 unfold cycM
 have hd:=depL_len h
 dsimp only
 have a0:=dC (p,[]) (ag.mk p.X p.Y (if p.Z<c.R then c.R else p.Z)) 0
 generalize goM (p,[]) (ag.mk p.X p.Y (if p.Z<c.R then c.R else p.Z)) 0=m0 at *
 have a1:=dC m0 (ag.mk g.X g.Y m0.1.Z) 0
 generalize goM m0 (ag.mk g.X g.Y m0.1.Z) 0=m1 at *
 have a2:=dC m1 (ag.mk g.X g.Y c.R) 0
 generalize goM m1 (ag.mk g.X g.Y c.R) 0=m2 at *
 have a3:=fold_len c g (depL c) m2
 generalize (depL c).foldl (λs z=>goM (goM s (ag.mk g.X g.Y z) c.Rate) (ag.mk g.X g.Y c.R) 0) m2=m3 at *
 have a4:=dC m3 (ag.mk g.X g.Y c.Initial) 0
 simp only[List.length_nil]at a0
 split<;>omega
def far3(p:ag)(g:aG):Prop:=(p.X>10000000∨p.X < -10000000)∨(p.Y>10000000∨p.Y < -10000000)∨(p.Z>10000000∨p.Z < -10000000)∨(g.X>10000000∨g.X < -10000000)∨(g.Y>10000000∨g.Y < -10000000)
instance (p:ag) (g:aG):Decidable (far3 p g):=by unfold far3;infer_instance
def expV(c:ak)(p:ag)(g:aG):List au×Int:=if cycV c=0 then (if far3 p g then ([],11)else ((cycM c p g).2,0))else ([],cycV c)
theorem fu(n:Int):eO n=some (decide (n>10000000∨n < -10000000)):=by
 unfold eO
 congr 1
 by_cases a:n>10000000<;>by_cases b:n < -10000000<;>simp[a,b]
theorem range_one{α ε ν:Type}{f:Nat→α→ν→Option (Ex ε ν)}{d:ν→Option ε}{x:α}{v:ν}:aU f d [x] 0 v=match f 0 x v with
  | some (.ret e)=>some e
  | some (.go u)=>d u
  | none=>none:=by
 simp only[aU]
 cases f 0 x v with
 | none=>rfl
 | some e=>cases e<;>rfl
theorem cy_Expand_one(c:ak)(p:ag)(g:aG):dX c p [g]=some (expV c p g):=by
  unfold dX expV
  rw[jX,aA]
  by_cases h:cycV c=0
  · rw[if_pos h,if_pos h,if_neg (by simp)]
    have ok:=jg h
    have hdl:=depL_len ok
    apply Tot.get
    refine Tot.bind (E:=λv=>v=decide ((p.X>10000000∨p.X < -10000000)∨(p.Y>10000000∨p.Y < -10000000)∨(p.Z>10000000∨p.Z < -10000000))) ?_ (λv hv=>?_)
    · rw[fu,fu,fu]
      simp only[aA]
      refine Tot.ite (λq1=>.ok ?_) (λq1=>Tot.ite (λq2=>.ok ?_) (λq2=>.ok ?_))
      · simp at q1;rw[eq_comm,decide_eq_true_eq];omega
      · simp at q2;rw[eq_comm,decide_eq_true_eq];omega
      · simp at q1 q2
        by_cases z:p.Z>10000000∨p.Z < -10000000
        · rw[decide_eq_true z,decide_eq_true (by omega)]
        · rw[decide_eq_false z,decide_eq_false (by omega)]
    · refine Tot.bind (E:=λu=>u=decide (far3 p g)) (Tot.guard rfl ?_) (λu hu=>?_)
      · rw[range_one,hv]
        refine Tot.eq (x:=decide (far3 p g)) ?_ rfl
        rw[fu,fu]
        by_cases a:(p.X>10000000∨p.X < -10000000)∨(p.Y>10000000∨p.Y < -10000000)∨(p.Z>10000000∨p.Z < -10000000)
        · rw[decide_eq_true a,decide_eq_true (show far3 p g by unfold far3;omega)];rfl
        · rw[decide_eq_false a]
          by_cases b:g.X>10000000∨g.X < -10000000
          · rw[decide_eq_true b,decide_eq_true (show far3 p g by unfold far3;omega)];rfl
          · rw[decide_eq_false b]
            by_cases d:g.Y>10000000∨g.Y < -10000000
            · rw[decide_eq_true d,decide_eq_true (show far3 p g by unfold far3;omega)];rfl
            · rw[decide_eq_false d,decide_eq_false (show ¬far3 p g by unfold far3;omega)];rfl
      · subst hu
        by_cases z:far3 p g
        · rw[decide_eq_true z,if_pos rfl,if_pos z];exact .ok rfl
        · rw[decide_eq_false z,if_neg (by simp),if_neg z]
          obtain⟨m0,hm0⟩:∃m0,goM (p,[]) (ag.mk p.X p.Y (if p.Z<c.R then c.R else p.Z)) 0=m0:=⟨_,rfl⟩
          obtain⟨m1,hm1⟩:∃m1,goM m0 (ag.mk g.X g.Y m0.1.Z) 0=m1:=⟨_,rfl⟩
          obtain⟨m2,hm2⟩:∃m2,goM m1 (ag.mk g.X g.Y c.R) 0=m2:=⟨_,rfl⟩
          obtain⟨m3,hm3⟩:∃m3,(depL c).foldl (λs z=>goM (goM s (ag.mk g.X g.Y z) c.Rate) (ag.mk g.X g.Y c.R) 0) m2=m3:=⟨_,rfl⟩
          have hcyc:cycM c p g=if c.High=true then goM m3 (ag.mk g.X g.Y c.Initial) 0 else m3:=by
            unfold cycM
            dsimp only
            rw[hm0,hm1,hm2,hm3]
          have hlenM:=cycM_len ok p g
          have p0:m0.1=ag.mk p.X p.Y (if p.Z<c.R then c.R else p.Z):=by rw[←hm0];exact goM_pos _ _ _
          have l0:m0.2.length≤1:=by rw[←hm0];exact dC _ _ _
          have l1:m1.2.length≤2:=by have:=dC m0 (ag.mk g.X g.Y m0.1.Z) 0;rw[hm1]at this;omega
          have l2:m2.2.length≤3:=by have:=dC m1 (ag.mk g.X g.Y c.R) 0;rw[hm2]at this;omega
          have l3:m3.2.length≤2003:=by have:=fold_len c g (depL c) m2;rw[hm3]at this;omega
          have hrate:c.Rate>0:=by have:=ok.rate;omega
          refine Tot.bindX (E:=λs=>s=cycM c p g) (TotX.of (Tot.guard rfl (Tot.range (λi v=>v=if i=0 then (p,[])else cycM c p g) _ rfl (λi x v hx hv=>?_) (λv hv=>.ok ?_)))) (λs hs=>.ok (by rw[hs]))
          · have hi:i=0:=by have:=az hx;simpa using this
            subst hi
            injection hx with hx
            subst hx
            rw[if_pos rfl]at hv
            subst hv
            rw[if_neg (show ¬(0+1=0) by omega)]
            refine TotX.bindX (E:=λs=>s=cycM c p g) ?_ (λs hs=>.go hs)
            dsimp only
            refine TotX.bind (E:=λv=>v=(m0.1.Z,m0.2)) (Tot.ite (λq=>?_) (λq=>.ok ?_)) (λv hv=>?_)
            · have q':p.Z<c.R:=by simpa using q
              have e0:m0=(ag.mk p.X p.Y c.R,[au.mk 1 (ag.mk p.X p.Y c.R) (aG.mk 0 0) 0]):=by
                rw[←hm0,if_pos q']
                unfold goM
                rw[if_neg (by
                  show ¬(ag.mk p.X p.Y c.R=p)
                  rw[pos_ext]
                  show ¬(p.X=p.X∧p.Y=p.Y∧c.R=p.Z)
                  omega)]
                rfl
              rw[e0]
              refine Tot.bind (E:=λv=>v=(c.R,[au.mk 1 (ag.mk p.X p.Y c.R) (aG.mk 0 0) 0])) (Tot.ite (λ_=>.guard (bA (by simp)) (.ok rfl)) (λq2=>?_)) (λv hv=>.ok (by rw[hv]))
              simp at q2;omega
            · have q':¬p.Z<c.R:=by simpa using q
              have e0:m0=(p,[]):=by
                rw[←hm0,if_neg q']
                unfold goM
                rw[if_pos (pos_eta p)]
              rw[e0]
            · subst hv
              dsimp only
              have e0:(ag.mk p.X p.Y m0.1.Z,m0.2)=m0:=by
                have:ag.mk p.X p.Y m0.1.Z=m0.1:=by rw[p0]
                rw[this]
              have g1:=kV (p:=ag.mk p.X p.Y m0.1.Z) (q:=ag.mk g.X g.Y m0.1.Z) (l:=m0.2) (k:=1) (r:=0) rfl (by omega)
              refine TotX.bind (E:=λv=>v=m1) (Tot.eq g1 (by rw[e0,hm1])) (λv hv=>?_)
              subst hv
              have g2:=kV (p:=v.1) (q:=ag.mk g.X g.Y c.R) (l:=v.2) (k:=1) (r:=0) rfl (by omega)
              refine TotX.bind (E:=λv=>v=m2) (Tot.eq g2 hm2) (λv2 hv=>?_)
              subst hv
              refine TotX.bind (E:=λv=>v=m3) (Tot.guard (bn (by omega)) (Tot.range (λi v=>v=((depL c).take i).foldl (λs z=>goM (goM s (ag.mk g.X g.Y z) c.Rate) (ag.mk g.X g.Y c.R) 0) v2∧v.2.length≤3+2*i) _ ⟨rfl,by simpa using l2⟩ (λi z u hx hu=>?_) (λu hu=>.ok ?_))) (λv3 hv=>?_)
              · obtain⟨hu1,hu2⟩:=hu
                have hil:=az hx
                have g3:=kV (p:=u.1) (q:=ag.mk g.X g.Y z) (l:=u.2) (k:=2) (r:=c.Rate) (by rw[if_pos hrate]) (by omega)
                have lu:=dC (u.1,u.2) (ag.mk g.X g.Y z) c.Rate
                refine TotX.bind (E:=λw=>w=goM (u.1,u.2) (ag.mk g.X g.Y z) c.Rate) (Tot.eq g3 rfl) (λw hw=>?_)
                subst hw
                have g4:=kV (p:=(goM (u.1,u.2) (ag.mk g.X g.Y z) c.Rate).1) (q:=ag.mk g.X g.Y c.R) (l:=(goM (u.1,u.2) (ag.mk g.X g.Y z) c.Rate).2) (k:=1) (r:=0) rfl (by
                  have:(u.1,u.2).2.length=u.2.length:=rfl
                  omega)
                refine TotX.bind (E:=λw=>w=goM (goM (u.1,u.2) (ag.mk g.X g.Y z) c.Rate) (ag.mk g.X g.Y c.R) 0) (Tot.eq g4 rfl) (λw hw=>.go ?_)
                subst hw
                have lw:=dC (goM (u.1,u.2) (ag.mk g.X g.Y z) c.Rate) (ag.mk g.X g.Y c.R) 0
                refine⟨?_,?_⟩
                · rw[zL,hx,List.foldl_append,←hu1];rfl
                · have:(u.1,u.2).2.length=u.2.length:=rfl
                  show (goM (goM (u.1,u.2) (ag.mk g.X g.Y z) c.Rate) (ag.mk g.X g.Y c.R) 0).2.length≤_
                  omega
              · rw[hu.1,List.take_length,hm3]
              · subst hv
                refine TotX.bind (E:=λv=>v=cycM c p g) (Tot.ite (λq=>?_) (λq=>.ok ?_)) (λv4 hv=>?_)
                · have g5:=kV (p:=v3.1) (q:=ag.mk g.X g.Y c.Initial) (l:=v3.2) (k:=1) (r:=0) rfl (by omega)
                  refine Tot.bind (E:=λw=>w=cycM c p g) (Tot.eq g5 (by rw[hcyc,if_pos q])) (λw hw=>.ok (by rw[hw]))
                · rw[hcyc,if_neg (by rw[q];simp)]
                · subst hv
                  refine TotX.ite (λq=>?_) (λ_=>.go rfl)
                  simp at q;omega
          · rw[hv];simp
  · rw[if_neg h,if_neg h,if_pos (by simpa using h)]
theorem cy_Read_same(b:ac)(k f i:Int)(hi:Bool)(o:ak)(hl:b.Words.length≤1000):∃c:ak,lp b k f i hi o=some (if cycV c=0 then (c,0)else (ak.mk 0 0 0 0 0 0 false,cycV c))∧c=ak.mk k (if (findW b 82).2=true then (findW b 82).1 else o.R) (if (findW b 90).2=true then (findW b 90).1 else o.Z) (if (findW b 81).2=true then (findW b 81).1 else o.Q) (if (findW b 70).2=true then (findW b 70).1 else f) i hi:=by
 have hc:∀l d,dn l d b=some (if (findW b l).2=true then (findW b l).1 else d):=by
  intro l d
  unfold dn
  rw[gk b l hl,aA]
  split<;>rfl
 refine⟨_,?_,rfl⟩
 unfold lp
 rw[hc,hc,hc,hc,aA,aA,aA,aA,jh,aA]
 by_cases h:cycV (ak.mk k (if (findW b 82).2=true then (findW b 82).1 else o.R) (if (findW b 90).2=true then (findW b 90).1 else o.Z) (if (findW b 81).2=true then (findW b 81).1 else o.Q) (if (findW b 70).2=true then (findW b 70).1 else f) i hi)=0
 ·rw[if_pos h,h];rfl
 ·rw[if_neg h,if_pos (by simpa using h)]
theorem wrap_u64(n:Int):IntKind.u64.wrap n=n % 18446744073709551616:=by
 simp[IntKind.wrap,IntKind.bits,IntKind.signed]
def i64P(n:Int):Prop:=-9223372036854775808≤n∧n≤9223372036854775807
def dst(a b:Int):Int:=if a<b then b-a else a-b
theorem ec{a b:Int}(ha:i64P a)(hb:i64P b):cS a b=some (dst a b):=by
 unfold i64P at *
 unfold cS dst
 by_cases h:a<b
 ·simp only[h,decide_true,if_true,aA,wrap_u64];congr 1;omega
 ·simp only[h,decide_false,if_false,aA,wrap_u64,zA];congr 1;omega
def rad(p:ag)(c:aG):Int:=if p.Y=c.Y then dst p.X c.X else if p.X=c.X then dst p.Y c.Y else 0
theorem lk{p:ag}{c:aG}(h1:i64P p.X)(h2:i64P p.Y)(h3:i64P c.X)(h4:i64P c.Y):∃d,cV p c=some (d,rad p c):=by
 unfold cV rad
 simp only[ec h1 h3,ec h2 h4,aA]
 by_cases e1:p.Y=c.Y<;>by_cases e2:p.X=c.X<;>rcases Int.lt_trichotomy p.X c.X with q | q | q<;>rcases Int.lt_trichotomy p.Y c.Y with r | r | r<;>first | (exfalso;omega)|(simp[e1,e2,q,r,dst];done)|(simp[e1,e2,q,r,dst];split<;>exact⟨_,rfl⟩)|(simp[e1,e2,q,r,dst];repeat (first | exact⟨_,rfl⟩ | split))
def farP(n:Int):Bool:=decide (n>10000000∨n < -10000000)
theorem dst0(n:Int):decide (dst n 0>10000000)=farP n:=by
 unfold farP dst
 apply decide_eq_decide.2
 split<;>omega
def far6(p q:ag):Bool:=farP p.X||farP p.Y||farP p.Z||farP q.X||farP q.Y||farP q.Z
def movV(p:ag)(m:au):Int :=
 if (m.Kind=1∧m.Rate=0)∨(m.Kind=2∧m.Rate>0)then (if far6 p m.To=true then 11 else 0)
 else if (m.Kind=3∨m.Kind=4)∧m.Rate>0∧rad p m.Center>0∧rad p m.Center=rad m.To m.Center then
  (if (far6 p m.To||farP m.Center.X||farP m.Center.Y||farP (m.Center.X+rad p m.Center)||farP (m.Center.X-rad p m.Center)||farP (m.Center.Y+rad p m.Center)||farP (m.Center.Y-rad p m.Center))=true then 11 else 0)
 else 1
def okPos(p:ag):Prop:=i64P p.X∧i64P p.Y∧i64P p.Z
def okMove(m:au):Prop:=i64P m.Kind∧okPos m.To∧i64P m.Center.X∧i64P m.Center.Y∧i64P m.Rate
def apU(a b:Int):Int:=if a<b then IntKind.u64.wrap (IntKind.u64.wrap b-IntKind.u64.wrap a)else IntKind.u64.wrap (IntKind.u64.wrap a-IntKind.u64.wrap b)
theorem ip_apart_u(a b:Int):cS a b=some (apU a b):=by
 unfold cS apU
 by_cases h:a<b<;>simp[h]
theorem apU_eq{a b:Int}(ha:i64P a)(hb:i64P b):apU a b=dst a b:=by
 have h1:=ip_apart_u a b
 rw[ec ha hb]at h1
 injection h1 with h1
 exact h1.symm
theorem any_congr'{α:Type}{p q:α→Bool}:∀{l:List α},(∀x∈l,p x=q x)→l.any p=l.any q
 | [],_=>rfl
 | x::l,h=>by rw[zZ,zZ,h x (by simp),any_congr' λy hy=>h y (by simp[hy])]
theorem bindX_go{ε ν:Type}{f:ν→Option ε}{v:ν}:bindX (some (.go v)) f=f v:=rfl
theorem far_list(l:List Int)(hl:∀x∈l,i64P x)(hs:l.length≤100) :
  bindX (aF (okIdx l) (aU (λ(i:Nat) (e:Int) (v:Unit)=>bindO (cS e 0) λ(y:Int)=>if (decide (y>10000000))=true then some (.ret (.ret 11))else some (.go ())) (λ(v:Unit)=>some (.go ())) l 0 ())) (λ(v:Unit)=>some (0:Int))=some (if l.any farP=true then 11 else 0):=by
 have h:=range_any (r:=(11:Int)) (p:=λe=>decide (apU e 0>10000000)) (f:=λ(i:Nat) (e:Int) (v:Unit)=>bindO (cS e 0) λ(y:Int)=>if (decide (y>10000000))=true then some (.ret (.ret 11))else some (.go ())) l 0 (λi x=>by rw[ip_apart_u,aA])
 rw[bn (by omega),bO,h,any_congr' (q:=farP) (λx hx=>by rw[apU_eq (hl x hx) (by unfold i64P;omega),dst0])]
 cases l.any farP<;>rfl
theorem ip_right_eq{p:ag}{m:au}(hp:okPos p)(hm:okMove m):fU p m=some (decide ((m.Kind=1∧m.Rate=0)∨(m.Kind=2∧m.Rate>0)∨((m.Kind=3∨m.Kind=4)∧m.Rate>0∧rad p m.Center>0∧rad p m.Center=rad m.To m.Center))):=by
 obtain⟨h1,h2,h3,h4,h5⟩:=hm
 obtain⟨d,hd⟩:=lk hp.1 hp.2.1 h3 h4
 obtain⟨d',hd'⟩:=lk h2.1 h2.2.1 h3 h4
 unfold fU fV
 by_cases e1:m.Kind=1
 ·by_cases q:m.Rate=0<;>simp[e1,q]
 ·by_cases e2:m.Kind=2
  ·by_cases q:m.Rate>0<;>simp[e2,q]
  ·by_cases e3:m.Kind=3∨m.Kind=4
   ·have hb:((m.Kind==3)||(m.Kind==4))=true:=by simpa using e3
    by_cases q:m.Rate>0<;>by_cases q2:rad p m.Center>0<;>by_cases q3:rad p m.Center=rad m.To m.Center<;>simp[e1,e2,e3,hb,hd,hd',q,q2,q3]<;>first | done | (simp_all;done)|(simp_all;by_cases w:0<rad m.To m.Center<;>simp[w])
   ·have hb:((m.Kind==3)||(m.Kind==4))=false:=by
     rw[not_or]at e3
     simp[e3]
    simp[e1,e2,e3,hb,hd,hd']
theorem rad_nn(p:ag)(c:aG):0≤rad p c:=by
 unfold rad dst;split<;>(try split)<;>(try split)<;>omega
theorem ll{p:ag}{m:au}(hp:okPos p)(hm:okMove m):d4 p m=some (movV p m):=by
 have hr:=ip_right_eq hp hm
 obtain⟨h1,h2,h3,h4,h5⟩:=hm
 obtain⟨d,hd⟩:=lk hp.1 hp.2.1 h3 h4
 have z:i64P 0:=by unfold i64P;omega
 unfold d4
 rw[show fU (ag.mk p.X p.Y p.Z) (au.mk m.Kind m.To m.Center m.Rate)=fU p m from rfl,hr,aA]
 rw[show cV (ag.mk p.X p.Y p.Z) m.Center=cV p m.Center from rfl,hd]
 simp only[aA,fV,ec h3 z,ec h4 z]
 unfold movV
 by_cases e1:(m.Kind=1∧m.Rate=0)∨(m.Kind=2∧m.Rate>0)
 ·have hb:((m.Kind==3)||(m.Kind==4))=false:=by
   have h3:¬(m.Kind=3):=by omega
   have h4:¬(m.Kind=4):=by omega
   simp[h3,h4]
  rw[decide_eq_true (by rcases e1 with e | e;exact .inl e;exact .inr (.inl e)),if_neg (by simp),hb,if_neg (by simp)]
  rw[if_pos e1]
  rw[bindX_go,far_list _ (λx hx=>?_) (by simp)]
  ·simp[far6,Bool.or_assoc]
  ·obtain⟨p1,p2,p3⟩:=hp
   obtain⟨t1,t2,t3⟩:=h2
   simp only[zY,zQ,or_false]at hx
   rcases hx with rfl | rfl | rfl | rfl | rfl | rfl<;>assumption
 ·rw[if_neg e1]
  by_cases e2:(m.Kind=3∨m.Kind=4)∧m.Rate>0∧rad p m.Center>0∧rad p m.Center=rad m.To m.Center
  ·have hb:((m.Kind==3)||(m.Kind==4))=true:=by simpa using e2.1
   rw[decide_eq_true (.inr (.inr e2)),if_neg (by simp),hb,if_pos rfl,if_pos e2]
   simp only[dst0]
   have hnn:=rad_nn p m.Center
   by_cases q1:rad p m.Center>10000000
   ·have hf:(far6 p m.To||farP m.Center.X||farP m.Center.Y||farP (m.Center.X+rad p m.Center)||farP (m.Center.X-rad p m.Center)||farP (m.Center.Y+rad p m.Center)||farP (m.Center.Y-rad p m.Center))=true:=by
     have:farP (m.Center.X+rad p m.Center)=true∨farP (m.Center.X-rad p m.Center)=true:=by
      unfold farP;simp only[decide_eq_true_eq];omega
     simp only[zI]
     rcases this with q | q<;>simp[q]
    rw[decide_eq_true q1,if_pos rfl,aA,if_pos rfl,if_pos hf]
    rfl
   ·rw[decide_eq_false q1,if_neg (by simp)]
    by_cases q2:farP m.Center.X=true
    ·rw[if_pos q2,aA,if_pos rfl,if_pos (by simp[q2])]
     rfl
    ·rw[if_neg q2]
     by_cases q3:farP m.Center.Y=true
     ·rw[q3,aA,if_pos rfl,if_pos (by simp)]
      rfl
     ·have q2':farP m.Center.X=false:=by simpa using q2
      have q3':farP m.Center.Y=false:=by simpa using q3
      have b1:-10000000≤m.Center.X∧m.Center.X≤10000000:=by unfold farP at q2';simp at q2';omega
      have b2:-10000000≤m.Center.Y∧m.Center.Y≤10000000:=by unfold farP at q3';simp at q3';omega
      rw[q3',aA,if_neg (by simp)]
      rw[wrap_i64 (n:=rad p m.Center) (by omega) (by omega),wrap_i64 (by omega) (by omega),wrap_i64 (by omega) (by omega),wrap_i64 (by omega) (by omega),wrap_i64 (by omega) (by omega)]
      rw[bindX_go,far_list _ (λx hx=>?_) (by simp)]
      ·simp[far6,Bool.or_assoc,q2',q3']
      ·obtain⟨p1,p2,p3⟩:=hp
       obtain⟨t1,t2,t3⟩:=h2
       simp only[zY,zQ,or_false]at hx
       rcases hx with rfl | rfl | rfl | rfl | rfl | rfl | rfl | rfl | rfl | rfl<;>first | assumption | (unfold i64P;omega)
  ·rw[if_neg e2,decide_eq_false (by rintro (q | q | q);exact e1 (.inl q);exact e1 (.inr q);exact e2 q)]
   rfl
theorem jq{n:Int}(h:farP n=false):-10000000≤n∧n≤10000000:=by unfold farP at h;simp at h;omega
theorem movV_kind{p:ag}{m:au}(h:movV p m=0):m.Kind=1∨m.Kind=2∨m.Kind=3∨m.Kind=4:=by
 unfold movV at h
 split at h
 ·omega
 ·split at h
  ·omega
  ·omega
def IsCh(r n:Int):Prop:=1≤n∧r≤10*(n*n)∧10*((n-1)*(n-1))<r
theorem ld{a b:Int}(h0:0≤a)(h:a≤b):a*a≤b*b:=zG h h h0 (by omega)
theorem IsCh.unique{r n m:Int}(hn:IsCh r n)(hm:IsCh r m):n=m:=by
 obtain⟨a1,a2,a3⟩:=hn
 obtain⟨b1,b2,b3⟩:=hm
 rcases Int.lt_trichotomy n m with h | h | h
 ·have:=ld (a:=n) (b:=m-1) (by omega) (by omega);omega
 ·exact h
 ·have:=ld (a:=m) (b:=n-1) (by omega) (by omega);omega
def kE(r:Int):Nat→Int→Int
 | 0,n=>n
 | f+1,n=>if 10*(n*n)<r then kE r f (n+1)else n
theorem chordsFrom_is(r:Int):∀(f:Nat) (n:Int),1≤n→10*((n-1)*(n-1))<r→r≤10*((n+f)*(n+f))→IsCh r (kE r f n):=by
 intro f
 induction f with
 | zero=>intro n h1 h2 h3;show IsCh r n;exact⟨h1,by simpa using h3,h2⟩
 | succ f ih =>
  intro n h1 h2 h3
  unfold kE
  split
  ·rename_i h
   exact ih (n+1) (by omega) (by rw[show n+1-1=n from by omega];omega) (by rw[show n+1+(f:Int)=n+((f+1:Nat):Int) from by omega];exact h3)
  ·exact⟨h1,by omega,h2⟩
def lq(r:Int):Int:=if r≤0 then 0 else kE r r.toNat 1
theorem chordsM_is{r:Int}(h:0<r):IsCh r (lq r):=by
 unfold lq
 rw[if_neg (by omega)]
 refine chordsFrom_is r _ 1 (by omega) (by simpa using h) ?_
 have e:(1:Int)+(r.toNat:Int)=1+r:=by omega
 rw[e]
 have:=zG (a:=1) (b:=r) (c:=1+r) (d:=1+r) (by omega) (by omega) (by omega) (by omega)
 have h2:(1+r)*(1+r)=1+r+r*(1+r):=by rw[zM,Int.one_mul]
 omega
theorem chordsM_eq{r n:Int}(h:IsCh r n):lq r=n:=by
 have hr:0<r:=by
  have:=h.2.2
  have h2:0≤(n-1)*(n-1):=zD (by have:=h.1;omega) (by have:=h.1;omega)
  omega
 exact (chordsM_is hr).unique h
theorem IsCh.le{r n b:Int}(h:IsCh r n)(hb:0≤b)(hr:r≤10*(b*b)):n≤b:=by
 rcases Int.lt_or_le b n with h1 | h1
 ·have:=ld (a:=b) (b:=n-1) hb (by omega)
  have:=h.2.2
  omega
 ·exact h1
def rot:Nat→Int→Int→Int×Int
 | 0,x,y=>(x,y)
 | n+1,x,y=>(-(rot n x y).2,(rot n x y).1)
theorem rot_bd(b:Int)(n:Nat)(x y:Int)(hx:-b≤x∧x≤b)(hy:-b≤y∧y≤b):(-b≤(rot n x y).1∧(rot n x y).1≤b)∧(-b≤(rot n x y).2∧(rot n x y).2≤b):=by
 induction n with
 | zero=>exact⟨hx,hy⟩
 | succ n ih=>simp only[rot];omega
theorem rot4(n:Nat)(x y:Int):rot (n+4) x y=rot n x y:=by simp[rot]
theorem rot_add4(n k:Nat)(x y:Int):rot (n+4*k) x y=rot n x y:=by
 induction k with
 | zero=>rfl
 | succ k ih=>rw[show n+4*(k+1)=(n+4*k)+4 from by omega,rot4,ih]
theorem rot_mod(n:Nat)(x y:Int):rot (n % 4) x y=rot n x y:=by
 have:=rot_add4 (n % 4) (n / 4) x y
 rw[show n % 4+4*(n / 4)=n from by omega]at this
 exact this.symm
theorem floor_neg{a b:Int}(hb:0<b)(h:a.tmod b<0):a.tdiv b-1=a / b:=by
 rw[Int.tdiv_eq_ediv]
 rw[Int.tmod_eq_emod]at h
 have h3:=Int.emod_nonneg a (show b≠0 by omega)
 have h6:b.sign=1:=Int.sign_eq_one_of_pos hb
 split at h
 ·omega
 ·rename_i hn
  rw[if_neg hn,h6]
  omega
theorem floor_pos{a b:Int}(hb:0<b)(h:¬a.tmod b<0):a.tdiv b=a / b:=by
 rw[Int.tdiv_eq_ediv]
 rw[Int.tmod_eq_emod]at h
 have h4:=Int.emod_lt_of_pos a hb
 split at h
 ·rename_i hn
  rw[if_pos hn]
  omega
 ·omega
theorem ediv_bd{a b c:Int}(hb:0<b)(hc:0≤c)(h1:-c≤a)(h2:a≤c):-c≤a / b∧a / b≤c:=by
 have hm:=zF (show 1≤b by omega) hc
 constructor
 ·refine Int.le_ediv_of_mul_le hb ?_
  rw[Int.neg_mul];omega
 ·have:a / b<c+1:=zH hb (by rw[zM];omega)
  omega
def chordX(r n k:Int):Int:=r*(n*n-k*k) / (n*n+k*k)
def chordY(r n k:Int):Int:=2*r*k*n / (n*n+k*k)
def arcXY(kind:Int)(first q:Nat)(x y:Int):Int×Int:=if kind=3 then rot (first+4-q) x (-y)else rot (first+q) x y
theorem chord_facts{R n K:Int}(h1:0<R)(h2:R≤10000000)(h3:n≤1000)(h4:1≤K)(h5:K≤n) :
  IntKind.i64.wrap (n*n)=n*n∧IntKind.i64.wrap (K*K)=K*K∧IntKind.i64.wrap (n*n-K*K)=n*n-K*K∧IntKind.i64.wrap (R*(n*n-K*K))=R*(n*n-K*K)∧IntKind.i64.wrap (n*n+K*K)=n*n+K*K ∧
  IntKind.i64.wrap ((R*(n*n-K*K)).tdiv (n*n+K*K))=chordX R n K∧IntKind.i64.wrap (2*R)=2*R∧IntKind.i64.wrap (2*R*K)=2*R*K∧IntKind.i64.wrap (2*R*K*n)=2*R*K*n∧IntKind.i64.wrap ((2*R*K*n).tdiv (n*n+K*K))=chordY R n K ∧
  ¬n*n+K*K=0∧(0≤chordX R n K∧chordX R n K≤R)∧(0≤chordY R n K∧chordY R n K≤R):=by
 have a1:n*n≤1000*1000:=ld (by omega) h3
 have a2:1*1≤K*K:=ld (by omega) h4
 have a3:K*K≤n*n:=ld (by omega) h5
 have a4:0≤R*(n*n-K*K):=zD (by omega) (by omega)
 have a5:R*(n*n-K*K)≤R*(n*n+K*K):=zF (by omega) (by omega)
 have a6:R*(n*n+K*K)≤10000000*2000000:=zG h2 (by omega) (by omega) (by omega)
 have b1:R*K≤10000000*1000:=zG h2 (by omega) (by omega) (by omega)
 have b2:0≤R*K:=zD (by omega) (by omega)
 have b3:R*K*n≤10000000000*1000:=zG b1 h3 (by omega) (by omega)
 have b4:0≤R*K*n:=zD b2 (by omega)
 have c1:2*R*K=2*(R*K):=zO _ _ _
 have c2:2*R*K*n=2*(R*K*n):=by rw[c1,zO]
 have d1:2*(K*n)≤n*n+K*K:=by
  have e:=zD (show 0≤n-K by omega) (show 0≤n-K by omega)
  have e2:(n-K)*(n-K)=n*n-2*(K*n)+K*K:=by
   rw[Int.sub_mul,Int.mul_sub,Int.mul_sub,Int.mul_comm n K];omega
  omega
 have d2:2*R*K*n≤R*(n*n+K*K):=by
  have e:=zF d1 (show 0≤R by omega)
  have e3:R*(2*(K*n))=2*R*K*n:=by
   rw[c2,zO R K n,←zO R 2,Int.mul_comm R 2,zO]
  omega
 have x1:0≤chordX R n K:=zJ a4 (by omega)
 have x2:chordX R n K≤R:=by
  have:chordX R n K<R+1:=zH (by omega) (by rw[zM];omega)
  omega
 have y1:0≤chordY R n K:=zJ (by omega) (by omega)
 have y2:chordY R n K≤R:=by
  have:chordY R n K<R+1:=zH (by omega) (by rw[zM];omega)
  omega
 refine⟨IntWalk.i64_in _ (by omega),IntWalk.i64_in _ (by omega),IntWalk.i64_in _ (by omega),IntWalk.i64_in _ (by omega),IntWalk.i64_in _ (by omega),?_,IntWalk.i64_in _ (by omega),IntWalk.i64_in _ (by omega),IntWalk.i64_in _ (by omega),?_,by omega,⟨x1,x2⟩,⟨y1,y2⟩⟩
 ·rw[zB a4];exact IntWalk.i64_in _ (by unfold chordX at x1 x2;omega)
 ·rw[zB (by omega)];exact IntWalk.i64_in _ (by unfold chordY at y1 y2;omega)
theorem arcXY_bd(R k:Int)(f q:Nat){x y:Int}(hx:0≤x∧x≤R)(hy:0≤y∧y≤R):(-R≤(arcXY k f q x y).1∧(arcXY k f q x y).1≤R)∧(-R≤(arcXY k f q x y).2∧(arcXY k f q x y).2≤R):=by
 unfold arcXY
 split
 ·exact rot_bd R _ _ _ (by omega) (by omega)
 ·exact rot_bd R _ _ _ (by omega) (by omega)
theorem take_map_range{α:Type}(g:Nat→α)(T m:Nat)(h:m<T):((zU T).map g).take (m+1)=((zU T).map g).take m++[g m]:=by
 rw[List.take_succ_eq_append_getElem (by simpa using h)];simp
def qd(p:ag)(c:aG):Nat:=if p.Y=c.Y∧p.X>c.X then 0 else if p.X=c.X∧p.Y>c.Y then 1 else if p.Y=c.Y∧p.X<c.X then 2 else if p.X=c.X∧p.Y<c.Y then 3 else 0
theorem qd_le(p:ag)(c:aG):qd p c≤3:=by
 unfold qd;repeat' split
 all_goals omega
theorem ib{p:ag}{c:aG}(h1:i64P p.X)(h2:i64P p.Y)(h3:i64P c.X)(h4:i64P c.Y):cV p c=some ((qd p c:Int),rad p c):=by
 have e1:=ec h1 h3
 have e2:=ec h2 h4
 unfold cV
 rw[e1,e2]
 unfold qd rad dst
 by_cases x1:p.X=c.X<;>by_cases x2:p.X>c.X<;>by_cases x3:p.X<c.X<;>by_cases y1:p.Y=c.Y<;>by_cases y2:p.Y>c.Y<;>by_cases y3:p.Y<c.Y<;>first | (exfalso;omega) | simp[x1,x2,x3,y1,y2,y3]
def qtr(k:Int)(a b:Nat):Nat:=if k=3 then (if a≤b then a+4-b else a-b)else (if b≤a then b+4-a else b-a)
theorem qtr_bd{k:Int}{a b:Nat}(ha:a≤3)(hb:b≤3):1≤qtr k a b∧qtr k a b≤4:=by
 unfold qtr;repeat' split
 all_goals omega
structure ArcOk (p:ag) (m:au):Prop where
 kind:m.Kind=3∨m.Kind=4
 p1:-10000000≤p.X∧p.X≤10000000
 p2:-10000000≤p.Y∧p.Y≤10000000
 p3:-10000000≤p.Z∧p.Z≤10000000
 t1:-10000000≤m.To.X∧m.To.X≤10000000
 t2:-10000000≤m.To.Y∧m.To.Y≤10000000
 t3:-10000000≤m.To.Z∧m.To.Z≤10000000
 c1:-10000000≤m.Center.X∧m.Center.X≤10000000
 c2:-10000000≤m.Center.Y∧m.Center.Y≤10000000
 r0:0<rad p m.Center
 r1:rad p m.Center=rad m.To m.Center
 x1:-10000000≤m.Center.X-rad p m.Center∧m.Center.X+rad p m.Center≤10000000
 y1:-10000000≤m.Center.Y-rad p m.Center∧m.Center.Y+rad p m.Center≤10000000
theorem ArcOk.rad_le{p:ag}{m:au}(h:ArcOk p m):rad p m.Center≤10000000:=by
 have:=h.x1;omega
theorem gC{n:Int}(h:-10000000≤n∧n≤10000000):i64P n:=by unfold i64P;omega
theorem ip_Quarters_eq{p:ag}{m:au}(h:ArcOk p m)(hp:okPos p)(hm:okMove m)(hv:movV p m=0):cl p m=some ((qtr m.Kind (qd p m.Center) (qd m.To m.Center):Int),0):=by
 unfold cl fV
 have hk:((m.Kind==3)||(m.Kind==4))=true:=by simpa using h.kind
 rw[hk,aA,if_neg (by simp)]
 show bindO (d4 p m) _=_
 rw[ll hp hm,hv,aA,if_neg (by simp),ib (gC h.p1) (gC h.p2) (gC h.c1) (gC h.c2),aA,ib (gC h.t1) (gC h.t2) (gC h.c1) (gC h.c2),aA]
 have ha:=qd_le p m.Center
 have hb:=qd_le m.To m.Center
 generalize qd p m.Center=a at *
 generalize qd m.To m.Center=b at *
 dsimp only
 have ha':a=0∨a=1∨a=2∨a=3:=by omega
 have hb':b=0∨b=1∨b=2∨b=3:=by omega
 rcases h.kind with k | k<;>rw[k]<;>rcases ha' with rfl | rfl | rfl | rfl<;>rcases hb' with rfl | rfl | rfl | rfl<;>decide
theorem ip_Chords_eq{r:Int}(h0:0<r)(h1:r≤10000000):gz r=some (lq r):=by
 apply Tot.get
 unfold gz
 rw[wrap_i64 (n:=r-1) (by omega) (by omega),tdiv_ed (by omega),wrap_i64 (n:=(r-1) / 10) (by omega) (by omega),wrap_i64 (n:=(r-1) / 10+1) (by omega) (by omega)]
 obtain⟨need,hneed⟩:∃need,(r-1) / 10+1=need:=⟨_,rfl⟩
 rw[hneed]
 refine Tot.ite (λq=>absurd q (by simp;omega)) (λ_=>?_)
 refine Tot.bind (E:=λx=>x=lq r) (Tot.loop (λk (v:Int×Int)=>1≤v.1∧v.1≤v.2∧v.2≤1073741824∧(v.1-1)*(v.1-1)<need∧need≤v.2*v.2∧k=(v.2-v.1).toNat) _ 1073741823 (by unfold fuel;omega) ⟨by omega,by omega,by omega,(by show (0:Int)<need;omega),(by show need≤1152921504606846976;omega),rfl⟩ (λk v hr=>?_)) (λx hx=>.ok hx)
 obtain⟨lo,hi⟩:=v
 obtain⟨a1,a2,a3,a4,a5,a6⟩:=hr
 dsimp only at *
 by_cases z:lo<hi
 ·rw[decide_eq_true z,if_pos rfl,wrap_i64 (n:=lo+hi) (by omega) (by omega),tdiv_ed (by omega),wrap_i64 (n:=(lo+hi) / 2) (by omega) (by omega)]
  obtain⟨n,hn⟩:∃n,(lo+hi) / 2=n:=⟨_,rfl⟩
  rw[hn]
  have n1:lo≤n:=by omega
  have n2:n<hi:=by omega
  have sq:=ld (a:=n) (b:=1073741824) (by omega) (by omega)
  have sq0:0≤n*n:=zD (by omega) (by omega)
  rw[wrap_i64 (n:=n*n) (by omega) (by omega)]
  by_cases y:n*n≥need
  ·rw[decide_eq_true y,if_pos rfl]
   exact .go ⟨(n-lo).toNat,by omega,a1,n1,by omega,a4,y,rfl⟩
  ·rw[decide_eq_false y,if_neg (by simp),wrap_i64 (n:=n+1) (by omega) (by omega)]
   exact .go ⟨(hi-(n+1)).toNat,by omega,(by show (1:Int)≤n+1;omega),(by show n+1≤hi;omega),a3,(by show (n+1-1)*(n+1-1)<need;rw[show n+1-1=n by omega];omega),a5,rfl⟩
 ·rw[decide_eq_false z,if_neg (by simp)]
  have e:lo=hi:=by omega
  subst e
  refine .ret (chordsM_eq ⟨a1,by omega,by omega⟩).symm
theorem andI3(q:Nat)(h:q≤11):andI .i64 (q:Int) 3=((q % 4:Nat):Int):=by
 have:q=0∨q=1∨q=2∨q=3∨q=4∨q=5∨q=6∨q=7∨q=8∨q=9∨q=10∨q=11:=by omega
 rcases this with rfl | rfl | rfl | rfl | rfl | rfl | rfl | rfl | rfl | rfl | rfl | rfl<;>decide
theorem ip_turned_eq{x y:Int}{q:Nat}(hx:-100000000≤x∧x≤100000000)(hy:-100000000≤y∧y≤100000000)(hq:q≤11):fq x y (q:Int)=some (rot q x y):=by
 apply Tot.get
 unfold fq
 rw[andI3 q hq,←rot_mod q]
 have hm:q % 4<4:=Nat.mod_lt _ (by omega)
 generalize q % 4=n at *
 refine Tot.bind (E:=λv=>v=rot n x y) (Tot.loop (λk (v:Int×Int×Int)=>∃j:Nat,v=((rot j x y).1,(rot j x y).2,(j:Int))∧j≤n∧k=n-j) _ n (by unfold fuel;omega) ⟨0,rfl,zX _,rfl⟩ (λk v hr=>?_)) (λv hv=>.ok (by rw[hv]))
 obtain⟨j,rfl,j1,j2⟩:=hr
 have hb:=rot_bd 100000000 j x y hx hy
 dsimp only
 by_cases z:j<n
 ·rw[decide_eq_true (show (j:Int)<(n:Int) by omega),if_pos rfl,wrap_i64 (by omega) (by omega),wrap_i64 (by omega) (by omega)]
  refine .go ⟨n-(j+1),by omega,j+1,?_,by omega,rfl⟩
  rw[Int.zero_sub];rfl
 ·rw[decide_eq_false (show ¬(j:Int)<(n:Int) by omega),if_neg (by simp),show j=n by omega]
  exact .ret rfl
theorem ip_floor_eq{a b:Int}(ha:-1000000000000000000≤a∧a≤1000000000000000000)(hb:0<b∧b≤1000000000):ja a b=some (a / b):=by
 have hd:=ediv_bd (c:=1000000000000000000) hb.1 (by omega) ha.1 ha.2
 apply Tot.get
 unfold ja
 have h0:(!(b==0))=true:=by simp;omega
 refine Tot.guard h0 (Tot.guard h0 (Tot.bind (E:=λv=>v=a / b) (Tot.ite (λq=>.ok ?_) (λq=>.ok ?_)) (λv hv=>.ok hv)))
 ·have q':zV a b<0:=by simpa using q
  have e:=floor_neg hb.1 q'
  rw[wrap_i64 (n:=zW a b) (by omega) (by omega),wrap_i64 (by omega) (by omega),e]
 ·have q':¬zV a b<0:=by simpa using q
  have e:=floor_pos hb.1 q'
  rw[wrap_i64 (n:=zW a b) (by omega) (by omega),e]
def arcN(p:ag)(m:au):Nat:=(lq (rad p m.Center)).toNat
def arcQ(p:ag)(m:au):Nat:=qtr m.Kind (qd p m.Center) (qd m.To m.Center)
def arcXYi(p:ag)(m:au)(i:Nat):Int×Int :=
 arcXY m.Kind (qd p m.Center) (i / arcN p m) (chordX (rad p m.Center) (arcN p m:Int) ((i % arcN p m+1:Nat):Int)) (chordY (rad p m.Center) (arcN p m:Int) ((i % arcN p m+1:Nat):Int))
def arcPt(p:ag)(m:au)(i:Nat):ag :=
 ag.mk (m.Center.X+(arcXYi p m i).1) (m.Center.Y+(arcXYi p m i).2) (p.Z+(m.To.Z-p.Z)*((i+1:Nat):Int) / ((arcN p m*arcQ p m:Nat):Int))
def arcL(p:ag)(m:au):List ag:=(zU (arcN p m*arcQ p m)).map (arcPt p m)
theorem ArcOk.n{p:ag}{m:au}(h:ArcOk p m):lq (rad p m.Center)=(arcN p m:Int)∧1≤arcN p m∧arcN p m≤1000:=by
 have h1:=chordsM_is h.r0
 have h2:=h1.le (b:=1000) (by omega) (by have:=h.rad_le;omega)
 have h3:=h1.1
 unfold arcN
 omega
theorem ArcOk.q{p:ag}{m:au}(h:ArcOk p m):1≤arcQ p m∧arcQ p m≤4:=qtr_bd (qd_le _ _) (qd_le _ _)
theorem ArcOk.all{p:ag}{m:au}(h:ArcOk p m):1≤arcN p m*arcQ p m∧arcN p m*arcQ p m≤4000:=by
 obtain⟨_,a1,a2⟩:=h.n
 obtain⟨b1,b2⟩:=h.q
 exact⟨Nat.mul_le_mul a1 b1,Nat.mul_le_mul a2 b2⟩
theorem arc_idx{N q j:Nat}(hj:j<N):(N*q+j) / N=q∧(N*q+j) % N=j:=by
 constructor
 ·rw[Nat.mul_add_div (by omega),Nat.div_eq_of_lt hj];omega
 ·rw[Nat.mul_add_mod,Nat.mod_eq_of_lt hj]
theorem ArcOk.pt{p:ag}{m:au}(h:ArcOk p m){q j:Nat}(hq:q<arcQ p m)(hj:j<arcN p m) :
  (-10000000≤(arcXYi p m (arcN p m*q+j)).1∧(arcXYi p m (arcN p m*q+j)).1≤10000000)∧(-10000000≤(arcXYi p m (arcN p m*q+j)).2∧(arcXYi p m (arcN p m*q+j)).2≤10000000)∧arcN p m*q+j<arcN p m*arcQ p m:=by
 obtain⟨_,a1,a2⟩:=h.n
 obtain⟨e1,e2⟩:=arc_idx (q:=q) hj
 have hf:=chord_facts (R:=rad p m.Center) (n:=(arcN p m:Int)) (K:=((j+1:Nat):Int)) h.r0 h.rad_le (by omega) (by omega) (by omega)
 obtain⟨_,_,_,_,_,_,_,_,_,_,_,hx,hy⟩:=hf
 have hb:=arcXY_bd (rad p m.Center) m.Kind (qd p m.Center) q hx hy
 have hr:=h.rad_le
 unfold arcXYi
 rw[e1,e2]
 refine⟨by omega,by omega,?_⟩
 have:=Nat.mul_le_mul_left (arcN p m) (show q+1≤arcQ p m by omega)
 rw[Nat.mul_add,Nat.mul_one]at this
 omega
theorem ArcOk.zz{p:ag}{m:au}(h:ArcOk p m){i:Nat}(hi:i<arcN p m*arcQ p m) :
  (-100000000000≤(m.To.Z-p.Z)*((i+1:Nat):Int)∧(m.To.Z-p.Z)*((i+1:Nat):Int)≤100000000000)∧(-20000000≤(m.To.Z-p.Z)*((i+1:Nat):Int) / ((arcN p m*arcQ p m:Nat):Int)∧(m.To.Z-p.Z)*((i+1:Nat):Int) / ((arcN p m*arcQ p m:Nat):Int)≤20000000):=by
 have ha:=h.all
 have h1:=h.p3
 have h2:=h.t3
 obtain⟨T,hT⟩:∃T,arcN p m*arcQ p m=T:=⟨_,rfl⟩
 obtain⟨d,hd⟩:∃d,m.To.Z-p.Z=d:=⟨_,rfl⟩
 rw[hT]at ha hi ⊢
 rw[hd]
 have hd1:-20000000≤d∧d≤20000000:=by omega
 have b1:d*((i+1:Nat):Int)≤20000000*((i+1:Nat):Int):=zE hd1.2 (by omega)
 have b2:-20000000*((i+1:Nat):Int)≤d*((i+1:Nat):Int):=zE hd1.1 (by omega)
 refine⟨by omega,?_,?_⟩
 ·refine Int.le_ediv_of_mul_le (by omega) ?_
  have:(-20000000:Int)*(T:Int)≤-20000000*((i+1:Nat):Int):=by omega
  omega
 ·have:d*((i+1:Nat):Int) / (T:Int)<20000001:=zH (by omega) (by omega)
  omega
theorem ip_Arc_eq{p:ag}{m:au}(h:ArcOk p m)(hp:okPos p)(hm:okMove m)(hv:movV p m=0):kY p m=some (arcL p m,0):=by
 apply Tot.get
 unfold kY
 show Tot (bindO (cl p m) _) _
 have hQ:cl p m=some ((arcQ p m:Int),0):=ip_Quarters_eq h hp hm hv
 obtain⟨n0,n1,n2⟩:=h.n
 obtain⟨q1,q2⟩:=h.q
 obtain⟨al1,al2⟩:=h.all
 have hr:=h.rad_le
 have hr0:=h.r0
 have hz1:=h.p3
 have hz2:=h.t3
 have hc1:=h.c1
 have hc2:=h.c2
 rw[hQ,aA]
 refine Tot.ite (λq=>by simp at q) (λ_=>?_)
 rw[ib (gC h.p1) (gC h.p2) (gC h.c1) (gC h.c2),aA]
 dsimp only
 rw[wrap_i64 (n:=rad p m.Center) (by omega) (by omega),ip_Chords_eq hr0 hr,aA,n0]
 have ecast:(arcN p m:Int)*(arcQ p m:Int)=((arcN p m*arcQ p m:Nat):Int):=by rw[Int.natCast_mul]
 rw[wrap_i64 (n:=(arcN p m:Int)*(arcQ p m:Int)) (by omega) (by omega),ecast]
 refine Tot.ite (λq=>absurd q (by simp;omega)) (λ_=>?_)
 have hqd:=qd_le p m.Center
 have hlen:(arcL p m).length=arcN p m*arcQ p m:=by unfold arcL;simp
 refine Tot.bind (E:=λv=>v=arcL p m) (Tot.loop (λk (v:List ag×Int)=>∃q:Nat,v=((arcL p m).take (arcN p m*q),(q:Int))∧q≤arcQ p m∧k=arcQ p m-q) _ (arcQ p m) (by unfold fuel;omega) ⟨0,by simp,zX _,rfl⟩ (λk v hr'=>?_)) (λv hv'=>.ok (by rw[hv']))
 obtain⟨q,rfl,hq,hk⟩:=hr'
 dsimp only
 by_cases zq:q<arcQ p m
 ·rw[decide_eq_true (show (q:Int)<(arcQ p m:Int) by omega),if_pos rfl]
  refine TotX.bind (E:=λv=>v=(arcL p m).take (arcN p m*(q+1))) (Tot.loop (λk (v:List ag×Int)=>∃j:Nat,v=((arcL p m).take (arcN p m*q+j),((j+1:Nat):Int))∧j≤arcN p m∧k=arcN p m-j) _ (arcN p m) (by unfold fuel;omega) ⟨0,rfl,zX _,rfl⟩ (λk v hr'=>?_)) (λv hv'=>?_)
  ·obtain⟨j,rfl,hj,hk2⟩:=hr'
   dsimp only
   by_cases zj:j<arcN p m
   ·obtain⟨b1,b2,b3⟩:=h.pt zq zj
    obtain⟨z1,z2⟩:=h.zz b3
    obtain⟨e1,e2⟩:=arc_idx (q:=q) zj
    obtain⟨f1,f2,f3,f4,f5,f6,f7,f8,f9,f10,f11,f12,f13⟩:=chord_facts (R:=rad p m.Center) (n:=(arcN p m:Int)) (K:=((j+1:Nat):Int)) hr0 hr (by omega) (by omega) (by omega)
    have hlt:((arcL p m).take (arcN p m*q+j)).length=arcN p m*q+j:=by rw[List.length_take,hlen];omega
    rw[decide_eq_true (show ((j+1:Nat):Int)≤(arcN p m:Int) by omega),if_pos rfl,f1,f2,f3,f4,f5,f6,f7,f8,f9,f10,hlt]
    refine .guard (by simpa using f11) (.guard (by simpa using f11) ?_)
    refine TotX.bind (E:=λxy=>xy=arcXYi p m (arcN p m*q+j)) ?_ (λxy hxy=>?_)
    ·unfold arcXYi
     rw[e1,e2]
     unfold arcXY
     rcases h.kind with hk3 | hk4
     ·rw[hk3,if_pos (by simp),if_pos rfl]
      rw[wrap_i64 (n:=0-chordY (rad p m.Center) (arcN p m:Int) ((j+1:Nat):Int)) (by omega) (by omega),Int.zero_sub,wrap_i64 (n:=((qd p m.Center:Nat):Int)-(q:Int)) (by omega) (by omega),wrap_i64 (by omega) (by omega),show ((qd p m.Center:Nat):Int)-(q:Int)+4=((qd p m.Center+4-q:Nat):Int) by omega,ip_turned_eq (by omega) (by omega) (by omega),aA]
      exact .ok rfl
     ·rw[hk4,if_neg (by simp),if_neg (by omega)]
      rw[wrap_i64 (n:=((qd p m.Center:Nat):Int)+(q:Int)) (by omega) (by omega),show ((qd p m.Center:Nat):Int)+(q:Int)=((qd p m.Center+q:Nat):Int) by omega,ip_turned_eq (by omega) (by omega) (by omega),aA]
      exact .ok rfl
    ·subst hxy
     have ei:((arcN p m*q+j:Nat):Int)+1=((arcN p m*q+j+1:Nat):Int):=rfl
     rw[wrap_i64 (n:=m.To.Z-p.Z) (by omega) (by omega),wrap_i64 (n:=((arcN p m*q+j:Nat):Int)+1) (by omega) (by omega),ei,wrap_i64 (n:=(m.To.Z-p.Z)*((arcN p m*q+j+1:Nat):Int)) (by omega) (by omega),ip_floor_eq (by omega) (by omega),aA]
     refine .guard (bA (by omega)) (.go ⟨arcN p m-(j+1),by omega,j+1,?_,by omega,rfl⟩)
     rw[wrap_i64 (n:=m.Center.X+_) (by omega) (by omega),wrap_i64 (n:=m.Center.Y+_) (by omega) (by omega),wrap_i64 (n:=p.Z+_) (by omega) (by omega),wrap_i64 (n:=((j+1:Nat):Int)+1) (by omega) (by omega)]
     have ht:=take_map_range (arcPt p m) (arcN p m*arcQ p m) (arcN p m*q+j) b3
     have e3:(arcL p m).take (arcN p m*q+(j+1))=(arcL p m).take (arcN p m*q+j)++[arcPt p m (arcN p m*q+j)]:=ht
     rw[e3];rfl
   ·rw[decide_eq_false (show ¬((j+1:Nat):Int)≤(arcN p m:Int) by omega),if_neg (by simp)]
    refine .ret ?_
    rw[show j=arcN p m by omega,Nat.mul_add,Nat.mul_one]
  ·subst hv'
   rw[wrap_i64 (n:=(q:Int)+1) (by omega) (by omega)]
   exact .go ⟨arcQ p m-(q+1),by omega,q+1,rfl,by omega,rfl⟩
 ·rw[decide_eq_false (show ¬(q:Int)<(arcQ p m:Int) by omega),if_neg (by simp)]
  refine .ret ?_
  rw[show q=arcQ p m by omega,←hlen,List.take_length]
def prn(c:UInt8):Bool:=decide ((c.toNat:Int)≥32)&&(decide ((c.toNat:Int)≤126)&&(((c.toNat:Int) != 40)&&((c.toNat:Int) != 41)))
def okW(w:ay):Prop:=65≤w.Letter∧w.Letter≤90∧-1000000000000≤w.Value∧w.Value≤1000000000000
def fL(b:ac):Prop:=b.Words.length≤16∧b.Comment.length≤100∧(∀w∈b.Words,okW w)∧∀c∈b.Comment,prn c=true
theorem bk_Valid_vp(b:ac)(h1:b.Words.length≤1000)(h2:b.Comment.length≤1000):Tot (gc b) (λe=>(e=0∧fL b)∨(e=1∧¬fL b)):=by
 unfold gc
 have hsz:(decide ((b.Words.length:Int)>16)||decide ((b.Comment.length:Int)>100))=decide (¬(b.Words.length≤16∧b.Comment.length≤100)):=by
  rw[zT];simp only[zI,decide_eq_true_eq];omega
 rw[hsz]
 refine Tot.ite (λh=>.ok (.inr ⟨rfl,λq=>of_decide_eq_true h ⟨q.1,q.2.1⟩⟩)) (λh=>?_)
 have hle:b.Words.length≤16∧b.Comment.length≤100:=by simpa using h
 refine Tot.bindX (E:=λ_=>∀w∈b.Words,okW w) (TotX.of (Tot.mono (E:=λx=>(x=.ret 1∧¬fL b)∨(x=.go ()∧∀w∈b.Words,okW w)) ?_ ?_)) (λx hx=>?_)
 ·refine Tot.guard (bn (by omega)) (Tot.range (λi _=>∀(k:Nat) w,k<i→b.Words[k]? = some w→okW w) _ (λk w q=>by omega) (λi x v hx hr=>?_) (λv hr=>.ok (.inr ⟨rfl,λw hw=>?_⟩)))
  ·have hc:(decide (x.Letter<65)||(decide (x.Letter>90)||(decide (x.Value>1000000000000)||decide (x.Value < -1000000000000))))=decide (¬(65≤x.Letter∧x.Letter≤90∧-1000000000000≤x.Value∧x.Value≤1000000000000)):=by
    rw[zT];simp only[zI,decide_eq_true_eq];omega
   rw[hc]
   refine TotX.ite (λh2=>.ret (.inl ⟨rfl,λq=>of_decide_eq_true h2 (q.2.2.1 x (List.mem_of_getElem? hx))⟩)) (λh2=>.go (λk w hk hw=>?_))
   rcases Nat.lt_or_ge k i with q | q
   ·exact hr k w q hw
   ·obtain rfl:k=i:=by omega
    rw[hx]at hw;injection hw with hw;subst hw
    have h3:65≤x.Letter∧x.Letter≤90∧-1000000000000≤x.Value∧x.Value≤1000000000000:=Decidable.not_not.1 (of_decide_eq_false h2)
    exact h3
  ·obtain⟨k,hk⟩:=List.mem_iff_getElem?.1 hw
   exact hr k w (az hk) hk
 ·rintro x (⟨rfl,h3⟩|⟨rfl,h3⟩)
  ·exact .inr ⟨rfl,h3⟩
  ·exact h3
 ·refine Tot.bindX (E:=λ_=>fL b) (TotX.of (Tot.mono (E:=λx=>(x=.ret 1∧¬fL b)∨(x=.go ()∧fL b)) ?_ ?_)) (λ_ hv=>.ok (.inl ⟨rfl,hv⟩))
  ·refine Tot.guard (bn (by simp[la];omega)) (Tot.range (λi _=>∀(k:Nat) c,k<i→b.Comment[k]? = some c→prn c=true) _ (λk w q=>by omega) (λi y v hy hr=>?_) (λv hr=>.ok (.inr ⟨rfl,hle.1,hle.2,hx,λc hc=>?_⟩)))
   ·unfold la at hy
    rw[List.getElem?_map]at hy
    cases hq:b.Comment[i]? with
    | none=>rw[hq]at hy;cases hy
    | some c =>
     rw[hq]at hy;injection hy with hy;subst hy
     have hp:fA (c.toNat:Int)=some (prn c):=rfl
     rw[hp,aA]
     refine TotX.ite (λh2=>.ret (.inl ⟨rfl,λq=>?_⟩)) (λh2=>.go (λk w hk hw=>?_))
     ·have:=q.2.2.2 c (List.mem_of_getElem? hq)
      rw[this]at h2;cases h2
     ·rcases Nat.lt_or_ge k i with q | q
      ·exact hr k w q hw
      ·obtain rfl:k=i:=by omega
       rw[hq]at hw;injection hw with hw;subst hw
       simpa using h2
   ·obtain⟨k,hk⟩:=List.mem_iff_getElem?.1 hc
    exact hr k c (by have:=az hk;simpa [la] using this) hk
  ·rintro x (⟨rfl,h3⟩|⟨rfl,h3⟩)
   ·exact .inr ⟨rfl,h3⟩
   ·exact h3
theorem findW_mem{b:ac}{c:Int}(h:(findW b c).2=true):∃w∈b.Words,w.Letter=c∧w.Value=(findW b c).1:=by
 unfold findW at *
 cases hf:b.Words.find? (λw=>w.Letter==c)with
 | none=>rw[hf]at h;cases h
 | some w =>
  have h1:=List.find?_some hf
  exact⟨w,List.mem_of_find?_eq_some hf,by simpa using h1,rfl⟩
theorem kw{b:ac}(hv:fL b)(c:Int):-1000000000000≤(findW b c).1∧(findW b c).1≤1000000000000:=by
 cases h:(findW b c).2 with
 | true =>
  obtain⟨w,hw,_,h2⟩:=findW_mem h
  have:=hv.2.2.1 w hw
  unfold okW at this
  omega
 | false =>
  have:(findW b c).1=0:=by
   unfold findW at *
   cases hf:b.Words.find? (λw=>w.Letter==c)with
   | none=>rfl
   | some w=>rw[hf]at h;cases h
  omega
def knW(w:ay):Bool :=
 if w.Letter=77 then [0,1000,3000,4000,5000,6000,8000,9000,30000].contains w.Value
 else if w.Letter=83 then decide (w.Value≥0)
 else [71,84,70,72,78,88,89,90,73,74,81,82].contains w.Letter
theorem all_not{α:Type}(p:α→Bool)(l:List α):(l.any λx=>!(p x))=!(l.all p):=by
 induction l with
 | nil=>rfl
 | cons x l ih=>rw[zZ,List.all_cons,ih];cases p x<;>rfl
theorem known_fin{f:Nat→ay→Unit→Option (Ex (Ex Bool Unit) Unit)}(l:List ay)(hl:l.length≤1000)(hf:∀i x,f i x ()=if (!(knW x))=true then some (.ret (.ret false))else some (.go ())) :
  bindX (aF (okIdx l) (aU f (λ_=>some (.go ())) l 0 ())) (λ(_:Unit)=>some true)=some (l.all knW):=by
 rw[bn (by omega),bO,range_any (r:=false) l 0 hf,all_not]
 cases l.all knW<;>rfl
theorem inp_known_eq(b:ac)(hl:b.Words.length≤1000):ft b=some (b.Words.all knW):=by
 unfold ft
 refine known_fin b.Words hl (λi w=>?_)
 rw[contains_eq _ _ (by decide),aA]
 unfold knW
 by_cases h1:w.Letter=77
 ·rw[h1,if_pos rfl]
  cases h:([0,1000,3000,4000,5000,6000,8000,9000,30000]:List Int).contains w.Value<;>rfl
 ·rw[if_neg h1]
  by_cases h2:w.Letter=83
  ·rw[h2,if_pos rfl]
   by_cases h:w.Value<0
   ·rw[decide_eq_true h,decide_eq_false (show ¬w.Value≥0 by omega)];rfl
   ·rw[decide_eq_false h,decide_eq_true (show w.Value≥0 by omega)];rfl
  ·rw[if_neg h2,beq_false_of_ne h1,beq_false_of_ne h2]
   by_cases a1:w.Letter=71
   ·rw[a1];rfl
   by_cases a2:w.Letter=84
   ·rw[a2];rfl
   by_cases a3:w.Letter=70
   ·rw[a3];rfl
   by_cases a4:w.Letter=72
   ·rw[a4];rfl
   by_cases a5:w.Letter=78
   ·rw[a5];rfl
   by_cases a6:w.Letter=88
   ·rw[a6];rfl
   by_cases a7:w.Letter=89
   ·rw[a7];rfl
   by_cases a8:w.Letter=90
   ·rw[a8];rfl
   by_cases a9:w.Letter=73
   ·rw[a9];rfl
   by_cases b1:w.Letter=74
   ·rw[b1];rfl
   by_cases b2:w.Letter=81
   ·rw[b2];rfl
   by_cases b3:w.Letter=82
   ·rw[b3];rfl
   simp[a1,a2,a3,a4,a5,a6,a7,a8,a9,b1,b2,b3]
def crd(b:ac)(l a d:Int):Int:=if (findW b l).2=true then (if d=90000 then (findW b l).1 else a+(findW b l).1)else a
def tgtW(s:am)(b:ac)(p:ag):ag:=⟨crd b 88 p.X s.Distance,crd b 89 p.Y s.Distance,crd b 90 p.Z s.Distance⟩
theorem crd_bd{b:ac}(hv:fL b){a:Int}(h:-10000000≤a∧a≤10000000)(l d:Int):-1000010000000≤crd b l a d∧crd b l a d≤1000010000000:=by
 have:=kw hv l
 unfold crd
 split
 ·split<;>omega
 ·omega
theorem inp_crd{b:ac}(hv:fL b)(hl:b.Words.length≤1000){a:Int}(h:-10000000≤a∧a≤10000000)(l d:Int):(bindO (gK b l) λ(y:Int×Bool)=>if (!y.2)=true then some a else if (d==90000)=true then some y.1 else some (IntKind.i64.wrap (a+y.1)))=some (crd b l a d):=by
 have:=kw hv l
 rw[gk b l hl,aA]
 unfold crd
 cases (findW b l).2 with
 | false=>rfl
 | true =>
  by_cases hd:d=90000
  ·rw[hd];rfl
  ·rw[beq_false_of_ne hd,if_pos rfl,if_neg hd,wrap_i64 (by omega) (by omega)];rfl
theorem inp_target_eq{s:am}{b:ac}{p:ag}(hv:fL b)(hl:b.Words.length≤1000)(hp:inR p):eX s b p=some (tgtW s b p):=by
 unfold eX
 rw[inp_crd hv hl hp.1,aA,inp_crd hv hl hp.2.1,aA,inp_crd hv hl hp.2.2,aA]
 rfl
def cycB(k:Int):Bool:=(k==81000)||((k==82000)||(k==83000))
def mvV(s:am)(b:ac)(p:ag):au:=⟨if s.Motion=3000 then 4 else 3,tgtW s b p,⟨p.X+(findW b 73).1,p.Y+(findW b 74).1⟩,s.Feed⟩
def iniW(c:ak)(p:ag):Int:=if ((c.Code==0)&&((c.R==0)&&((c.Z==0)&&((c.Q==0)&&((c.Rate==0)&&((c.Initial==0)&&(c.High==false)))))))=true then p.Z else c.Initial
def rdC(s:am)(c:ak)(b:ac)(p:ag):ak :=
 ak.mk s.Motion (if (findW b 82).2=true then (findW b 82).1 else c.R) (if (findW b 90).2=true then (findW b 90).1 else c.Z) (if (findW b 81).2=true then (findW b 81).1 else c.Q) (if (findW b 70).2=true then (findW b 70).1 else s.Feed) (iniW c p) (s.Return==98000)
def reM(m:au):aq:=⟨m.To,m.Rate⟩
def posV(s:am)(c:ak)(b:ac)(p:ag):List aq×ak×Int :=
  if s.Motion=0 then ([⟨tgtW s b p,0⟩],zC,0)
  else if s.Motion=1000 then ([⟨tgtW s b p,s.Feed⟩],zC,0)
  else if cycB s.Motion=true then
    (if cycV (rdC s c b p)≠0 then ([],zC,cycV (rdC s c b p))
     else if (expV (rdC s c b p) p ⟨(tgtW s b p).X,(tgtW s b p).Y⟩).2≠0 then ([],zC,(expV (rdC s c b p) p ⟨(tgtW s b p).X,(tgtW s b p).Y⟩).2)
     else ((expV (rdC s c b p) p ⟨(tgtW s b p).X,(tgtW s b p).Y⟩).1.map reM,rdC s c b p,0))
  else if movV p (mvV s b p)=0 then ((arcL p (mvV s b p)).map λq=>⟨q,s.Feed⟩,zC,0)
  else ([],zC,movV p (mvV s b p))
theorem mvV_ok{s:am}{b:ac}{p:ag}(hv:fL b)(hp:inR p)(hf:i64P s.Feed):okPos p∧okMove (mvV s b p):=by
 obtain⟨p1,p2,p3⟩:=hp
 have a1:=crd_bd hv p1 88 s.Distance
 have a2:=crd_bd hv p2 89 s.Distance
 have a3:=crd_bd hv p3 90 s.Distance
 have b1:=kw hv 73
 have b2:=kw hv 74
 refine⟨⟨gC p1,gC p2,gC p3⟩,?_,⟨?_,?_,?_⟩,?_,?_,hf⟩
 ·unfold mvV i64P;dsimp only;split<;>omega
 ·unfold mvV tgtW i64P;dsimp only;omega
 ·unfold mvV tgtW i64P;dsimp only;omega
 ·unfold mvV tgtW i64P;dsimp only;omega
 ·unfold mvV i64P;dsimp only;omega
 ·unfold mvV i64P;dsimp only;omega
theorem mvV_kind(s:am)(b:ac)(p:ag):(mvV s b p).Kind=3∨(mvV s b p).Kind=4:=by
 unfold mvV;dsimp only;split
 ·exact .inr rfl
 ·exact .inl rfl
theorem arc_ok{p:ag}{m:au}(hk:m.Kind=3∨m.Kind=4)(h:movV p m=0):ArcOk p m:=by
 unfold movV at h
 rw[if_neg (by omega)]at h
 by_cases e2:(m.Kind=3∨m.Kind=4)∧m.Rate>0∧rad p m.Center>0∧rad p m.Center=rad m.To m.Center
 ·rw[if_pos e2]at h
  by_cases f:(far6 p m.To||farP m.Center.X||farP m.Center.Y||farP (m.Center.X+rad p m.Center)||farP (m.Center.X-rad p m.Center)||farP (m.Center.Y+rad p m.Center)||farP (m.Center.Y-rad p m.Center))=true
  ·rw[if_pos f]at h;cases h
  ·have f':(far6 p m.To||farP m.Center.X||farP m.Center.Y||farP (m.Center.X+rad p m.Center)||farP (m.Center.X-rad p m.Center)||farP (m.Center.Y+rad p m.Center)||farP (m.Center.Y-rad p m.Center))=false:=by simpa using f
   simp only[zR,far6]at f'
   obtain⟨⟨⟨⟨⟨⟨⟨⟨⟨⟨⟨g1,g2⟩,g3⟩,g4⟩,g5⟩,g6⟩,fx⟩,fy⟩,h1⟩,h2⟩,h3⟩,h4⟩:=f'
   have k1:=jq h1;have k2:=jq h2;have k3:=jq h3;have k4:=jq h4
   exact⟨hk,jq g1,jq g2,jq g3,jq g4,jq g5,jq g6,jq fx,jq fy,by omega,e2.2.2.2,by omega,by omega⟩
 ·rw[if_neg e2]at h;cases h
theorem ip_Arc_bad{p:ag}{m:au}(hk:m.Kind=3∨m.Kind=4)(hp:okPos p)(hm:okMove m)(h:movV p m≠0):kY p m=some ([],movV p m):=by
 have hQ:cl p m=some (0,movV p m):=by
  unfold cl fV
  have hk':((m.Kind==3)||(m.Kind==4))=true:=by simpa using hk
  rw[hk',aA,if_neg (by simp)]
  show bindO (d4 p m) _=_
  rw[ll hp hm,aA,if_pos (by simpa using h)]
 unfold kY
 show bindO (cl p m) _=_
 rw[hQ,aA,if_pos (by simpa using h)]
theorem map_loop{α β:Type}(g:α→β)(l:List α)(hl:l.length≤1000000):(aF (okIdx l) (aU (λ(i:Nat) (e:α) (v:List β)=>aF (okLen (v.length+1)) (some (.go (v++[g e])))) (λv=>some v) l 0 []))=some (l.map g):=by
 rw[bn (by omega),bO,range_fold (g:=λ(o:List β) (x:α)=>o++[g x]) (R:=λi v=>v.length≤i) (L:=l) ?_ l 0 [] rfl (by simp)]
 ·rw[map_fold];rfl
 ·intro i x v hx hr
  have hlt:=az hx
  rw[bA (by omega),bO]
  exact⟨rfl,by simp;omega⟩
theorem expV_len(c:ak)(p:ag)(g:aG):(expV c p g).1.length≤2010:=by
 unfold expV
 split
 ·split
  ·simp
  ·rename_i h _
   exact cycM_len (jg h) p g
 ·simp
theorem arcL_len{p:ag}{m:au}(h:ArcOk p m):(arcL p m).length≤4000:=by
 have:=h.all
 unfold arcL;simp;omega
theorem posV_len(s:am)(c:ak)(b:ac)(p:ag):(posV s c b p).1.length≤4000:=by
 unfold posV
 split
 ·simp
 ·split
  ·simp
  ·split
   ·split
    ·simp
    ·split
     ·simp
     ·have:=expV_len (rdC s c b p) p ⟨(tgtW s b p).X,(tgtW s b p).Y⟩
      simp;omega
   ·split
    ·rename_i h
     have:=arcL_len (arc_ok (mvV_kind s b p) h)
     simp;omega
    ·simp
theorem inp_positions_eq{s:am}{c:ak}{b:ac}{p:ag}(hv:fL b)(hl:b.Words.length≤1000)(hp:inR p)(hf:i64P s.Feed):da s c b p=some (posV s c b p):=by
 unfold da posV
 rw[show ac.mk b.Skip b.Words b.Comment=b from rfl,inp_target_eq hv hl hp,aA]
 by_cases m0:s.Motion=0
 ·rw[if_pos (by simpa using m0),if_pos m0];rfl
 rw[if_neg (by simpa using m0),if_neg m0]
 by_cases m1:s.Motion=1000
 ·rw[if_pos (by simpa using m1),if_pos m1];rfl
 rw[if_neg (by simpa using m1),if_neg m1]
 unfold dj
 rw[aA]
 by_cases mc:cycB s.Motion=true
 ·rw[if_pos (show ((s.Motion==81000)||((s.Motion==82000)||(s.Motion==83000)))=true from mc),if_pos mc]
  have hcan:eg s c b p (tgtW s b p)=some (if cycV (rdC s c b p)≠0 then ([],zC,cycV (rdC s c b p))
    else if (expV (rdC s c b p) p ⟨(tgtW s b p).X,(tgtW s b p).Y⟩).2≠0 then ([],zC,(expV (rdC s c b p) p ⟨(tgtW s b p).X,(tgtW s b p).Y⟩).2)
    else ((expV (rdC s c b p) p ⟨(tgtW s b p).X,(tgtW s b p).Y⟩).1.map reM,rdC s c b p,0)):=by
   unfold eg
   have hi:(if (!((c.Code==0)&&((c.R==0)&&((c.Z==0)&&((c.Q==0)&&((c.Rate==0)&&((c.Initial==0)&&(c.High==false))))))))=true then some c.Initial else some p.Z)=some (iniW c p):=by
    unfold iniW
    cases ((c.Code==0)&&((c.R==0)&&((c.Z==0)&&((c.Q==0)&&((c.Rate==0)&&((c.Initial==0)&&(c.High==false)))))))<;>rfl
   obtain⟨n,hn,hn2⟩:=cy_Read_same b s.Motion s.Feed (iniW c p) (s.Return==98000) c hl
   have hn3:n=rdC s c b p:=hn2
   subst hn3
   rw[hi,aA,hn,aA]
   by_cases z:cycV (rdC s c b p)=0
   ·rw[if_pos z,if_neg (by simp),cy_Expand_one,aA,if_neg (show ¬(cycV (rdC s c b p)≠0) by simpa using z)]
    by_cases y:(expV (rdC s c b p) p ⟨(tgtW s b p).X,(tgtW s b p).Y⟩).2=0
    ·rw[if_neg (by simpa using y),if_neg (by simpa using y),map_loop (λe:au=>aq.mk e.To e.Rate) _ (Nat.le_trans (expV_len (rdC s c b p) p ⟨(tgtW s b p).X,(tgtW s b p).Y⟩) (by decide)),aA]
     rfl
    ·rw[if_pos (by simpa using y),if_pos (by simpa using y)];rfl
   ·rw[if_neg z,if_pos (by simpa using z),if_pos z];rfl
  show bindO (eg s c b p (tgtW s b p)) _=_
  rw[hcan,aA]
 ·rw[if_neg (show ¬((s.Motion==81000)||((s.Motion==82000)||(s.Motion==83000)))=true from mc),if_neg mc]
  obtain⟨op,om⟩:=mvV_ok (s:=s) hv hp hf
  have hb1:=kw hv 73
  have hb2:=kw hv 74
  obtain⟨p1,p2,p3⟩:=hp
  have harc:jT s b p (tgtW s b p)=some (if movV p (mvV s b p)=0 then ((arcL p (mvV s b p)).map λq=>⟨q,s.Feed⟩,0)else ([],movV p (mvV s b p))):=by
   unfold jT
   rw[gY b 73 hl,aA,gY b 74 hl,aA]
   have hk:(if (s.Motion==3000)=true then some (4:Int)else some 3)=some (if s.Motion=3000 then 4 else 3):=by
    by_cases q:s.Motion=3000
    ·rw[if_pos (by simpa using q),if_pos q]
    ·rw[if_neg (by simpa using q),if_neg q]
   rw[hk,aA,wrap_i64 (n:=p.X+(findW b 73).1) (by omega) (by omega),wrap_i64 (n:=p.Y+(findW b 74).1) (by omega) (by omega)]
   show bindO (kY p (mvV s b p)) _=_
   by_cases z:movV p (mvV s b p)=0
   ·have ok:=arc_ok (mvV_kind s b p) z
    rw[ip_Arc_eq ok op om z,aA,if_pos z,map_loop (λe:ag=>aq.mk e s.Feed) _ (Nat.le_trans (arcL_len ok) (by decide)),aA]
   ·rw[ip_Arc_bad (mvV_kind s b p) op om z,aA,if_neg z]
    rfl
  show bindO (jT s b p (tgtW s b p)) _=_
  rw[harc,aA]
  by_cases z:movV p (mvV s b p)=0
  ·rw[if_pos z,if_pos z];rfl
  ·rw[if_neg z,if_neg z];rfl
def machV(t:aw)(w n:Int)(q:ag):ag×Int:=(cz t w n q).getD (⟨0,0,0⟩,1)
theorem machV_eq{t:aw}(ht:t.Lengths.length≤1000)(w n:Int)(q:ag):cz t w n q=some (machV t w n q):=by
 obtain⟨e,h,_⟩:=kK t w n q ht
 unfold machV;rw[h];rfl
def addM(r:ag)(rate tool i:Int)(v:List ao×ag):List ao×ag:=(if (!posEq r v.2)=true then v.1++[ao.mk v.2 r rate tool i]else v.1,r)
def runM(t:aw)(w n tool i:Int):List aq→List ao×ag→Ex Int (List ao×ag)
 | [],v=>.go v
 | x::l,v=>if (machV t w n x.at_).2≠0 then .ret (machV t w n x.at_).2 else runM t w n tool i l (addM (machV t w n x.at_).1 x.rate tool i v)
theorem addM_len(r:ag)(rate tool i:Int)(v:List ao×ag):(addM r rate tool i v).1.length≤v.1.length+1:=by
 unfold addM;dsimp only;split<;>simp
theorem runM_ret(t:aw)(w n tool i:Int):∀(l:List aq) (v:List ao×ag) (e:Int),runM t w n tool i l v=.ret e→e≠0
 | [],v,e,h=>by cases h
 | x::l,v,e,h=>by
  simp only[runM]at h
  by_cases q:(machV t w n x.at_).2=0
  ·rw[if_neg (by simpa using q)]at h
   exact runM_ret t w n tool i l _ e h
  ·rw[if_pos q]at h
   injection h with h
   rw[←h];exact q
theorem run_loop{α σ ε:Type}{f:Nat→α→σ→Option (Ex ε σ)}{d:σ→Option ε}{t:aw}{w n tool i:Int}(emb:List ao×ag→σ)(pr:α→aq)(g:Int→ε)
  (hf:∀(k:Nat) x (v:List ao×ag),v.1.length≤300000→f k x (emb v)=some (if (machV t w n (pr x).at_).2≠0 then .ret (g (machV t w n (pr x).at_).2)else .go (emb (addM (machV t w n (pr x).at_).1 (pr x).rate tool i v)))) :
  ∀(l:List α) (k:Nat) (v:List ao×ag),v.1.length+l.length≤300000→aU f d l k (emb v)=match runM t w n tool i (l.map pr) v with | .ret e=>some (g e) | .go u=>d (emb u)
 | [],k,v,_=>rfl
 | x::l,k,v,hv=>by
  simp only[List.length_cons]at hv
  simp only[aU,hf k x v (by omega),List.map_cons,runM]
  by_cases h:(machV t w n (pr x).at_).2=0
  ·rw[if_neg (by simpa using h),if_neg (by simpa using h)]
   have:=addM_len (machV t w n (pr x).at_).1 (pr x).rate tool i v
   exact run_loop emb pr g hf l (k+1) _ (by omega)
  ·rw[if_pos h,if_pos h]
theorem run_fin{R:Type}{f:Nat→aq→List ao×ag→Option (Ex (Ex R (List ao×ag)) (List ao×ag))}{L:List aq}{v:List ao×ag}{k:List ao×ag→Option R}(t:aw)(w n tool i:Int)(g:Int→R)(hL:v.1.length+L.length≤300000)
  (hf:∀(j:Nat) x (v:List ao×ag),v.1.length≤300000→f j x v=some (if (machV t w n x.at_).2≠0 then .ret (.ret (g (machV t w n x.at_).2))else .go (addM (machV t w n x.at_).1 x.rate tool i v))) :
  bindX (aF (okIdx L) (aU f (λv=>some (.go (v.1,v.2))) L 0 v)) k=match runM t w n tool i L v with | .ret e=>some (g e) | .go u=>k u:=by
 have h:=run_loop (t:=t) (w:=w) (n:=n) (tool:=tool) (i:=i) (f:=f) (d:=λv=>some (.go (v.1,v.2))) (λv=>v) (λx=>x) (λe=>Ex.ret (g e)) hf L 0 v hL
 rw[bn (by omega),bO,h,List.map_id']
 cases runM t w n tool i L v<;>rfl
theorem unit_s{β:Type}(f:Unit→Option β):bindO (some ()) f=f ():=rfl
theorem ijqr(hI hQ cy a b:Bool):(if hI=true then (if a=true then (if b=true then some true else if hQ=true then some (!cy)else some false)else if hQ=true then some (!cy)else some false)else if hQ=true then some (!cy)else some false)=some ((hI&&a&&b)||(hQ&&!cy)):=by
 cases hI<;>cases hQ<;>cases cy<;>cases a<;>cases b<;>rfl
theorem put_feed{s:am}{w:ay}(h:i64P s.Feed)(hw:i64P w.Value):i64P (putW s w).Feed:=by
 unfold putW
 by_cases h1:w.Letter=71
 ·rw[if_pos h1]
  by_cases g1:grp w.Value=1
  ·rw[if_pos g1];exact h
  ·rw[if_neg g1]
   by_cases g2:grp w.Value=2
   ·rw[if_pos g2];exact h
   ·rw[if_neg g2]
    by_cases g3:grp w.Value=3
    ·rw[if_pos g3];exact h
    ·rw[if_neg g3]
     by_cases g4:grp w.Value=4
     ·rw[if_pos g4];exact h
     ·rw[if_neg g4];exact h
 ·rw[if_neg h1]
  by_cases h2:w.Letter=70
  ·rw[if_pos h2];exact hw
  ·rw[if_neg h2]
   by_cases h3:w.Letter=84
   ·rw[if_pos h3];exact h
   ·rw[if_neg h3]
    by_cases h4:w.Letter=72
    ·rw[if_pos h4];exact h
    ·rw[if_neg h4];exact h
theorem fold_feed:∀(l:List ay) (s:am),i64P s.Feed→(∀w∈l,i64P w.Value)→i64P (l.foldl putW s).Feed
 | [],_,h,_=>h
 | w::l,s,h,hw=>fold_feed l _ (put_feed h (hw w (by simp))) (λx hx=>hw x (by simp[hx]))
def failP(e:Int):List ao×am×ak×Int:=([],zS,zC,e)
def eN(b:ac):Prop:=fL b∧goodW [] b.Words=true∧b.Words.all knW=true
def numP(s:am):Int:=if s.Length=43000 then IntKind.i64.wrap (zW s.Offset 1000)else 0
def workV(t:aw)(w n:Int)(q:ag):ag×Int:=(iL t w n q).getD (⟨0,0,0⟩,1)
theorem workV_eq{t:aw}(ht:t.Lengths.length≤1000)(w n:Int)(q:ag):iL t w n q=some (workV t w n q):=by
 obtain⟨e,h,_⟩:=lc t w n q ht
 unfold workV;rw[h];rfl
theorem workV_in{t:aw}(ht:t.Lengths.length≤1000)(w n:Int)(q:ag)(h0:(workV t w n q).2=0):inR (workV t w n q).1:=by
 obtain⟨e,h,h2⟩:=lc t w n q ht
 have:=workV_eq ht w n q
 rw[h]at this
 injection this with this
 rw[←this]at h0 ⊢
 exact h2 h0
def toolP(s:am):Int:=IntKind.i64.wrap (zW s.Tool 1000)
def moveP(s:am)(c:ak)(b:ac)(t:aw)(p:ag):List ao×am×ak×Int :=
 if ((hasW b [73,74]&&(s.Motion != 2000)&&(s.Motion != 3000))||(hasW b [81,82]&&!(cycB s.Motion)))=true then failP 1
 else if ((s.Motion==80000)||((s.Motion != 0)&&(decide (s.Feed≤0))))=true then failP 13
 else if (workV t s.Work (numP s) p).2≠0 then failP (workV t s.Work (numP s) p).2
 else if (posV s c b (workV t s.Work (numP s) p).1).2.2≠0 then failP (posV s c b (workV t s.Work (numP s) p).1).2.2
 else match runM t s.Work (numP s) (toolP s) 0 (posV s c b (workV t s.Work (numP s) p).1).1 ([],p)with
  | .ret e=>failP e
  | .go u=>(u.1,s,(posV s c b (workV t s.Work (numP s) p).1).2.1,0)
open Classical in
noncomputable def stepP(s:am)(c:ak)(b:ac)(t:aw)(p:ag):List ao×am×ak×Int :=
  if eN b then
    (if hasW b [88,89,90,73,74,81,82]=true then moveP (b.Words.foldl putW s) (if cycB (b.Words.foldl putW s).Motion=true then c else zC) b t p
     else ([],b.Words.foldl putW s,if cycB (b.Words.foldl putW s).Motion=true then c else zC,0))
  else failP 1
theorem inp_Step_eq {s : am} {c : ak} {b : ac} {t : aw} {p : ag} (hb : okS b) (ht : t.Lengths.length ≤ 1000) (hF : i64P s.Feed) (hchk : bC t p = some 0) :
    fW s c b t p=some (stepP s c b t p):=by
  obtain⟨hu,hl,hc⟩:=hb
  have hok:okB b:=⟨hu,by omega⟩
  obtain⟨ew,hbk,hew⟩:=bk_Valid_vp b hl hc
  have hbad:(bindO (gc b) λ(y2:Int)=>if (y2 != 0)=true then some true else bindO (iY b) λ(y3:Int)=>if (y3 != 0)=true then some true else bindO (ft b) λ(y4:Bool)=>some (!y4))=some (!(decide (ew=0)&&(goodW [] b.Words&&b.Words.all knW))):=by
    rw[hbk,aA]
    by_cases q:ew=0
    · rw[if_neg (by simpa using q),decide_eq_true q,Bool.true_and,lj b hu (by omega),aA]
      cases goodW [] b.Words with
      | false=>rfl
      | true=>rw[if_pos rfl,if_neg (by decide),inp_known_eq b hl,aA,Bool.true_and]
    · rw[if_pos (by simpa using q),decide_eq_false q];rfl
  unfold fW
  simp only[unit_s]
  rw[hchk,aA,if_neg (show ¬(((0:Int) != 0)=true) by decide),hbad,aA]
  unfold stepP
  by_cases hv:eN b
  · rw[if_pos hv]
    obtain⟨v1,v2,v3⟩:=hv
    have e0:ew=0:=by
      rcases hew with⟨z,_⟩|⟨_,z⟩
      · exact z
      · exact absurd v1 z
    rw[e0,v2,v3,decide_eq_true rfl,if_neg (show ¬((!(true&&(true&&true)))=true) by decide),md_Apply_eq s b hok,aA,if_pos v2]
    have hF1:=fold_feed b.Words s hF (λw hw=>by
      have:=v1.2.2.1 w hw
      unfold okW at this
      unfold i64P;omega)
    generalize b.Words.foldl putW s=s1 at hF1
    dsimp only
    rw[if_neg (show ¬(((0:Int) != 0)=true) by decide)]
    have cI:∀k,dj k=some (cycB k):=λ_=>rfl
    simp only[cI,aA]
    obtain⟨c1,hc1⟩:∃c1,(if cycB s1.Motion=true then c else zC)=c1:=⟨_,rfl⟩
    have i1:(if (!cycB s1.Motion)=true then some (ak.mk 0 0 0 0 0 0 false)else some (ak.mk c.Code c.R c.Z c.Q c.Rate c.Initial c.High))=some c1:=by
      rw[←hc1]
      cases cycB s1.Motion<;>rfl
    have a1:fI b [88,89,90,73,74,81,82]=some (hasW b [88,89,90,73,74,81,82]):=gj b _ hl (by decide)
    have a2:fI b [73,74]=some (hasW b [73,74]):=gj b _ hl (by decide)
    have a3:fI b [81,82]=some (hasW b [81,82]):=gj b _ hl (by decide)
    rw[i1,aA,hc1]
    simp only[a1,a2,a3,aA]
    cases hXYZ:hasW b [88,89,90,73,74,81,82]with
    | false=>rfl
    | true =>
      rw[if_neg (show ¬((!true)=true) by decide),if_pos rfl,ijqr,aA]
      unfold moveP
      cases hbad2:((hasW b [73,74]&&(s1.Motion != 2000)&&(s1.Motion != 3000))||(hasW b [81,82]&&!(cycB s1.Motion)))with
      | true=>rfl
      | false =>
        rw[if_neg (show ¬(false=true) by decide),if_neg (show ¬(false=true) by decide)]
        cases hst:((s1.Motion==80000)||((s1.Motion != 0)&&(decide (s1.Feed≤0))))with
        | true=>rfl
        | false =>
          rw[if_neg (show ¬(false=true) by decide),if_neg (show ¬(false=true) by decide)]
          have hn:(if (s1.Length==43000)=true then some (IntKind.i64.wrap (zW s1.Offset 1000))else some 0)=some (numP s1):=by
            unfold numP
            by_cases q:s1.Length=43000
            · rw[if_pos (by simpa using q),if_pos q]
            · rw[if_neg (by simpa using q),if_neg q]
          rw[hn,aA,show aw.mk t.Work t.Lengths=t from rfl,workV_eq ht,aA]
          have hin:=workV_in ht s1.Work (numP s1) p
          generalize workV t s1.Work (numP s1) p=wp at hin ⊢
          by_cases w0:wp.2=0
          · rw[if_neg (show ¬((wp.2 != 0)=true) by simpa using w0),if_neg (show ¬(wp.2≠0) by simpa using w0),show ac.mk b.Skip b.Words b.Comment=b from rfl,inp_positions_eq v1 hl (hin w0) hF1,aA]
            have hlenV:=posV_len s1 c1 b wp.1
            generalize posV s1 c1 b wp.1=pv at hlenV ⊢
            obtain⟨fl,d,e⟩:=pv
            dsimp only at hlenV ⊢
            by_cases e0:e=0
            · rw[if_neg (show ¬((e != 0)=true) by simpa using e0),if_neg (show ¬(e≠0) by simpa using e0)]
              rw[run_fin t s1.Work (numP s1) (toolP s1) 0 (λe=>failP e) (by simpa using (show fl.length≤300000 by omega))]
              · cases runM t s1.Work (numP s1) (toolP s1) 0 fl ([],p)<;>rfl
              · intro j x v hv3
                rw[machV_eq ht,aA]
                by_cases z:(machV t s1.Work (numP s1) x.at_).2=0
                · rw[if_neg (show ¬(((machV t s1.Work (numP s1) x.at_).2 != 0)=true) by simpa using z),if_neg (show ¬((machV t s1.Work (numP s1) x.at_).2≠0) by simpa using z)]
                  unfold addM posEq
                  rw[bA (by omega),bO]
                  cases (((machV t s1.Work (numP s1) x.at_).1.X==v.2.X)&&(((machV t s1.Work (numP s1) x.at_).1.Y==v.2.Y)&&((machV t s1.Work (numP s1) x.at_).1.Z==v.2.Z)))<;>rfl
                · rw[if_pos (show ((machV t s1.Work (numP s1) x.at_).2 != 0)=true by simpa using z),if_pos (show (machV t s1.Work (numP s1) x.at_).2≠0 by simpa using z)]
                  rfl
            · rw[if_pos (show (e != 0)=true by simpa using e0),if_pos e0]
              rfl
          · rw[if_pos (show (wp.2 != 0)=true by simpa using w0),if_pos w0]
            rfl
  · rw[if_neg hv]
    have hf:(decide (ew=0)&&(goodW [] b.Words&&b.Words.all knW))=false:=by
      cases z:(decide (ew=0)&&(goodW [] b.Words&&b.Words.all knW))with
      | false=>rfl
      | true =>
        simp only[Bool.and_eq_true,decide_eq_true_eq]at z
        refine absurd ?_ hv
        rcases hew with⟨_,y⟩|⟨y,_⟩
        · exact⟨y,z.2.1,z.2.2⟩
        · omega
    rw[hf];rfl
theorem moved_back{p o q:ag}{s:Int}(hs:s=1∨s=-1)(b1:-30000000≤o.X∧o.X≤30000000)(b2:-30000000≤o.Y∧o.Y≤30000000)(b3:-30000000≤o.Z∧o.Z≤30000000)(h:eZ p o s=some (q,0)):eZ q o (-s)=some (p,0):=by
 unfold eZ at h ⊢
 rw[gw,aA]at h
 by_cases hp:inR p
 ·rw[decide_eq_true hp]at h
  simp only[zN,zA,if_false]at h
  rw[gw,aA]at h
  have hp':=hp
  unfold inR at hp'
  obtain⟨x,y,z⟩:=p
  obtain⟨a,b,c⟩:=o
  simp only at hp' b1 b2 b3 h
  have w1:∀u v:Int,(-10000000≤u∧u≤10000000)→(-30000000≤v∧v≤30000000)→IntKind.i64.wrap (u+IntKind.i64.wrap (s*v))=u+s*v:=λu v hu hv=>by
   rcases hs with rfl | rfl
   ·rw[wrap_i64 (n:=1*v) (by omega) (by omega),wrap_i64 (by omega) (by omega)]
   ·rw[wrap_i64 (n:=-1*v) (by omega) (by omega),wrap_i64 (by omega) (by omega)]
  have w2:∀u v:Int,(-10000000≤u∧u≤10000000)→(-30000000≤v∧v≤30000000)→IntKind.i64.wrap (u+s*v+IntKind.i64.wrap (-s*v))=u:=λu v hu hv=>by
   rcases hs with rfl | rfl
   ·rw[wrap_i64 (n:=-1*v) (by omega) (by omega),wrap_i64 (by omega) (by omega)];omega
   ·rw[wrap_i64 (n:=- -1*v) (by omega) (by omega),wrap_i64 (by omega) (by omega)];omega
  rw[w1 x a hp'.1 b1,w1 y b hp'.2.1 b2,w1 z c hp'.2.2 b3]at h
  by_cases hq:inR (ag.mk (x+s*a) (y+s*b) (z+s*c))
  ·rw[decide_eq_true hq]at h
   simp only[zN,zA,if_false]at h
   injection h with h;injection h with h _
   subst h
   rw[gw,aA,decide_eq_true hq]
   simp only[zN,zA,if_false]
   rw[gw,aA,w2 x a hp'.1 b1,w2 y b hp'.2.1 b2,w2 z c hp'.2.2 b3,decide_eq_true hp]
   rfl
  ·rw[decide_eq_false hq]at h
   simp only[Bool.not_false,if_true]at h
   injection h with h;injection h with _ h;cases h
 ·rw[decide_eq_false hp]at h
  simp only[Bool.not_false,if_true]at h
  injection h with h;injection h with _ h;cases h
theorem mach_back{t:aw}{c n:Int}{p q:ag}(hl:t.Lengths.length≤1000)(h:cz t c n p=some (q,0)):iL t c n q=some (p,0):=by
 unfold cz at h
 unfold iL
 try rw[show aw.mk t.Work t.Lengths=t from rfl]at h
 try rw[show aw.mk t.Work t.Lengths=t from rfl]
 obtain⟨r,hr,hb⟩:=iJ t c n hl
 rw[hr,aA]at h ⊢
 cases he:(r.2 != 0)with
 | true =>
  rw[he]at h
  simp only[if_true]at h
  injection h with h;injection h with _ h
  rw[h]at he;cases he
 | false =>
  rw[he]at h
  have h0:=hb (by simpa using he)
  simp only[zA,if_false]at h ⊢
  obtain⟨m,hm,_⟩:=jC p r.1 1
  rw[hm,aA]at h
  injection h with h
  rw[show m=(q,0) from h]at hm
  rw[moved_back (.inl rfl) (by omega) (by omega) (by omega) hm];rfl
theorem stepT_P{s:am}{c:ak}{b:ac}{t:aw}{p:ag}(hb:okS b)(ht:t.Lengths.length≤1000)(hF:i64P s.Feed)(hchk:bC t p=some 0):stepT s c b t p=stepP s c b t p:=by
 have h:=stepT_eq (s:=s) (c:=c) (p:=p) hb ht
 rw[inp_Step_eq hb ht hF hchk]at h
 injection h with h
 exact h.symm
theorem checked_0{t:aw}{p:ag}(hv:ey t=some 0)(hp:inR p):bC t p=some 0:=by
 unfold bC
 rw[show aw.mk t.Work t.Lengths=t from rfl,hv,aA,inp_inside_eq,aA,decide_eq_true hp]
 rfl
theorem machV_back{t:aw}(ht:t.Lengths.length≤1000){w n:Int}{q:ag}(h0:(machV t w n q).2=0):workV t w n (machV t w n q).1=(q,0):=by
 have h1:=machV_eq ht w n q
 have h2:cz t w n q=some ((machV t w n q).1,0):=by rw[h1];congr 1;rw[←h0]
 have h3:=mach_back ht h2
 rw[workV_eq ht]at h3
 injection h3
def addP(p d:ag):ag:=⟨p.X+d.X,p.Y+d.Y,p.Z+d.Z⟩
def rglS(s:am):Prop:=grp s.Motion=1∧grp s.Distance=2∧grp s.Work=3∧grp s.Length=4∧grp s.Return=5∧(0≤s.Feed∧s.Feed≤1000000000000)∧(0≤s.Tool∧s.Tool≤1000000000000∧zV s.Tool 1000=0)∧(0≤s.Offset∧s.Offset≤1000000000000∧zV s.Offset 1000=0)
theorem rgl_new:rglS newS:=by
 refine⟨by decide,by decide,by decide,by decide,by decide,⟨by decide,by decide⟩,⟨by decide,by decide,by decide⟩,by decide,by decide,by decide⟩
theorem rgl_put{s:am}{w:ay}(h:rglS s)(h0:clsW w≠0)(h1:fK w=true)(h2:okW w):rglS (putW s w):=by
 obtain⟨a1,a2,a3,a4,a5,a6,a7,a8⟩:=h
 obtain⟨b1,b2,b3,b4⟩:=h2
 unfold putW
 unfold clsW at h0
 unfold fK at h1
 by_cases q1:w.Letter=71
 ·rw[if_pos q1]at h0 ⊢
  rcases grp_in w.Value with z | z | z | z | z | z
  ·exact absurd z h0
  ·rw[if_pos z];exact⟨z,a2,a3,a4,a5,a6,a7,a8⟩
  ·rw[if_neg (by omega),if_pos z];exact⟨a1,z,a3,a4,a5,a6,a7,a8⟩
  ·rw[if_neg (by omega),if_neg (by omega),if_pos z];exact⟨a1,a2,z,a4,a5,a6,a7,a8⟩
  ·rw[if_neg (by omega),if_neg (by omega),if_neg (by omega),if_pos z];exact⟨a1,a2,a3,z,a5,a6,a7,a8⟩
  ·rw[if_neg (by omega),if_neg (by omega),if_neg (by omega),if_neg (by omega)];exact⟨a1,a2,a3,a4,z,a6,a7,a8⟩
 ·rw[if_neg q1]
  by_cases q2:w.Letter=70
  ·rw[if_pos q2]at h1 ⊢
   simp at h1
   exact⟨a1,a2,a3,a4,a5,⟨h1,b4⟩,a7,a8⟩
  ·rw[if_neg q2]at h1 ⊢
   by_cases q3:w.Letter=84
   ·rw[if_pos (.inl q3)]at h1
    rw[if_pos q3]
    simp at h1
    exact⟨a1,a2,a3,a4,a5,a6,⟨h1.1,b4,h1.2⟩,a8⟩
   ·rw[if_neg q3]
    by_cases q4:w.Letter=72
    ·rw[if_pos (.inr q4)]at h1
     rw[if_pos q4]
     simp at h1
     exact⟨a1,a2,a3,a4,a5,a6,a7,h1.1,b4,h1.2⟩
    ·rw[if_neg q4];exact⟨a1,a2,a3,a4,a5,a6,a7,a8⟩
theorem rgl_fold:∀(l:List ay) (seen:List Int) (s:am),rglS s→goodW seen l=true→(∀w∈l,okW w)→rglS (l.foldl putW s)
 | [],_,s,h,_,_=>h
 | w::l,seen,s,h,hg,ho=>by
  simp only[goodW,Bool.and_eq_true,bne_iff_ne,ne_eq]at hg
  exact rgl_fold l (clsW w::seen) (putW s w) (rgl_put h hg.1.1.1 hg.1.1.2 (ho w (by simp))) hg.2 (λx hx=>ho x (by simp[hx]))
theorem step_keeps{s:am}{c:ak}{b:ac}{t:aw}{p:ag}(h:rglS s)(hb:okS b)(ht:t.Lengths.length≤1000)(hchk:bC t p=some 0)(h0:(stepT s c b t p).2.2.2=0) :
  eN b∧(stepT s c b t p).2.1=b.Words.foldl putW s∧(cycB (b.Words.foldl putW s).Motion=false→(stepT s c b t p).2.2.1=zC):=by
 have hF:i64P s.Feed:=by obtain⟨_,_,_,_,_,a6,_⟩:=h;unfold i64P;omega
 rw[stepT_P hb ht hF hchk]at h0 ⊢
 unfold stepP at h0 ⊢
 by_cases hv:eN b
 ·rw[if_pos hv]at h0 ⊢
  refine⟨hv,?_⟩
  generalize b.Words.foldl putW s=s1 at h0 ⊢
  by_cases hx:hasW b [88,89,90,73,74,81,82]=true
  ·rw[if_pos hx]at h0 ⊢
   generalize (if cycB s1.Motion=true then c else zC)=c1 at h0 ⊢
   unfold moveP at h0 ⊢
   have hf:∀e:Int,(failP e).2.2.2=e:=λ_=>rfl
   split at h0
   ·rw[hf]at h0;omega
   ·rename_i q1
    rw[if_neg q1]
    split at h0
    ·rw[hf]at h0;omega
    ·rename_i q2
     rw[if_neg q2]
     split at h0
     ·rename_i q3;rw[hf]at h0;exact absurd h0 q3
     ·rename_i q3
      rw[if_neg q3]
      split at h0
      ·rename_i q4;rw[hf]at h0;exact absurd h0 q4
      ·rename_i q4
       rw[if_neg q4]
       have hpz:cycB s1.Motion=false→(posV s1 c1 b (workV t s1.Work (numP s1) p).1).2.1=zC:=λz=>by
        unfold posV
        split
        ·rfl
        ·split
         ·rfl
         ·rw[if_neg (by simp[z])]
          split<;>rfl
       cases hr:runM t s1.Work (numP s1) (toolP s1) 0 (posV s1 c1 b (workV t s1.Work (numP s1) p).1).1 ([],p)with
       | ret e=>rw[hr]at h0;exact absurd h0 (runM_ret _ _ _ _ _ _ _ _ hr)
       | go u=>exact⟨rfl,hpz⟩
  ·rw[if_neg hx]at h0 ⊢
   exact⟨rfl,λz=>by simp[z]⟩
 ·rw[if_neg hv]at h0
  cases h0
theorem valid_of_checked{t:aw}{p:ag}(ht:t.Lengths.length≤1000)(h:bC t p=some 0):ey t=some 0∧inR p:=by
 obtain⟨e,he,h2⟩:=jS t p ht
 rw[he]at h
 injection h with h
 refine⟨?_,h2 h⟩
 subst h
 unfold bC at he
 rw[show aw.mk t.Work t.Lengths=t from rfl]at he
 obtain⟨e,hv,_⟩:=jF t ht
 rw[hv,aA]at he
 by_cases q:e=0
 ·rw[hv,q]
 ·rw[if_pos (by simpa using q)]at he
  injection he with he
  cases he
end Go.Proofs.YtplhejpjnfjopaaGreatDoor
