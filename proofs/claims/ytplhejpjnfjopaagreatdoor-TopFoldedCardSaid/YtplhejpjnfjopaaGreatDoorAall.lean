/-
  Na, Qx, Qe, Vx, Vy, Vz, Wx in one text.
-/
import Derived.Test.YtplhejpjnfjopaaGreatDoorMB
import Derived.Test.YtplhejpjnfjopaaGreatDoorPz
import Derived.Test.YtplhejpjnfjopaaGreatDoorMH
import Derived.Test.YtplhejpjnfjopaaGreatDoorMwe
open Bool renaming false_eq_true → zA,or_eq_false_iff → zN,not_true → zO,and_assoc → zX,false_or → kN
open Int renaming tdiv_eq_ediv_of_nonneg → zB,mul_nonneg → zE,mul_le_mul → zF,mul_assoc → zG,mul_le_mul_of_nonneg_left → zI,ediv_nonneg → zK,add_mul → zL,ediv_lt_of_lt_mul → zM,tmod → kP
open List renaming contains_cons → zD,cons_append → zH,take_add_one → zJ,not_mem_nil → zP,length_cons → zQ,nil_append → zR,mem_append → zT,length_nil → zU,foldl_cons → zV,mem_cons → zZ,map_cons → kO
open Go.IntKind renaming i64 → kR
namespace Go.Proofs.YtplhejpjnfjopaaGreatDoor
open Go.RowKit
def codes1:List Int:=[0,1000,2000,3000,80000,81000,82000,83000]
def codes2:List Int:=[90000,91000]
def codes3:List Int:=[54000,55000,56000,57000,58000,59000]
def codes4:List Int:=[43000,49000]
def codes5:List Int:=[98000,99000]
def grp(c:Int):Int:=if c∈codes1 then 1 else if c∈codes2 then 2 else if c∈codes3 then 3 else if c∈codes4 then 4 else if c∈codes5 then 5 else 0
theorem grp_cases(c:Int):(c∈codes1++codes2++codes3++codes4++codes5)∨(c∉codes1++codes2++codes3++codes4++codes5):=Decidable.em _
theorem ix(c:Int):iy c=some (grp c):=by
 rcases grp_cases c with h | h
 ·simp only[codes1,codes2,codes3,codes4,codes5,zH,zR,zZ,zP,or_false]at h
  rcases h with h | h | h | h | h | h | h | h | h | h | h | h | h | h | h | h | h | h | h | h<;>(subst h;decide)
 ·simp only[codes1,codes2,codes3,codes4,codes5,zH,zR,zZ,zP,or_false,not_or]at h
  have e:∀k:Int,c≠k→(c==k)=false:=λk hk=>by simpa using hk
  simp[iy,grp,codes1,codes2,codes3,codes4,codes5,e,h]
theorem grp_in(c:Int):grp c=0∨grp c=1∨grp c=2∨grp c=3∨grp c=4∨grp c=5:=by
 unfold grp
 by_cases h1:c∈codes1
 ·simp[h1]
 by_cases h2:c∈codes2
 ·simp[h1,h2]
 by_cases h3:c∈codes3
 ·simp[h1,h2,h3]
 by_cases h4:c∈codes4
 ·simp[h1,h2,h3,h4]
 by_cases h5:c∈codes5
 ·simp[h1,h2,h3,h4,h5]
 ·simp[h1,h2,h3,h4,h5]
def putW(s:ar)(w:aw):ar :=
 if w.Letter=71 then (if grp w.Value=1 then { s with Motion:=w.Value }else if grp w.Value=2 then { s with Distance:=w.Value }else if grp w.Value=3 then { s with Work:=w.Value }else if grp w.Value=4 then { s with Length:=w.Value }else { s with Return:=w.Value })
 else if w.Letter=70 then { s with Feed:=w.Value }else if w.Letter=84 then { s with Tool:=w.Value }else if w.Letter=72 then { s with Offset:=w.Value }else s
theorem md_put_eq(s:ar)(w:aw)(h:w.Letter=71→grp w.Value≠0):md_put s w=some (putW s w):=by
 unfold md_put putW
 by_cases h1:w.Letter=71
 ·have h0:=h h1
  rcases grp_in w.Value with q | q | q | q | q | q
  ·exact absurd q h0
  all_goals (simp[h1,ix,q];rfl)
 ·by_cases h2:w.Letter=70
  ·simp[h2]
  ·by_cases h3:w.Letter=84
   ·simp[h3]
   ·by_cases h4:w.Letter=72<;>simp[h1,h2,h3,h4]
def clsW(w:aw):Int:=if w.Letter=71 then grp w.Value else 10+w.Letter
def wholeW(w:aw):Bool:=if w.Letter=70 then decide (w.Value≥0)else if w.Letter=84∨w.Letter=72 then decide (w.Value≥0)&&kP w.Value 1000==0 else true
def u8W(w:aw):Prop:=0≤w.Letter∧w.Letter≤255
def goodW:List Int→List aw→Bool
 | _,[]=>true
 | seen,w::r=>clsW w != 0&&wholeW w&&!(seen.contains (clsW w))&&goodW (clsW w::seen) r
def kv(seen:List Int)(lm gm:List (Int×Bool)):Prop :=
 (∀c,0≤c→c≠71→(mget lm c).getD false=seen.contains (10+c))∧∀k,1≤k→k≤5→(mget gm k).getD false=seen.contains k
theorem clsW_letter{w:aw}(h:w.Letter≠71):clsW w=10+w.Letter:=by simp[clsW,h]
theorem clsW_g{w:aw}(h:w.Letter=71):clsW w=grp w.Value:=by simp[clsW,h]
theorem mapsOk_letter{seen:List Int}{lm gm:List (Int×Bool)}(h:kv seen lm gm){c:Int}(h0:0≤c):kv ((10+c)::seen) (mput lm c true) gm:=by
 refine⟨λk hk h1=>?_,λk h1 h2=>?_⟩
 ·rw[mget_put,zD]
  by_cases e:k=c
  ·subst e;simp
  ·have:(k==c)=false:=by simpa using e
   have e2:(10+k==10+c)=false:=by simp;omega
   simp only[this,e2,zA,if_false,kN]
   exact h.1 k hk h1
 ·rw[zD,h.2 k h1 h2]
  have:(k==10+c)=false:=by simp;omega
  simp[this]
theorem mapsOk_group{seen:List Int}{lm gm:List (Int×Bool)}(h:kv seen lm gm){g:Int}(h0:1≤g)(h5:g≤5):kv (g::seen) lm (mput gm g true):=by
 refine⟨λk hk h1=>?_,λk h1 h2=>?_⟩
 ·rw[zD,h.1 k hk h1]
  have:(10+k==g)=false:=by simp;omega
  simp[this]
 ·rw[mget_put,zD]
  by_cases e:k=g
  ·subst e;simp
  ·have:(k==g)=false:=by simpa using e
   simp only[this,zA,if_false,kN]
   exact h.2 k h1 h2
abbrev MB:=List (Int×Bool)
def ju(seen:List Int)(w:aw):Bool:=clsW w != 0&&wholeW w&&!(seen.contains (clsW w))
theorem chk_loop{f:Nat→aw→MB×MB→Option (Ex (Ex Int (MB×MB)) (MB×MB))}{d:MB×MB→Option (Ex Int (MB×MB))}(hd:∀v,d v=some (.go v))
  (hf:∀i w seen lm gm,u8W w→kv seen lm gm→(ju seen w=true→∃lm' gm',f i w (lm,gm)=some (.go (lm',gm'))∧kv (clsW w::seen) lm' gm')∧(ju seen w=false→f i w (lm,gm)=some (.ret (.ret 1)))) :
  ∀(l:List aw) (i:Nat) (seen:List Int) (lm gm:MB),(∀w∈l,u8W w)→kv seen lm gm→(goodW seen l=true→∃v,aU f d l i (lm,gm)=some (.go v))∧(goodW seen l=false→aU f d l i (lm,gm)=some (.ret 1))
 | [],i,seen,lm,gm,_,_=>⟨λ_=>⟨_,hd _⟩,λh=>by simp[goodW]at h⟩
 | w::l,i,seen,lm,gm,hu,hm=>by
  have h:=hf i w seen lm gm (hu w (by simp)) hm
  have hg:goodW seen (w::l)=(ju seen w&&goodW (clsW w::seen) l):=rfl
  cases hn:ju seen w with
  | true =>
   obtain⟨lm',gm',h1,h2⟩:=h.1 hn
   rw[hg,hn,Bool.true_and]
   simp only[aU,h1]
   exact chk_loop hd hf l (i+1) _ lm' gm' (λw hw=>hu w (by simp[hw])) h2
  | false =>
   rw[hg,hn,Bool.false_and]
   refine⟨λq=>by simp at q,λ_=>?_⟩
   simp only[aU,h.2 hn]
theorem chk_fin{f:Nat→aw→MB×MB→Option (Ex (Ex Int (MB×MB)) (MB×MB))}{d:MB×MB→Option (Ex Int (MB×MB))}{l:List aw}(hu:∀w∈l,u8W w)(hd:∀v,d v=some (.go v))
  (hf:∀i w seen lm gm,u8W w→kv seen lm gm→(ju seen w=true→∃lm' gm',f i w (lm,gm)=some (.go (lm',gm'))∧kv (clsW w::seen) lm' gm')∧(ju seen w=false→f i w (lm,gm)=some (.ret (.ret 1)))) :
  bindX (aU f d l 0 ([],[])) (λ_=>some 0)=some (if goodW [] l=true then 0 else 1):=by
 have h:=chk_loop hd hf l 0 [] [] [] hu ⟨λc _ _=>by simp[mget],λk _ _=>by simp[mget]⟩
 cases hg:goodW [] l with
 | true=>obtain⟨v,hv⟩:=h.1 hg;rw[hv];rfl
 | false=>rw[h.2 hg];rfl
theorem md_Check_eq(b:aa)(hu:∀w∈b.Words,u8W w)(hl:b.Words.length≤9223372036854775807):jV b=some (if goodW [] b.Words=true then 0 else 1):=by
 unfold jV
 rw[aZ hl,aO]
 refine chk_fin hu (λ_=>rfl) ?_
 intro i w seen lm gm hw hm
 by_cases h1:w.Letter=71
 ·have hc:=clsW_g h1
  have hwh:wholeW w=true:=by simp[wholeW,h1]
  rcases grp_in w.Value with q | q
  ·refine⟨λh=>by simp[ju,hc,q]at h,λ_=>?_⟩
   simp[h1,ix,q]
  ·have hg:=hm.2 (grp w.Value) (by omega) (by omega)
   have hg0:grp w.Value≠0:=by omega
   constructor
   ·intro h
    have hs:grp w.Value∉seen:=by simp[ju,hc,hwh]at h;exact h.2
    refine⟨lm,mput gm (grp w.Value) true,?_,by rw[hc];exact mapsOk_group hm (by omega) (by omega)⟩
    simp[h1,ix,hg0,hg,hs]
   ·intro h
    have hs:grp w.Value∈seen:=by simp[ju,hc,hwh]at h;exact h hg0
    simp[h1,ix,hg0,hg,hs]
 ·have hc:=clsW_letter h1
  have hl:=hm.1 w.Letter hw.1 h1
  have hne:(clsW w==0)=false:=by rw[hc];simp;have:=hw.1;omega
  have hn:ju seen w=(wholeW w&&!(seen.contains (10+w.Letter))):=by
   have:(clsW w != 0)=true:=by simpa using hne
   rw[ju,this,hc];simp
  rw[hn]
  cases hs:seen.contains (10+w.Letter)with
  | true =>
   rw[hs]at hl
   refine⟨λh=>by simp at h,λ_=>?_⟩
   by_cases h2:w.Letter=70
   ·rw[h2]at hl
    by_cases hv:w.Value<0<;>simp[h2,hv,hl]
   ·by_cases h3:w.Letter=84∨w.Letter=72
    ·by_cases hv:w.Value<0
     ·rcases h3 with h3 | h3<;>(rw[h3]at hl;simp[h3,hv])
     ·by_cases hq:kP w.Value 1000=0
      ·rcases h3 with h3 | h3<;>(rw[h3]at hl;simp[h3,hv,hq,hl])
      ·rcases h3 with h3 | h3<;>(rw[h3]at hl;simp[h3,hv,hq])
    ·have h4:w.Letter≠84:=λe=>h3 (.inl e)
     have h5:w.Letter≠72:=λe=>h3 (.inr e)
     simp[h1,h2,h4,h5,hl]
  | false =>
   rw[hs]at hl
   have hg:kv (clsW w::seen) (mput lm w.Letter true) gm:=by rw[hc];exact mapsOk_letter hm hw.1
   refine⟨λh=>⟨mput lm w.Letter true,gm,?_,hg⟩,λh=>?_⟩
   ·have hwh:wholeW w=true:=by simpa using h
    unfold wholeW at hwh
    by_cases h2:w.Letter=70
    ·rw[h2]at hl
     have hv:¬w.Value<0:=by simp[h2]at hwh;omega
     simp[h2,hv,hl]
    ·by_cases h3:w.Letter=84∨w.Letter=72
     ·simp[h2,h3]at hwh
      have hv:¬w.Value<0:=by omega
      rcases h3 with h3 | h3<;>(rw[h3]at hl;simp[h3,hv,hwh.2,hl])
     ·have h4:w.Letter≠84:=λe=>h3 (.inl e)
      have h5:w.Letter≠72:=λe=>h3 (.inr e)
      simp[h1,h2,h4,h5,hl]
   ·have hwh:wholeW w=false:=by simpa using h
    unfold wholeW at hwh
    by_cases h2:w.Letter=70
    ·have hv:w.Value<0:=by simp[h2]at hwh;omega
     simp[h2,hv]
    ·by_cases h3:w.Letter=84∨w.Letter=72
     ·simp[h2,h3]at hwh
      by_cases hv:w.Value<0
      ·rcases h3 with h3 | h3<;>simp[h3,hv]
      ·have hq:¬kP w.Value 1000=0:=hwh (by omega)
       rcases h3 with h3 | h3<;>simp[h3,hv,hq]
     ·simp[h2,h3]at hwh
theorem wrap_i64{n:Int}(h:-9223372036854775808≤n)(h2:n≤9223372036854775807):kR.wrap n=n:=IntWalk.i64_in _ ⟨h,by omega⟩
theorem gt_k{α:Type}{l:List α}{k:Nat}{x:α}(h:l[k]? = some x):gt l (k:Int)=some x:=by
 simp[gt,h]
def okB(b:aa):Prop:=(∀w∈b.Words,u8W w)∧b.Words.length≤9223372036854775806
theorem goodW_ne:∀(l:List aw) (s:List Int),goodW s l=true→∀w∈l,clsW w≠0
 | [],_,_,w,hw=>by simp at hw
 | x::l,s,h,w,hw=>by
  simp only[goodW,Bool.and_eq_true,bne_iff_ne]at h
  rcases List.mem_cons.1 hw with e | e
  ·subst e;exact h.1.1.1
  ·exact goodW_ne l _ h.2 w e
theorem cls_put{w:aw}(h:clsW w≠0):w.Letter=71→grp w.Value≠0:=λe=>by rwa [clsW_g e]at h
def zS:ar:=⟨0,0,0,0,0,0,0,0⟩
theorem md_Apply_eq(s:ar)(b:aa)(h:okB b):md_Apply s b=some (if goodW [] b.Words=true then (b.Words.foldl putW s,0)else (zS,1)):=by
 unfold md_Apply
 rw[md_Check_eq b h.1 (by have:=h.2;omega),al]
 cases hg:goodW [] b.Words with
 | false=>simp[zS]
 | true =>
  simp only[if_true]
  rw[aZ (by have:=h.2;omega),aO,rangeX_go putW b.Words 0 s ?_]
  ·simp
  ·intro i x v hx
   rw[md_put_eq v x (cls_put (goodW_ne _ _ hg x hx)),al]
def endW(p:ah)(l:List ax):ah:=match l.getLast? with | some m=>m.To | none=>p
theorem gt_last{α:Type}{l:List α}{x:α}(h:l.getLast? = some x)(hl:l.length≤9223372036854775807):gt l (kR.wrap ((l.length:Int)-1))=some x:=by
 have hne:l≠[]:=by rintro rfl;simp at h
 have hp:0<l.length:=List.length_pos_iff.2 hne
 rw[wrap_i64 (by omega) (by omega),show ((l.length:Int)-1)=((l.length-1:Nat):Int) by omega]
 refine gt_k ?_
 rw[List.getLast?_eq_getElem?]at h
 exact h
theorem inp_End_eq(p:ah)(l:List ax)(hl:l.length≤9223372036854775807):inp_End p l=some (endW p l):=by
  unfold inp_End endW
  cases h:l.getLast? with
  | none => have : l = [] := by simpa using h
            subst this;rfl
  | some x =>
    have hne:l≠[]:=by rintro rfl;simp at h
    have hz:((l.length:Int)==0)=false:=by simp;exact hne
    simp only[hz,zA,if_false,gt_last h hl,al]
def posEq(a b:ah):Bool:=a.X==b.X&&(a.Y==b.Y&&a.Z==b.Z)
theorem posEq_iff{a b:ah}:posEq a b=true↔a=b:=by
 cases a;cases b;simp[posEq]
def connW:ah→List ax→Bool
 | _,[]=>true
 | p,m::l=>posEq m.From p&&connW m.To l
def inR(p:ah):Prop:=(-10000000≤p.X∧p.X≤10000000)∧(-10000000≤p.Y∧p.Y≤10000000)∧(-10000000≤p.Z∧p.Z≤10000000)
instance (p:ah):Decidable (inR p):=by unfold inR;infer_instance
theorem tb_far_eq(p:ah):iS p=some (!decide (inR p)):=by
 unfold iS mmI
 by_cases h:inR p
 ·rw[decide_eq_true h]
  unfold inR at h
  simp only[zO,Option.some.injEq,zN,decide_eq_false_iff_not]
  constructor<;>(repeat' split)<;>omega
 ·rw[decide_eq_false h]
  unfold inR at h
  simp only[Bool.not_false,Option.some.injEq,Bool.or_eq_true,decide_eq_true_eq]
  repeat' split
  all_goals omega
theorem inp_inside_eq(p:ah):gX p=some (decide (inR p)):=by
 have h:∀n,dL n=some (decide (n < -10000000)||decide (n>10000000)):=λn=>rfl
 unfold gX
 simp only[h,al]
 by_cases h1:(decide (p.X < -10000000)||decide (p.X>10000000))=true
 ·have:¬inR p:=by unfold inR;simp at h1;omega
  simp[h1,this]
 by_cases h2:(decide (p.Y < -10000000)||decide (p.Y>10000000))=true
 ·have:¬inR p:=by unfold inR;simp at h2;omega
  simp[h1,h2,this]
 by_cases h3:(decide (p.Z < -10000000)||decide (p.Z>10000000))=true
 ·have:¬inR p:=by unfold inR;simp at h3;omega
  simp[h1,h2,h3,this]
 ·have:inR p:=by unfold inR;simp at h1 h2 h3;omega
  simp[h1,h2,h3,this]
def findW(b:aa)(c:Int):Int×Bool:=match b.Words.find? (λw=>w.Letter==c)with | some w=>(w.Value,true) | none=>(0,false)
theorem kd(b:aa)(c:Int)(hl:b.Words.length≤1000):eN b c=some (findW b c):=by
 unfold eN findW
 rw[aZ (by omega),aO,range_find (p:=λw:aw=>w.Letter==c) (e:=λw=>(w.Value,true)) b.Words 0 (λi x=>rfl)]
 cases b.Words.find? (λw=>w.Letter==c)<;>rfl
def hasW(b:aa)(l:List UInt8):Bool:=l.any λc=>(findW b (c.toNat:Int)).2
theorem inp_has_eq(b:aa)(l:List UInt8)(hl:b.Words.length≤1000)(h2:l.length≤1000):iC b l=some (hasW b l):=by
 unfold iC hasW
 rw[aZ (by omega),aO,range_any (p:=λc:UInt8=>(findW b (c.toNat:Int)).2) (r:=true) l 0 (λi x=>by rw[kd b _ hl,al])]
 cases l.any λc=>(findW b (c.toNat:Int)).2<;>rfl
theorem inp_value_eq(b:aa)(c:Int)(hl:b.Words.length≤1000):gV b c=some (findW b c).1:=by
 unfold gV
 rw[kd b c hl,al]
theorem bk_Valid_tot(b:aa)(hl:b.Words.length≤1000)(hc:b.Comment.length≤1000):Tot (fM b) (λe=>(e=0∨e=1)∧(e=0→∀w∈b.Words,-1000000000000≤w.Value∧w.Value≤1000000000000)):=by
 unfold fM
 refine Tot.ite (λ_=>.ok ⟨.inr rfl,by simp⟩) (λ_=>?_)
 refine Tot.bindX (E:=λ_=>∀w∈b.Words,-1000000000000≤w.Value∧w.Value≤1000000000000) (TotX.guard (aZ (by omega)) (TotX.of (Tot.range (λi _=>∀w∈b.Words.take i,-1000000000000≤w.Value∧w.Value≤1000000000000) _ (by simp) (λi x v hx hr=>?_) (λv hr=>.ok (by simpa using hr))))) (λ_ hw=>?_)
 ·refine TotX.ite (λ_=>.ret ⟨.inr rfl,by simp⟩) (λh=>.go ?_)
  intro w hw
  rw[zJ,hx,zT]at hw
  rcases hw with hw | hw
  ·exact hr w hw
  ·simp at hw;subst hw
   simp at h
   omega
 ·refine Tot.bindX (E:=λ_=>True) (TotX.guard (aZ (by simp[kB];omega)) (TotX.of (Tot.range (λ_ _=>True) _ trivial (λi x v _ _=>?_) (λv _=>.ok trivial)))) (λ_ _=>.ok ⟨.inl rfl,λ_=>hw⟩)
  refine TotX.bind (E:=λ_=>True) (.ok trivial) λy _=>TotX.ite (λ_=>.ret ⟨.inr rfl,by simp⟩) (λ_=>.go trivial)
theorem index_tot(l:List Int)(c:Int)(hl:l.length≤1000):Tot (bq l c) (λ_=>True):=by
 unfold bq
 exact Tot.bindX (E:=λ_=>True) (TotX.guard (aZ (by omega)) (TotX.of (Tot.range (λ_ _=>True) _ trivial (λi x v _ _=>TotX.ite (λ_=>.ret trivial) (λ_=>.go trivial)) (λv _=>.ok trivial)))) (λ_ _=>.ok trivial)
theorem contains_tot(l:List Int)(c:Int)(hl:l.length≤1000):Tot (aY l c) (λ_=>True):=by
 unfold aY
 exact Tot.bind (index_tot l c hl) λ_ _=>.ok trivial
theorem inp_known_tot(b:aa)(hl:b.Words.length≤1000):Tot (jz b) (λ_=>True):=by
 unfold jz
 refine Tot.bindX (E:=λ_=>True) (TotX.guard (aZ (by omega)) (TotX.of (Tot.range (λ_ _=>True) _ trivial (λi x v _ _=>?_) (λv _=>.ok trivial)))) (λ_ _=>.ok trivial)
 refine TotX.bindX (E:=λ_=>True) (TotX.of (Tot.bind (E:=λ_=>True) ?_ λy _=>?_)) (λ_ _=>.go trivial)
 ·repeat' (first | exact .ok trivial | refine Tot.ite (λ_=>?_) (λ_=>?_))
 ·refine Tot.ite (λ_=>.ok trivial) (λ_=>Tot.ite (λ_=>?_) (λ_=>Tot.ite (λ_=>Tot.ite (λ_=>.ok trivial) (λ_=>.ok trivial)) (λ_=>.ok trivial)))
  exact Tot.bind (contains_tot _ _ (by decide)) λy _=>Tot.ite (λ_=>.ok trivial) (λ_=>.ok trivial)
theorem jk(t:aF)(hl:t.Lengths.length≤1000):Tot (gz t) (λe=>(e=0∨e=1)∧(e=0→(inR t.Work.e0∧inR t.Work.e1∧inR t.Work.e2∧inR t.Work.e3∧inR t.Work.e4∧inR t.Work.e5)∧∀x∈t.Lengths,0≤x.Length∧x.Length≤10000000)):=by
 unfold gz
 simp only[tb_far_eq,al]
 refine Tot.bind (E:=λb=>b=true∨(inR t.Work.e0∧inR t.Work.e1∧inR t.Work.e2∧inR t.Work.e3∧inR t.Work.e4∧inR t.Work.e5)) (Tot.bind (E:=λi:Int=>i≥0∨(inR t.Work.e0∧inR t.Work.e1∧inR t.Work.e2∧inR t.Work.e3∧inR t.Work.e4∧inR t.Work.e5)) (Tot.bindX (E:=λ_=>inR t.Work.e0∧inR t.Work.e1∧inR t.Work.e2∧inR t.Work.e3∧inR t.Work.e4∧inR t.Work.e5) ?_ (λ_ h=>.ok (.inr h))) (λi hi=>.ok (hi.elim (λh=>.inl (by simpa using h)) .inr))) (λb hb=>Tot.ite (λ_=>.ok ⟨.inr rfl,by simp⟩) (λh=>?_))
 ·by_cases h0:inR t.Work.e0
  ·by_cases h1:inR t.Work.e1
   ·by_cases h2:inR t.Work.e2
    ·by_cases h3:inR t.Work.e3
     ·by_cases h4:inR t.Work.e4
      ·by_cases h5:inR t.Work.e5
       ·simp only[h0,h1,h2,h3,h4,h5,decide_true,zO,zA,if_false];exact .go ⟨trivial,trivial,trivial,trivial,trivial,trivial⟩
       ·simp[h0,h1,h2,h3,h4,h5];exact .ret (by simp)
      ·simp[h0,h1,h2,h3,h4];exact .ret (by simp)
     ·simp[h0,h1,h2,h3];exact .ret (by simp)
    ·simp[h0,h1,h2];exact .ret (by simp)
   ·simp[h0,h1];exact .ret (by simp)
  ·simp[h0];exact .ret (by simp)
 ·have hw:=hb.resolve_left (by simp[h])
  refine Tot.bindX (E:=λ_=>∀x∈t.Lengths,0≤x.Length∧x.Length≤10000000) (TotX.guard (aZ (by omega)) (TotX.of (Tot.range (λi _=>∀x∈t.Lengths.take i,0≤x.Length∧x.Length≤10000000) _ (by simp) (λi x v hx hr=>?_) (λv hr=>.ok (by simpa using hr))))) (λ_ h=>.ok ⟨.inl rfl,λ_=>⟨hw,h⟩⟩)
  refine TotX.bind (E:=λb=>b=true∨(0≤x.Length∧x.Length≤10000000)) ?_ (λb hb=>TotX.ite (λ_=>.ret ⟨.inr rfl,by simp⟩) (λh=>.go ?_))
  ·unfold jO
   rw[al]
   refine Tot.ite (λhe=>?_) (λ_=>.ok (.inl rfl))
   have he':0≤x.Length∧x.Length≤10000000:=by simp at he;omega
   refine Tot.ite (λhi=>?_) (λ_=>.ok (.inr he'))
   have hlt:=ao hx
   simp at hi
   rw[wrap_i64 (by omega) (by omega)]
   obtain⟨y,hy,_⟩:=gt_ok' (l:=t.Lengths) (i:=(i:Int)-1) (by omega) (by omega)
   rw[hy,al]
   exact .ok (.inr he')
  ·intro y hy
   rw[zJ,hx,zT]at hy
   rcases hy with hy | hy
   ·exact hr y hy
   ·simp at hy;subst hy
    exact hb.resolve_left (by simp[h])
theorem mid_eq{lo hi:Int}(h0:0≤lo)(h1:lo≤4000000000000000000)(h2:0≤hi)(h3:hi≤4000000000000000000):kR.wrap (shrI .u64 (IntKind.u64.wrap (kR.wrap (lo+hi))) 1)=(lo+hi) / 2:=by
 rw[wrap_i64 (n:=lo+hi) (by omega) (by omega)]
 have:IntKind.u64.wrap (lo+hi)=lo+hi:=by unfold IntKind.wrap;simp[IntKind.signed,IntKind.bits];omega
 rw[this]
 have:shrI .u64 (lo+hi) 1=(lo+hi) / 2:=by
  unfold shrI
  simp[IntKind.bits]
  rw[Int.fdiv_eq_ediv_of_nonneg _ (by decide)]
 rw[this,wrap_i64 (by omega) (by omega)]
theorem compare_eq(a b:Int):cX a b=some (if a<b then -1 else if a>b then 1 else 0):=by
 unfold cX dB
 simp only[bne_self_eq_false,al,zA,if_false]
 by_cases h:a<b
 ·simp[h]
 ·by_cases h2:a>b<;>simp[h,h2]
theorem tb_find_tot(t:aF)(n:Int)(hl:t.Lengths.length≤1000):Tot (tb_find t n) (λr=>0≤r.1∧(r.2=true→r.1<(t.Lengths.length:Int))):=by
 unfold tb_find
 refine Tot.bind (E:=λr=>0≤r.1∧(r.2=true→r.1<(t.Lengths.length:Int))) (Tot.bind (E:=λv:Int=>0≤v) ?_ (λv hv=>?_)) (λr hr=>.ok hr)
 ·refine Tot.loop (λm v=>0≤v.1∧v.1≤v.2∧v.2≤(t.Lengths.length:Int)∧m=(v.2-v.1).toNat) _ t.Lengths.length (eI (by omega)) ⟨by simp,by simp,by simp,by simp⟩ (λm v hr=>?_)
  obtain⟨a,b,c,d⟩:=hr
  refine TotX.ite (λh=>?_) (λ_=>.ret a)
  simp at h
  rw[mid_eq a (by omega) (by omega) (by omega)]
  obtain⟨y,hy,_⟩:=gt_ok' (l:=t.Lengths) (i:=(v.1+v.2) / 2) (by omega) (by omega)
  rw[hy,al]
  unfold fO
  rw[compare_eq,al,al]
  refine TotX.ite (λ_=>.go ?_) (λ_=>.go ?_)
  ·rw[wrap_i64 (by omega) (by omega)]
   exact⟨_,by omega,by simp;omega,by simp;omega,c,rfl⟩
  ·exact⟨_,by omega,a,by simp;omega,by simp;omega,rfl⟩
 ·refine Tot.bind (E:=λb=>b=true→v<(t.Lengths.length:Int)) (Tot.ite (λh=>?_) (λ_=>.ok (by simp))) (λb hb=>.ok ⟨hv,hb⟩)
  simp at h
  obtain⟨y,hy,_⟩:=gt_ok' (l:=t.Lengths) (i:=v) hv h
  rw[hy,al]
  unfold fO
  rw[compare_eq,al,al]
  exact .ok λ_=>h
theorem tb_length_tot(t:aF)(n:Int)(hl:t.Lengths.length≤1000)(hv:∀x∈t.Lengths,0≤x.Length∧x.Length≤10000000):Tot (ji t n) (λr=>0≤r.1∧r.1≤10000000):=by
 unfold ji
 refine Tot.ite (λ_=>.ok (by decide)) (λ_=>Tot.bind (tb_find_tot ⟨t.Work,t.Lengths⟩ n hl) λr hr=>Tot.ite (λ_=>.ok (by decide)) (λh=>?_))
 simp at h
 obtain⟨y,hy,hq⟩:=gt_ok' (l:=t.Lengths) (i:=r.1) hr.1 (hr.2 h)
 rw[hy,al]
 exact .ok (hv y (List.mem_of_getElem? hq))
theorem tb_slot_tot(c:Int):Tot (tb_slot c) (λr=>r.2=0→0≤r.1∧r.1<6):=by
 unfold tb_slot
 refine Tot.ite (λ_=>.ok (by simp)) (λh=>.ok λ_=>?_)
 simp at h
 have:Int.tdiv c 1000=c / 1000:=zB (by omega)
 simp only[this]
 rw[wrap_i64 (n:=c / 1000) (by omega) (by omega),wrap_i64 (by omega) (by omega)]
 omega
theorem tb_offset_tot(t:aF)(c n:Int)(hl:t.Lengths.length≤1000):Tot (gL t c n) (λr=>r.2=0→(-10000000≤r.1.X∧r.1.X≤10000000)∧(-10000000≤r.1.Y∧r.1.Y≤10000000)∧(-10000000≤r.1.Z∧r.1.Z≤20000000)):=by
 unfold gL
 refine Tot.bind (jk t hl) λe he=>Tot.ite (λh=>.ok λh2=>?_) (λh=>?_)
 ·simp at h h2;exact absurd h2 h
 ·simp at h
  obtain⟨hw,hle⟩:=he.2 h
  refine Tot.bind (tb_slot_tot c) λr hr=>Tot.bind (tb_length_tot ⟨t.Work,t.Lengths⟩ n hl hle) λq hq=>Tot.ite (λ_=>.ok (by simp)) (λh2=>?_)
  simp at h2
  have h3:=hr h2.1
  refine Tot.bind (E:=λp=>inR p) (Tot.guard (by simp;omega) ?_) (λp hp=>.ok λ_=>?_)
  ·repeat' (first | exact .ok hw.1 | exact .ok hw.2.1 | exact .ok hw.2.2.1 | exact .ok hw.2.2.2.1 | exact .ok hw.2.2.2.2.1 | exact .ok hw.2.2.2.2.2 | refine Tot.ite (λ_=>?_) (λ_=>?_))
  ·unfold inR at hp
   simp only
   rw[wrap_i64 (by omega) (by omega)]
   omega
theorem tb_moved_tot(p by_:ah)(s:Int):Tot (jN p by_ s) (λr=>r.2=0→inR r.1):=by
 unfold jN
 simp only[tb_far_eq,al]
 refine Tot.ite (λ_=>.ok (by simp)) (λ_=>Tot.ite (λ_=>.ok (by simp)) (λh=>.ok λ_=>?_))
 simpa using h
theorem tb_Machine_tot(t:aF)(c n:Int)(p:ah)(hl:t.Lengths.length≤1000):Tot (gM t c n p) (λr=>r.2=0→inR r.1):=by
 unfold gM
 refine Tot.bind (tb_offset_tot t c n hl) λe _=>Tot.ite (λh=>.ok λh2=>?_) (λ_=>Tot.bind (tb_moved_tot _ _ _) λr hr=>.ok hr)
 simp at h h2;exact absurd h2 h
theorem tb_Work_tot(t:aF)(c n:Int)(p:ah)(hl:t.Lengths.length≤1000):Tot (tb_Work t c n p) (λr=>r.2=0→inR r.1):=by
 unfold tb_Work
 refine Tot.bind (tb_offset_tot ⟨t.Work,t.Lengths⟩ c n hl) λe _=>Tot.ite (λh=>.ok λh2=>?_) (λ_=>Tot.bind (tb_moved_tot _ _ _) λr hr=>.ok hr)
 simp at h h2;exact absurd h2 h
theorem inp_checked_tot(t:aF)(p:ah)(hl:t.Lengths.length≤1000):Tot (cQ t p) (λe=>e=0→inR p):=by
 unfold cQ
 refine Tot.bind (jk ⟨t.Work,t.Lengths⟩ hl) λe he=>Tot.ite (λ_=>.ok (by simp)) (λ_=>?_)
 rw[inp_inside_eq,al]
 exact Tot.ite (λ_=>.ok (by simp)) (λh=>.ok λ_=>by simpa using h)
theorem dz(a b:Int):Tot (eE a b) (λ_=>True):=by
 unfold eE
 exact Tot.bind (E:=λ_=>True) (Tot.ite (λ_=>.ok trivial) (λ_=>.ok trivial)) λ_ _=>.ok trivial
theorem eg(p:ah)(c:bM):Tot (eX p c) (λr=>0≤r.1∧r.1≤3):=by
 unfold eX
 refine Tot.ite (λ_=>Tot.bind (dz _ _) λ_ _=>.ok (by simp)) (λ_=>Tot.ite (λ_=>Tot.bind (dz _ _) λ_ _=>.ok (by simp)) (λ_=>Tot.ite (λ_=>Tot.bind (dz _ _) λ_ _=>.ok (by simp)) (λ_=>Tot.ite (λ_=>Tot.bind (dz _ _) λ_ _=>.ok (by simp)) (λ_=>.ok (by simp)))))
theorem ip_right_tot(p:ah)(m:aI):Tot (ip_right p m) (λ_=>True):=by
 unfold ip_right
 refine Tot.ite (λ_=>.ok trivial) (λ_=>Tot.ite (λ_=>.ok trivial) (λ_=>Tot.bind (eg _ _) λa _=>Tot.bind (eg _ _) λb _=>Tot.bind (E:=λ_=>True) (Tot.bind (E:=λ_=>True) (.ok trivial) λy _=>?_) λ_ _=>.ok trivial))
 exact Tot.ite (λ_=>Tot.ite (λ_=>Tot.ite (λ_=>.ok trivial) (λ_=>.ok trivial)) (λ_=>.ok trivial)) (λ_=>.ok trivial)
theorem ip_Valid_tot(p:ah)(m:aI):Tot (jY p m) (λ_=>True):=by
 unfold jY
 refine Tot.bind (ip_right_tot _ _) λ_ _=>Tot.ite (λ_=>.ok trivial) (λ_=>Tot.bind (E:=λ_=>True) (.ok trivial) λb _=>?_)
 refine Tot.bindX (E:=λl=>l.length≤10) (TotX.ite (λ_=>TotX.bind (eg _ _) λr _=>TotX.bind (E:=λ_=>True) ?_ λb _=>TotX.ite (λ_=>.ret trivial) (λ_=>.go (by simp))) (λ_=>.go (by simp))) (λl hl=>?_)
 ·refine Tot.ite (λ_=>.ok trivial) (λ_=>Tot.bind (dz _ _) λ_ _=>Tot.ite (λ_=>.ok trivial) (λ_=>Tot.bind (dz _ _) λ_ _=>.ok trivial))
 ·refine Tot.bindX (E:=λ_=>True) (TotX.guard (aZ (by omega)) (TotX.of (Tot.range (λ_ _=>True) _ trivial (λi x v _ _=>TotX.bind (dz _ _) λ_ _=>TotX.ite (λ_=>.ret trivial) (λ_=>.go trivial)) (λv _=>.ok trivial)))) (λ_ _=>.ok trivial)
theorem ip_Quarters_tot(p:ah)(m:aI):Tot (ga p m) (λr=>r.2=0→1≤r.1∧r.1≤4):=by
 unfold ga
 refine Tot.bind (E:=λ_=>True) (.ok trivial) λb _=>Tot.ite (λ_=>.ok (by simp)) (λ_=>Tot.bind (ip_Valid_tot _ _) λe _=>Tot.ite (λh=>.ok λh2=>?_) (λ_=>Tot.bind (eg _ _) λa ha=>Tot.bind (eg _ _) λc hc=>?_))
 ·simp at h h2;exact absurd h2 h
 ·have e1:kR.wrap (c.1-a.1)=c.1-a.1:=wrap_i64 (by omega) (by omega)
  rw[e1,wrap_i64 (n:=0-(c.1-a.1)) (by omega) (by omega)]
  refine Tot.bind (E:=λv:Int=>-3≤v∧v≤3) (Tot.ite (λ_=>.ok (by omega)) (λ_=>.ok (by omega))) λv hv=>Tot.bind (E:=λv:Int=>1≤v∧v≤4) (Tot.ite (λh=>.ok ?_) (λh=>.ok ?_)) λv hv=>.ok λ_=>hv
  ·simp at h;rw[wrap_i64 (by omega) (by omega)];omega
  ·simp at h;omega
theorem ip_Chords_tot(r:Int):Tot (jy r) (λn=>0≤n∧n≤1073741824):=by
 unfold jy
 refine Tot.ite (λ_=>.ok (by decide)) (λ_=>Tot.bind (E:=λn:Int=>0≤n∧n≤1073741824) ?_ λn hn=>.ok hn)
 refine Tot.loop (λm v=>1≤v.1∧v.1≤v.2∧v.2≤1073741824∧m=(v.2-v.1).toNat) _ 1073741823 (eI (by omega)) (by decide) (λm v hr=>?_)
 obtain⟨a,b,c,d⟩:=hr
 refine TotX.ite (λh=>?_) (λ_=>.ret (by omega))
 simp at h
 rw[wrap_i64 (n:=v.1+v.2) (by omega) (by omega),zB (by omega),wrap_i64 (n:=(v.1+v.2) / 2) (by omega) (by omega)]
 refine TotX.ite (λ_=>.go ?_) (λ_=>.go ?_)
 ·exact⟨_,by omega,a,by simp;omega,by simp;omega,rfl⟩
 ·rw[wrap_i64 (by omega) (by omega)]
  exact⟨_,by omega,by simp;omega,by simp;omega,c,rfl⟩
theorem ip_turned_tot(x y q:Int):Tot (gU x y q) (λ_=>True):=by
 unfold gU
 have hA:-9223372036854775808≤andI .i64 q 3∧andI .i64 q 3≤9223372036854775807:=i64_lo _
 generalize andI .i64 q 3=A at hA
 refine Tot.bind (E:=λ_=>True) ?_ λ_ _=>.ok trivial
 refine Tot.loop (λm v=>0≤v.2.2∧m=(A-v.2.2).toNat) _ A.toNat (eI (by omega)) ⟨by simp,by simp⟩ (λm v hr=>?_)
 refine TotX.ite (λh=>.go ?_) (λ_=>.ret trivial)
 simp at h
 rw[wrap_i64 (n:=v.2.2+1) (by omega) (by omega)]
 exact⟨(A-(v.2.2+1)).toNat,by have:=hr.2;have:=hr.1;omega,by simp;omega,rfl⟩
theorem ip_floor_tot(a b:Int)(h:b≠0):Tot (ip_floor a b) (λ_=>True):=by
 unfold ip_floor
 have hb:(!(b==0))=true:=by simp[h]
 exact Tot.guard hb (Tot.guard hb (Tot.bind (E:=λ_=>True) (Tot.ite (λ_=>.ok trivial) (λ_=>.ok trivial)) λ_ _=>.ok trivial))
theorem sq_le{i n:Int}(h0:0≤i)(h:i≤n)(hn:n≤20000):0≤i*i∧i*i≤400000000:=by
 have h1:i*i≤20000*i:=Int.mul_le_mul_of_nonneg_right (by omega) h0
 have h2:0≤i*i:=zE h0 h0
 omega
theorem ip_Arc_tot(p:ah)(mv:aI):Tot (ip_Arc p mv) (λr=>r.1.length≤80000):=by
 unfold ip_Arc
 refine Tot.bind (ip_Quarters_tot _ _) λq hq=>Tot.ite (λ_=>.ok (by simp)) (λh=>?_)
 simp at h
 have hq4:=hq h
 refine Tot.bind (eg _ _) λpt _=>Tot.bind (ip_Chords_tot _) λn hn=>Tot.ite (λ_=>.ok (by simp)) (λhm=>?_)
 have hn2:n≤20000:=by
  simp at hm
  have:q.1=1∨q.1=2∨q.1=3∨q.1=4:=by omega
  rcases this with e | e | e | e<;>(rw[e,wrap_i64 (by omega) (by omega)]at hm;omega)
 have hnq:0<n→kR.wrap (n*q.1)≠0:=by
  intro h0
  have:q.1=1∨q.1=2∨q.1=3∨q.1=4:=by omega
  rcases this with e | e | e | e<;>(rw[e,wrap_i64 (by omega) (by omega)];omega)
 have hnn:=sq_le (i:=n) hn.1 (Int.le_refl n) hn2
 refine Tot.bind (E:=λl:List ah=>l.length≤80000) ?_ λl hl=>.ok hl
 refine Tot.loop (λm v=>0≤v.2∧v.2≤q.1∧(v.1.length:Int)≤v.2*20000∧m=(q.1-v.2).toNat) _ q.1.toNat (eI (by omega)) ⟨by simp,by simp;omega,by simp,by simp⟩ (λm v hr=>?_)
 obtain⟨a,b,c,d⟩:=hr
 refine TotX.ite (λh=>?_) (λ_=>.ret (by omega))
 simp at h
 refine TotX.bind (E:=λl:List ah=>(l.length:Int)≤(v.2+1)*20000) ?_ (λl hl=>.go ?_)
 ·refine Tot.loop (λm u=>1≤u.2∧u.2≤n+1∧(u.1.length:Int)≤v.2*20000+u.2-1∧m=(n+1-u.2).toNat) _ n.toNat (eI (by omega)) ⟨by simp,by simp;omega,by simp;omega,by simp⟩ (λm u hr=>?_)
  obtain⟨a',b',c',d'⟩:=hr
  refine TotX.ite (λh'=>?_) (λh'=>.ret ?_)
  ·simp at h'
   have hii:=sq_le (i:=u.2) (by omega) h' hn2
   have hpos:0<n*n:=Int.mul_pos (by omega) (by omega)
   have hg:(!((kR.wrap ((kR.wrap (n*n))+(kR.wrap (u.2*u.2))))==0))=true:=by
    rw[wrap_i64 (n:=n*n) (by omega) (by omega),wrap_i64 (n:=u.2*u.2) (by omega) (by omega),wrap_i64 (by omega) (by omega)]
    simp;omega
   refine TotX.guard hg (TotX.guard hg (TotX.bind (E:=λ_=>True) (Tot.ite (λ_=>Tot.bind (ip_turned_tot _ _ _) λ_ _=>.ok trivial) (λ_=>Tot.bind (ip_turned_tot _ _ _) λ_ _=>.ok trivial)) λr _=>TotX.bind (ip_floor_tot _ _ (hnq (by omega))) λz _=>TotX.guard (bd (by omega)) (.go ?_)))
   rw[wrap_i64 (n:=u.2+1) (by omega) (by omega)]
   exact⟨_,by omega,by simp;omega,by simp;omega,by simp;omega,rfl⟩
  ·simp at h';omega
 ·rw[wrap_i64 (n:=v.2+1) (by omega) (by omega)]
  exact⟨_,by omega,by simp;omega,by simp;omega,by simpa using hl,rfl⟩
theorem inp_arc_tot(s:ar)(b:aa)(p q:ah)(hl:b.Words.length≤1000):Tot (inp_arc s b p q) (λr=>r.1.length≤80000):=by
 unfold inp_arc
 rw[inp_value_eq b _ hl,al,inp_value_eq b _ hl,al]
 refine Tot.bind (E:=λ_=>True) (Tot.ite (λ_=>.ok trivial) (λ_=>.ok trivial)) λk _=>Tot.bind (ip_Arc_tot _ _) λr hr=>Tot.bind (E:=λl:List ay=>l.length≤80000) ?_ λl hl=>.ok hl
 refine Tot.guard (aZ (by omega)) (Tot.range (λi v=>v.length≤i) _ (by simp) (λi x v hx hr'=>?_) (λv hv=>.ok (by omega)))
 have hlt:=ao hx
 exact TotX.guard (bd (by omega)) (.go (by simp;omega))
theorem eZ(c d:Int)(b:aa)(hl:b.Words.length≤1000):Tot (ek c d b) (λ_=>True):=by
 unfold ek
 rw[kd b c hl,al]
 exact Tot.ite (λ_=>.ok trivial) (λ_=>.ok trivial)
def cyOk(c:av):Prop:=c.Code=83000→0<c.Q∧c.Q≤10000000∧(-10000000≤c.R∧c.R≤10000000)∧(-10000000≤c.Z∧c.Z≤10000000)∧c.R-c.Z-1<1000*c.Q∧c.Z<c.R
theorem cy_Valid_tot(c:av):Tot (j9 c) (λe=>e=0→cyOk c):=by
 unfold j9
 refine Tot.ite (λ_=>.ok (by simp)) (λh0=>?_)
 simp only[ja,al]
 refine Tot.bind (E:=λb=>b=true∨((c.Code=83000→c.Q≤10000000)∧(-10000000≤c.R∧c.R≤10000000)∧(-10000000≤c.Z∧c.Z≤10000000))) ?_ (λb hb=>Tot.ite (λ_=>.ok (by simp)) (λhf=>?_))
 ·refine Tot.ite (λ_=>.ok (.inl rfl)) (λh1=>Tot.ite (λ_=>.ok (.inl rfl)) (λh2=>Tot.ite (λ_=>.ok (.inl rfl)) (λh3=>Tot.ite (λhc=>?_) (λhc=>.ok (.inr ?_)))))
  ·simp at h1 h2 hc
   by_cases hq:c.Q>10000000∨c.Q < -10000000
   ·exact .ok (.inl (by simpa using hq))
   ·exact .ok (.inr ⟨λ_=>by omega,by omega,by omega⟩)
  ·simp at h1 h2 hc
   exact⟨λe=>absurd e hc,by omega,by omega⟩
 ·have hb':=hb.resolve_left (by simp[hf])
  refine Tot.bind (E:=λb=>b=true∨cyOk c) (Tot.ite (λhc=>?_) (λhc=>.ok (.inr λe=>?_))) (λb hb2=>Tot.ite (λ_=>.ok (by simp)) (λhf2=>.ok λ_=>hb2.resolve_left (by simp[hf2])))
  ·simp at hc
   simp only[hc,beq_self_eq_true,if_true,zN,decide_eq_false_iff_not]at h0
   have hq:0<c.Q:=by omega
   refine Tot.guard (by simp;omega) (.ok ?_)
   have hqq:=hb'.1 hc
   rw[wrap_i64 (n:=c.R-c.Z) (by omega) (by omega),wrap_i64 (n:=c.R-c.Z-1) (by omega) (by omega),zB (by omega)]
   have hd0:0≤(c.R-c.Z-1) / c.Q:=zK (by omega) (by omega)
   have hd1:(c.R-c.Z-1) / c.Q≤c.R-c.Z-1:=Int.ediv_le_self _ (by omega)
   rw[wrap_i64 (by omega) (by omega)]
   by_cases h9:(c.R-c.Z-1) / c.Q>999
   ·exact .inl (by simpa using h9)
   ·refine .inr λ_=>⟨hq,hqq,hb'.2.1,hb'.2.2,?_,by omega⟩
    have:=Int.lt_mul_of_ediv_lt hq (show (c.R-c.Z-1) / c.Q<1000 by omega)
    exact this
  ·simp at hc;exact absurd e hc
theorem cy_Depths_tot(c:av):Tot (jE c) (λr=>r.1.length≤1001):=by
 unfold jE
 refine Tot.bind (cy_Valid_tot c) λe he=>Tot.ite (λ_=>.ok (by simp)) (λh=>Tot.bind (E:=λl:List Int=>l.length≤1000) (Tot.ite (λhc=>?_) (λ_=>.ok (by simp))) λl hl=>Tot.guard (bd (by omega)) (.ok (by simp;omega)))
 simp at h hc
 obtain⟨h1,h2,h3,h4,h5,h6⟩:=he h hc
 rw[wrap_i64 (n:=c.R-c.Q) (by omega) (by omega)]
 refine Tot.loop (λm v=>v.2=c.R-((v.1.length:Int)+1)*c.Q∧c.Z-c.Q≤v.2∧v.2≤c.R∧v.1.length≤1000∧m=(v.2-c.Z).toNat) _ (c.R-c.Q-c.Z).toNat (eI (by omega)) ?_ (λm v hr=>?_)
 ·exact⟨by simp,by simp;omega,by simp;omega,by simp,rfl⟩
 ·obtain⟨a,b,b2,c',d⟩:=hr
  refine TotX.ite (λh=>?_) (λ_=>.ret c')
  simp at h
  have hlt:(v.1.length:Int)+1<1000:=by
   have:((v.1.length:Int)+1)*c.Q<1000*c.Q:=by omega
   exact Int.lt_of_mul_lt_mul_right this (by omega)
  refine TotX.guard (bd (by omega)) (.go ?_)
  rw[wrap_i64 (n:=v.2-c.Q) (by omega) (by omega)]
  refine⟨_,by omega,?_,by simp;omega,by simp;omega,by simp;omega,rfl⟩
  simp only[List.length_append,zQ,zU]
  rw[a]
  have:(((v.1.length+(0+1):Nat):Int)+1)*c.Q=((v.1.length:Int)+1)*c.Q+c.Q:=by
   rw[show (((v.1.length+(0+1):Nat):Int)+1)=((v.1.length:Int)+1)+1 by omega,zL,Int.one_mul]
  omega
theorem cy_Expand_tot(c:av)(p:ah)(l:List bM)(hl:l.length≤100):Tot (jD c p l) (λr=>r.1.length≤300000):=by
 unfold jD
 refine Tot.bind (cy_Depths_tot c) λds hd=>Tot.ite (λ_=>.ok (by simp)) (λ_=>?_)
 refine Tot.bind (E:=λ_=>True) (Tot.bind (E:=λ_=>True) (.ok trivial) λ_ _=>Tot.ite (λ_=>.ok trivial) (λ_=>Tot.bind (E:=λ_=>True) (.ok trivial) λ_ _=>Tot.ite (λ_=>.ok trivial) (λ_=>Tot.bind (E:=λ_=>True) (.ok trivial) λ_ _=>.ok trivial))) λb _=>?_
 refine Tot.bind (E:=λ_=>True) (Tot.guard (aZ (by omega)) (Tot.range (λ_ _=>True) _ trivial (λi x v _ _=>TotX.bind (E:=λ_=>True) (Tot.ite (λ_=>.ok trivial) (λ_=>Tot.bind (E:=λ_=>True) (.ok trivial) λ_ _=>Tot.ite (λ_=>.ok trivial) (λ_=>Tot.bind (E:=λ_=>True) (.ok trivial) λ_ _=>.ok trivial))) λ_ _=>.go trivial) (λv _=>.ok trivial))) λfar _=>Tot.ite (λ_=>.ok (by simp)) (λ_=>?_)
 refine Tot.bindX (E:=λv:ah×List aI=>v.2.length≤300000) (TotX.guard (aZ (by omega)) (TotX.of (Tot.range (λi v=>v.2.length≤i*3000) _ (by simp) (λi x v hx hr=>?_) (λv hv=>.ok (by simp only;omega))))) (λv hv=>.ok hv)
 have hi:=ao hx
 have e1:(i+1)*3000=i*3000+3000:=by omega
 have e2:i*3000≤297000:=by omega
 rw[e1]
 generalize i*3000=B at hr e2
 refine TotX.bindX (E:=λv:ah×List aI=>v.2.length≤B+3000) (TotX.of ?_) (λv hv=>.go hv)
 refine Tot.bind (E:=λu:Int×List aI=>u.2.length≤B+1) (Tot.ite (λ_=>Tot.bind (E:=λu:Int×List aI=>u.2.length≤B+1) (Tot.ite (λ_=>Tot.guard (bd (by omega)) (.ok (by simp;omega))) (λ_=>.ok (by simp only;omega))) λu hu=>.ok hu) (λ_=>.ok (by simp only;omega))) λu1 h1=>?_
 refine Tot.bind (E:=λu:ah×List aI=>u.2.length≤B+2) (Tot.ite (λ_=>Tot.guard (bd (by omega)) (.ok (by simp;omega))) (λ_=>.ok (by simp only;omega))) λu2 h2=>?_
 refine Tot.bind (E:=λu:ah×List aI=>u.2.length≤B+3) (Tot.ite (λ_=>Tot.guard (bd (by omega)) (.ok (by simp;omega))) (λ_=>.ok (by simp only;omega))) λu3 h3=>?_
 refine Tot.bind (E:=λu:ah×List aI=>u.2.length≤B+2010) (Tot.guard (aZ (by omega)) (Tot.range (λj v=>v.2.length≤B+3+2*j) _ (by simpa using h3) (λj z w hz hw=>?_) (λv hv=>.ok (by simp only;omega)))) λu4 h4=>?_
 ·have hj:=ao hz
  refine TotX.bind (E:=λu:ah×List aI=>u.2.length≤B+3+2*j+1) (Tot.ite (λ_=>Tot.guard (bd (by omega)) (.ok (by simp;omega))) (λ_=>.ok (by simp only;omega))) λa ha=>TotX.bind (E:=λu:ah×List aI=>u.2.length≤B+3+2*j+2) (Tot.ite (λ_=>Tot.guard (bd (by omega)) (.ok (by simp;omega))) (λ_=>.ok (by simp only;omega))) λb hb=>.go (by simp only;omega)
 ·refine Tot.bind (E:=λu:ah×List aI=>u.2.length≤B+2011) (Tot.ite (λ_=>Tot.bind (E:=λu:ah×List aI=>u.2.length≤B+2011) (Tot.ite (λ_=>Tot.guard (bd (by omega)) (.ok (by simp;omega))) (λ_=>.ok (by simp only;omega))) λu hu=>.ok hu) (λ_=>.ok (by simp only;omega))) λu5 h5=>Tot.ite (λ_=>.ok (by simp)) (λ_=>.ok (by simp only;omega))
theorem cy_Read_tot(b:aa)(k f i:Int)(h:Bool)(c:av)(hl:b.Words.length≤1000):Tot (cy_Read b k f i h c) (λ_=>True):=by
 unfold cy_Read
 refine Tot.bind (eZ _ _ _ hl) λ_ _=>Tot.bind (eZ _ _ _ hl) λ_ _=>Tot.bind (eZ _ _ _ hl) λ_ _=>Tot.bind (eZ _ _ _ hl) λ_ _=>Tot.bind (cy_Valid_tot _) λ_ _=>Tot.ite (λ_=>.ok trivial) (λ_=>.ok trivial)
theorem inp_canned_tot(s:ar)(c:av)(b:aa)(p q:ah)(hl:b.Words.length≤1000):Tot (gY s c b p q) (λr=>r.1.length≤300000):=by
 unfold gY
 refine Tot.bind (E:=λ_=>True) (Tot.ite (λ_=>.ok trivial) (λ_=>.ok trivial)) λi _=>Tot.bind (cy_Read_tot _ _ _ _ _ _ hl) λr _=>Tot.ite (λ_=>.ok (by simp)) (λ_=>Tot.bind (cy_Expand_tot _ _ _ (by simp)) λm hm=>Tot.ite (λ_=>.ok (by simp)) (λ_=>Tot.bind (E:=λl:List ay=>l.length≤300000) ?_ λl hl=>.ok hl))
 refine Tot.guard (aZ (by omega)) (Tot.range (λi v=>v.length≤i) _ (by simp) (λi x v hx hr'=>?_) (λv hv=>.ok (by omega)))
 have hlt:=ao hx
 exact TotX.guard (bd (by omega)) (.go (by simp;omega))
theorem inp_target_tot(s:ar)(b:aa)(p:ah)(hl:b.Words.length≤1000):Tot (gW s b p) (λ_=>True):=by
 unfold gW
 simp only[kd b _ hl,al]
 refine Tot.bind (E:=λ_=>True) (Tot.bind (E:=λ_=>True) (Tot.ite (λ_=>.ok trivial) (λ_=>Tot.ite (λ_=>.ok trivial) (λ_=>.ok trivial))) λ_ _=>Tot.bind (E:=λ_=>True) (Tot.ite (λ_=>.ok trivial) (λ_=>Tot.ite (λ_=>.ok trivial) (λ_=>.ok trivial))) λ_ _=>Tot.bind (E:=λ_=>True) (Tot.ite (λ_=>.ok trivial) (λ_=>Tot.ite (λ_=>.ok trivial) (λ_=>.ok trivial))) λ_ _=>.ok trivial) λ_ _=>.ok trivial
theorem inp_positions_tot(s:ar)(c:av)(b:aa)(p:ah)(hl:b.Words.length≤1000):Tot (eF s c b p) (λr=>r.1.length≤300000):=by
 unfold eF
 refine Tot.bind (inp_target_tot s ⟨b.Skip,b.Words,b.Comment⟩ p hl) λq _=>Tot.ite (λ_=>.ok (by simp)) (λ_=>Tot.ite (λ_=>.ok (by simp)) (λ_=>Tot.bind (E:=λ_=>True) (.ok trivial) λy _=>Tot.ite (λ_=>Tot.bind (inp_canned_tot _ _ _ _ _ hl) λr hr=>.ok hr) (λ_=>Tot.bind (inp_arc_tot _ ⟨b.Skip,b.Words,b.Comment⟩ _ _ hl) λr hr=>.ok (by simp only;omega))))
theorem endW_cons(x:ax)(l:List ax)(p:ah):endW p (x::l)=endW x.To l:=by
 cases l with
 | nil=>rfl
 | cons y r =>
  unfold endW
  rw[List.getLast?_cons_cons]
  cases h:(y::r).getLast? with
  | none=>simp at h
  | some z=>rfl
theorem connW_snoc(l:List ax)(m:ax):∀p,connW p (l++[m])=(connW p l&&posEq m.From (endW p l)):=by
 induction l with
 | nil=>intro p;simp[connW,endW]
 | cons x l ih =>
  intro p
  simp only[zH,connW,ih]
  rw[endW_cons,zX]
theorem endW_snoc(l:List ax)(m:ax)(p:ah):endW p (l++[m])=m.To:=by simp[endW]
theorem posEq_refl(p:ah):posEq p p=true:=posEq_iff.2 rfl
def goodM(p:ah)(l:List ax):Prop:=connW p l=true∧(∀m∈l,inR m.From∧inR m.To∧m.From≠m.To)∧inR (endW p l)
def okS(b:aa):Prop:=(∀w∈b.Words,u8W w)∧b.Words.length≤1000∧b.Comment.length≤1000
def stepE(p:ah)(b:aa)(r:List ax×ar×av×Int):Prop:=r.1.length≤300000∧(∀m∈r.1,m.Block=0)∧(r.2.2.2=0→goodM p r.1∧goodW [] b.Words=true)
theorem ed{p:ah}{b:aa}{s:ar}{c:av}{e:Int}(h:e≠0):stepE p b ([],s,c,e):=⟨by simp,by simp,λq=>absurd q h⟩
theorem inp_Step_tot(s:ar)(c:av)(b:aa)(t:aF)(p:ah)(hb:okS b)(ht:t.Lengths.length≤1000):Tot (iG s c b t p) (stepE p b):=by
 obtain⟨hu,hl,hc⟩:=hb
 have hok:okB b:=⟨hu,by omega⟩
 unfold iG
 refine Tot.bind (inp_checked_tot t p ht) λe he=>Tot.ite (λh=>.ok (ed (by simpa using h))) (λh0=>?_)
 have hp:=he (by simpa using h0)
 refine Tot.bind (E:=λx=>x=true∨goodW [] b.Words=true) (Tot.bind (bk_Valid_tot b hl hc) λ_ _=>Tot.ite (λ_=>.ok (.inl rfl)) (λ_=>Tot.bind (E:=λx=>x=if goodW [] b.Words=true then 0 else 1) (.eq (md_Check_eq b hu (by omega)) rfl) λx hx=>Tot.ite (λ_=>.ok (.inl rfl)) (λhx0=>Tot.bind (inp_known_tot b hl) λ_ _=>.ok (.inr ?_)))) λbad hbad=>Tot.ite (λ_=>.ok (ed (by decide))) (λhbf=>?_)
 ·rw[hx]at hx0
  cases hg:goodW [] b.Words with
  | true=>rfl
  | false=>simp[hg]at hx0
 have hgood:=hbad.resolve_left (by simp[hbf])
 refine Tot.bind (E:=λ_=>True) (.eq (md_Apply_eq s b hok) trivial) λr _=>Tot.ite (λh=>.ok (ed (by simpa using h))) (λ_=>?_)
 refine Tot.bind (E:=λ_=>True) (.ok trivial) λcy _=>Tot.bind (E:=λ_=>True) (Tot.ite (λ_=>.ok trivial) (λ_=>.ok trivial)) λc2 _=>?_
 simp only[inp_has_eq b _ hl (show ([88,89,90,73,74,81,82]:List UInt8).length≤1000 by decide),inp_has_eq b _ hl (show ([73,74]:List UInt8).length≤1000 by decide),inp_has_eq b _ hl (show ([81,82]:List UInt8).length≤1000 by decide),al,eh]
 refine Tot.ite (λ_=>.ok ⟨by simp,by simp,λ_=>⟨⟨rfl,by simp,hp⟩,hgood⟩⟩) (λ_=>?_)
 refine Tot.bind (E:=λ_=>True) ?_ λbad _=>Tot.ite (λ_=>.ok (ed (by decide))) (λ_=>Tot.ite (λ_=>.ok (ed (by decide))) (λ_=>?_))
 ·repeat' (first | exact .ok trivial | refine Tot.ite (λ_=>?_) (λ_=>?_))
 refine Tot.bind (E:=λ_=>True) (Tot.ite (λ_=>.ok trivial) (λ_=>.ok trivial)) λnum _=>Tot.bind (tb_Work_tot ⟨t.Work,t.Lengths⟩ _ _ _ ht) λwp _=>Tot.ite (λh=>.ok (ed (by simpa using h))) (λ_=>?_)
 refine Tot.bind (inp_positions_tot _ _ ⟨b.Skip,b.Words,b.Comment⟩ _ hl) λps hps=>Tot.ite (λh=>.ok (ed (by simpa using h))) (λ_=>?_)
 refine Tot.bindX (E:=λv:List ax×ah=>v.1.length≤300000∧(∀m∈v.1,m.Block=0)∧goodM p v.1) (TotX.guard (aZ (by omega)) (TotX.of (Tot.range (λ(i:Nat) (v:List ax×ah)=>v.1.length≤i∧(∀m∈v.1,m.Block=0)∧goodM p v.1∧v.2=endW p v.1) _ ⟨by simp,by simp,⟨rfl,by simp,hp⟩,rfl⟩ (λi x v hx hr=>?_) (λv hv=>.ok ⟨by have:=hv.1;simp only;omega,hv.2.1,hv.2.2.1⟩)))) (λv hv=>.ok ⟨hv.1,hv.2.1,λ_=>⟨hv.2.2,hgood⟩⟩)
 have hi:=ao hx
 obtain⟨a1,a2,a3,a4⟩:=hr
 refine TotX.bind (tb_Machine_tot ⟨t.Work,t.Lengths⟩ _ _ _ ht) λq2 hto=>TotX.ite (λh=>.ret (ed (by simpa using h))) (λh=>?_)
 have hto':=hto (by simpa using h)
 have hv2:inR v.2:=a4▸a3.2.2
 refine TotX.bind (E:=λl=>l.length≤i+1∧(∀m∈l,m.Block=0)∧goodM p l∧q2.1=endW p l) (Tot.ite (λhne=>Tot.guard (bd (by omega)) (.ok ?_)) (λheq=>.ok ?_)) λl hl=>.go hl
 ·have hne':¬(q2.1=v.2):=by
   intro e
   have:posEq q2.1 v.2=true:=posEq_iff.2 e
   unfold posEq at this
   simp[this]at hne
  refine⟨by simp;omega,?_,⟨?_,?_,?_⟩,?_⟩
  ·intro m hm
   rcases List.mem_append.1 hm with q | q
   ·exact a2 m q
   ·simp at q;subst q;rfl
  ·rw[connW_snoc,a3.1,a4]
   exact posEq_refl _
  ·intro m hm
   rcases List.mem_append.1 hm with q | q
   ·exact a3.2.1 m q
   ·simp at q;subst q;exact⟨hv2,hto',λe=>hne' e.symm⟩
  ·rw[endW_snoc];exact hto'
  ·rw[endW_snoc]
 ·have he:q2.1=v.2:=by
   refine posEq_iff.1 ?_
   unfold posEq
   simpa using heq
  exact⟨by omega,a2,a3,by rw[he];exact a4⟩
def codesW(b:aa)(c:Int):List Int:=(b.Words.filter λw=>w.Letter==c).map (·.Value)
theorem codes_fold(l:List aw)(c:Int):∀o:List Int,l.foldl (λo w=>if (w.Letter==c)=true then o++[w.Value]else o) o=o++(l.filter λw=>w.Letter==c).map (·.Value):=by
 induction l with
 | nil=>intro o;simp
 | cons w l ih =>
  intro o
  rw[zV,ih]
  by_cases h:(w.Letter==c)=true
  ·simp[h]
  ·simp[h]
theorem bk_Codes_eq(b:aa)(c:Int)(hl:b.Words.length≤1000):dQ b c=some (codesW b c):=by
 unfold dQ
 rw[aZ (by omega),aO,gR (g:=λ(o:List Int) (w:aw)=>if (w.Letter==c)=true then o++[w.Value]else o) (R:=λi v=>v.length≤i) (L:=b.Words) ?_ b.Words 0 [] rfl (by simp)]
 ·rw[al,codes_fold];rfl
 ·intro i x v hx hr
  have hlt:=ao hx
  by_cases h:(x.Letter==c)=true
  ·simp only[h,if_true]
   rw[bd (by omega),aO]
   exact⟨rfl,by simp;omega⟩
  ·have h':(x.Letter==c)=false:=by simpa using h
   simp only[h',zA,if_false]
   exact⟨rfl,by omega⟩
theorem range_idx{f:Nat→Int→Unit→Option (Ex (Ex Int Unit) Unit)}{p:Int→Bool}(hf:∀(i:Nat) x,f i x ()=if p x=true then some (.ret (.ret (i:Int)))else some (.go ())):∀(l:List Int) (i:Nat),∃k:Nat,aU f (λ_=>some (.go ())) l i ()=some (if l.any p=true then .ret (k:Int)else .go ())
 | [],i=>⟨0,rfl⟩
 | x::l,i=>by
  simp only[aU,hf i x,List.any_cons]
  by_cases h:p x=true
  ·exact⟨i,by simp[h]⟩
  ·have h':p x=false:=by simpa using h
   obtain⟨k,hk⟩:=range_idx hf l (i+1)
   exact⟨k,by simpa [h'] using hk⟩
theorem contains_eq(l:List Int)(c:Int)(hl:l.length≤1000):aY l c=some (l.contains c):=by
 unfold aY bq
 rw[aZ (by omega),aO]
 obtain⟨k,hk⟩:=range_idx (f:=λ(i127:Nat) (e129:Int) (_:Unit)=>if (c==e129)=true then some (.ret (.ret (i127:Int)))else some (.go ())) (p:=λx=>c==x) (λi x=>rfl) l 0
 rw[hk]
 have:l.any (λx=>c==x)=l.contains c:=by
  rw[Bool.eq_iff_iff,List.contains_iff_mem];simp
 rw[this]
 cases l.contains c<;>simp
def setB(i:Nat)(m:ax):ax:=⟨m.From,m.To,m.Rate,m.Tool,(i:Int)⟩
theorem range_set{L:List ax}(g:ax→ax){f:Nat→ax→List ax→Option (Ex (List ax) (List ax))}(hf:∀(i:Nat) x v e,gt v (i:Int)=some e→f i x v=some (.go (v.set i (g e)))):aU f (λv=>some v) L 0 L=some (L.map g):=by
  obtain⟨e,h1,h2⟩:=rangeX_inv (f:=f) (d:=λv=>some v) (λi v=>v=(L.take i).map g++L.drop i) (λe=>e=L.map g) L (λi x v hx hr=>by
    right
    have hlt:=ao hx
    have hgt:gt v (i:Int)=some x:=by
      refine gt_k ?_
      rw[hr,List.getElem?_append_right (by simp;omega)]
      simp[Nat.min_eq_left (Nat.le_of_lt hlt),hx]
    refine⟨_,hf i x v x hgt,?_⟩
    rw[hr,List.set_append_right _ _ (by simp;omega)]
    have hd:L.drop i=x::L.drop (i+1):=by
      rw[List.drop_eq_getElem_cons hlt]
      rw[List.getElem?_eq_getElem hlt]at hx
      injection hx with hx
      rw[hx]
    rw[hd,zJ,hx]
    simp[Nat.min_eq_left (Nat.le_of_lt hlt)]) (λv hv=>⟨v,rfl,by simpa using hv⟩) L 0 L rfl (Nat.zero_le _) (by simp)
  rw[h1,h2]
def zC:av:=⟨0,0,0,0,0,0,false⟩
def stepT(s:ar)(c:av)(b:aa)(t:aF)(p:ah):List ax×ar×av×Int:=(iG s c b t p).getD ([],zS,zC,1)
theorem stepT_eq{s:ar}{c:av}{b:aa}{t:aF}{p:ah}(hb:okS b)(ht:t.Lengths.length≤1000):iG s c b t p=some (stepT s c b t p):=by
 obtain⟨e,h,_⟩:=inp_Step_tot s c b t p hb ht
 unfold stepT;rw[h];rfl
theorem stepT_E{s:ar}{c:av}{b:aa}{t:aF}{p:ah}(hb:okS b)(ht:t.Lengths.length≤1000):stepE p b (stepT s c b t p):=by
 obtain⟨e,h,h2⟩:=inp_Step_tot s c b t p hb ht
 unfold stepT;rw[h];exact h2
abbrev Run:=List ax×ah×ar×av
def endsW(b:aa):Bool:=(codesW b 77).contains 30000
def runB(t:aF)(N:Nat):Nat→List aa→Run→List ax×aK
 | _,[],v=>(v.1,⟨(N:Int),13⟩)
 | i,b::l,v =>
  let r:=stepT v.2.2.1 v.2.2.2 b t v.2.1
  if r.2.2.2≠0 then (v.1,⟨(i:Int),r.2.2.2⟩)
  else if v.1.length+r.1.length>20000 then (v.1,⟨(i:Int),3⟩)
  else if endsW b=true then (v.1++r.1.map (setB i),⟨-1,0⟩)
  else runB t N (i+1) l (v.1++r.1.map (setB i),endW v.2.1 r.1,r.2.1,r.2.2.1)
theorem endW_map(p:ah)(i:Nat)(l:List ax):endW p (l.map (setB i))=endW p l:=by
 unfold endW
 rw[List.getLast?_map]
 cases l.getLast?<;>rfl
def newS:ar:=⟨0,90000,54000,49000,98000,0,0,0⟩
theorem inp_Blocks_eq (L : List aa) (t : aF) (p : ah) (e : Int) (he : cQ t p = some e) (hL : L.length ≤ 1000) (hb : ∀ b ∈ L, okS b) (ht : t.Lengths.length ≤ 1000) :
    fQ L t p=some (if e≠0 then ([],⟨-1,e⟩)else runB t L.length 0 L ([],p,newS,zC)):=by
  unfold fQ
  rw[show (aF.mk t.Work t.Lengths)=t from rfl,he,al]
  by_cases h0:e=0
  · have h0':(e != 0)=false:=by simp[h0]
    rw[if_neg (show ¬(e≠0) by simpa using h0)]
    simp only[h0',zA,if_false,md_New,al]
    rw[aZ (by omega),aO]
    have key : ∀ (f : Nat → aa → Run → Option (Ex (Ex (List ax × aK) Run) Run)),
        (∀(i:Nat) (b:aa) (v:Run),b∈L→v.1.length≤20000→f i b v=(let r:=stepT v.2.2.1 v.2.2.2 b t v.2.1
          if r.2.2.2≠0 then some (.ret (.ret (v.1,⟨(i:Int),r.2.2.2⟩)))
          else if v.1.length+r.1.length>20000 then some (.ret (.ret (v.1,⟨(i:Int),3⟩)))
          else if endsW b=true then some (.ret (.ret (v.1++r.1.map (setB i),⟨-1,0⟩)))
          else some (.go (v.1++r.1.map (setB i),endW v.2.1 r.1,r.2.1,r.2.2.1)))) →
        ∀(l:List aa) (i:Nat) (v:Run),(∀b∈l,b∈L)→v.1.length≤20000→bindX (aU f (λv=>some (.go (v.1,v.2.1,v.2.2.1,v.2.2.2))) l i v) (λv=>some (v.1,aK.mk (L.length:Int) 13))=some (runB t L.length i l v):=by
      intro f hf l
      induction l with
      | nil=>intro i v _ _;rfl
      | cons b l ih =>
        intro i v hm hv
        simp only[aU,hf i b v (hm b (by simp)) hv,runB]
        by_cases h1:(stepT v.2.2.1 v.2.2.2 b t v.2.1).2.2.2=0
        · by_cases h2:v.1.length+(stepT v.2.2.1 v.2.2.2 b t v.2.1).1.length>20000
          · simp[h1,h2]
          · by_cases h3:endsW b=true
            · simp[h1,h2,h3]
            · simp only[h1,h2,h3,ne_eq,not_true_eq_false,if_false]
              exact ih (i+1) _ (λb hb=>hm b (by simp[hb])) (by simp;omega)
        · simp[h1]
    refine key _ ?_ L 0 _ (λb h=>h) (by simp)
    intro i b v hbL hv
    have hbk:=hb b hbL
    rw[stepT_eq hbk ht,al]
    have hE:=stepT_E (s:=v.2.2.1) (c:=v.2.2.2) (p:=v.2.1) hbk ht
    generalize stepT v.2.2.1 v.2.2.2 b t v.2.1=r at hE
    obtain⟨hlen,_,_⟩:=hE
    simp only
    by_cases h1:r.2.2.2=0
    · have hw:kR.wrap ((v.1.length:Int)+(r.1.length:Int))=(v.1.length:Int)+(r.1.length:Int):=wrap_i64 (by omega) (by omega)
      by_cases h2:v.1.length+r.1.length>20000
      · have:decide ((v.1.length:Int)+(r.1.length:Int)>20000)=true:=by simp;omega
        simp[h1,hw,this,h2]
      · have h2':decide ((v.1.length:Int)+(r.1.length:Int)>20000)=false:=by simp;omega
        simp only[h1,beq_self_eq_true,if_true,hw,h2',al,zA,if_false,ne_eq,not_true_eq_false,h2,bne_self_eq_false]
        rw[aZ (by omega),aO,range_set (setB i) (λk x v e hg=>by rw[hg,al];rfl),al,bd (by simp;omega),aO,inp_End_eq _ _ (by simp;omega),al,bk_Codes_eq b _ hbk.2.1,al,contains_eq _ _ (by
          unfold codesW
          have:=List.length_filter_le (λw:aw=>w.Letter==77) b.Words
          have:=hbk.2.1
          simp;omega),al,endW_map]
        unfold endsW
        cases (codesW b 77).contains 30000<;>simp
    · simp[h1]
  · have h0':(e != 0)=true:=by simp[h0]
    simp[h0',h0]
def dj(t:fc):aF:=⟨t.Work,t.Lengths.map λl=>⟨l.Number,l.Length⟩⟩
theorem map_fold{α β:Type}(g:α→β)(l:List α):∀o:List β,l.foldl (λo x=>o++[g x]) o=o++l.map g:=by
 induction l with
 | nil=>intro o;simp
 | cons x l ih=>intro o;rw[zV,ih];simp
theorem connW_append(l m:List ax):∀p,connW p (l++m)=(connW p l&&connW (endW p l) m):=by
 induction l with
 | nil=>intro p;simp[connW,endW]
 | cons x l ih =>
  intro p
  simp only[zH,connW,ih,endW_cons,zX]
theorem endW_append(p:ah)(l m:List ax):endW p (l++m)=endW (endW p l) m:=by
  cases hm:m.getLast? with
  | none => have : m = [] := by simpa using hm
            subst this;simp[endW]
  | some x=>simp[endW,List.getLast?_append,hm]
theorem connW_map(i:Nat)(l:List ax):∀p,connW p (l.map (setB i))=connW p l:=by
 induction l with
 | nil=>intro p;rfl
 | cons x l ih=>intro p;simp only[kO,connW,ih];rfl
theorem goodM_map{p:ah}{l:List ax}(h:goodM p l)(i:Nat):goodM p (l.map (setB i)):=by
 refine⟨by rw[connW_map];exact h.1,?_,by rw[endW_map];exact h.2.2⟩
 intro m hm
 obtain⟨x,hx,rfl⟩:=List.mem_map.1 hm
 exact h.2.1 x hx
theorem goodM_append{p:ah}{l m:List ax}(h:goodM p l)(h2:goodM (endW p l) m):goodM p (l++m):=by
 refine⟨by rw[connW_append,h.1,h2.1];rfl,?_,by rw[endW_append];exact h2.2.2⟩
 intro x hx
 rcases List.mem_append.1 hx with q | q
 ·exact h.2.1 x q
 ·exact h2.2.1 x q
def runOk(p:ah)(i:Nat)(l:List ax):Prop:=goodM p l∧l.Pairwise (λa b=>a.Block≤b.Block)∧(∀m∈l,0≤m.Block∧m.Block<(i:Int))∧l.length≤20000
theorem runOk_add{p:ah}{i:Nat}{l m:List ax}(h:runOk p i l)(hm:goodM (endW p l) m)(hl:l.length+m.length≤20000):runOk p (i+1) (l++m.map (setB i)):=by
 obtain⟨a,b,c,d⟩:=h
 refine⟨goodM_append a (goodM_map hm i),?_,?_,by simp;omega⟩
 ·rw[List.pairwise_append]
  refine⟨b,?_,?_⟩
  ·rw[List.pairwise_map]
   exact List.Pairwise.imp (λ_=>Int.le_refl _) (List.pairwise_of_forall (R:=λ_ _=>True) (λ_ _=>trivial))
  ·intro x hx y hy
   obtain⟨z,_,rfl⟩:=List.mem_map.1 hy
   have:=(c x hx).2
   simp only[setB];omega
 ·intro x hx
  rcases List.mem_append.1 hx with q | q
  ·have:=c x q;omega
  ·obtain⟨z,_,rfl⟩:=List.mem_map.1 q
   simp only[setB];omega
theorem runB_ok(t:aF)(N:Nat)(p:ah)(ht:t.Lengths.length≤1000):∀(l:List aa) (i:Nat) (v:Run),(∀b∈l,okS b)→i+l.length=N→runOk p i v.1→v.2.1=endW p v.1 →
  runOk p N (runB t N i l v).1∧((runB t N i l v).2.Code≠0→∀m∈(runB t N i l v).1,m.Block<(runB t N i l v).2.Block)
 | [],i,v,_,hi,hr,_=>by
  simp only[zU,Nat.add_zero]at hi
  subst hi
  exact⟨hr,λ_ m hm=>(hr.2.2.1 m hm).2⟩
 | b::l,i,v,hb,hi,hr,hv=>by
  have hup:∀(j:Nat) (x:List ax),j≤N→runOk p j x→runOk p N x:=λj x hj h=>⟨h.1,h.2.1,λm hm=>by have:=h.2.2.1 m hm;omega,h.2.2.2⟩
  simp only[zQ]at hi
  have hE:=stepT_E (s:=v.2.2.1) (c:=v.2.2.2) (p:=v.2.1) (hb b (by simp)) ht
  simp only[runB]
  generalize stepT v.2.2.1 v.2.2.2 b t v.2.1=r at hE
  by_cases h1:r.2.2.2=0
  ·have hg:=(hE.2.2 h1).1
   rw[hv]at hg
   by_cases h2:v.1.length+r.1.length>20000
   ·simp only[h1,h2,ne_eq,not_true_eq_false,if_false,if_true]
    exact⟨hup i _ (by omega) hr,λ_ m hm=>(hr.2.2.1 m hm).2⟩
   ·have ha:=runOk_add hr hg (by omega)
    by_cases h3:endsW b=true
    ·simp only[h1,h2,h3,ne_eq,not_true_eq_false,if_false,if_true]
     exact⟨hup (i+1) _ (by omega) ha,λh=>h.elim⟩
    ·simp only[h1,h2,h3,ne_eq,not_true_eq_false,if_false]
     refine runB_ok t N p ht l (i+1) _ (λb hb'=>hb b (by simp[hb'])) (by omega) ha ?_
     simp only
     rw[endW_append,endW_map,hv]
  ·simp only[h1,ne_eq,not_false_eq_true,if_true]
   exact⟨hup i _ (by omega) hr,λ_ m hm=>(hr.2.2.1 m hm).2⟩
theorem r45_out_eq(p:ah):gI p=some (!decide (inR p)):=by
 unfold gI r45_far
 simp only[al]
 by_cases h1:(decide (p.X>10000000)||decide (p.X < -10000000))=true
 ·have:¬inR p:=by unfold inR;simp at h1;omega
  simp[h1,this]
 by_cases h2:(decide (p.Y>10000000)||decide (p.Y < -10000000))=true
 ·have:¬inR p:=by unfold inR;simp at h2;omega
  simp[h1,h2,this]
 by_cases h3:(decide (p.Z>10000000)||decide (p.Z < -10000000))=true
 ·have:¬inR p:=by unfold inR;simp at h3;omega
  simp[h1,h2,h3,this]
 ·have:inR p:=by unfold inR;simp at h1 h2 h3;omega
  simp[h1,h2,h3,this]
theorem valid_same(t:fc)(hl:t.Lengths.length≤1000):gz (dj t)=f9 t:=by
 unfold gz f9 dj
 simp only[tb_far_eq,r45_out_eq,al]
 by_cases h0:inR t.Work.e0
 ·by_cases h1:inR t.Work.e1
  ·by_cases h2:inR t.Work.e2
   ·by_cases h3:inR t.Work.e3
    ·by_cases h4:inR t.Work.e4
     ·by_cases h5:inR t.Work.e5
      ·simp only[h0,h1,h2,h3,h4,h5,decide_true,zO,zA,if_false,bindX_g,al]
       rw[aZ (l:=t.Lengths) (by omega),aZ (by simp;omega),aO,aO]
       simp only[show decide ((-1:Int)≥0)=false by decide,zA,if_false]
       congr 1
       have key:∀(f:Nat→aJ→Unit→Option (Ex (Ex Int Unit) Unit)) (g:Nat→cP→Unit→Option (Ex (Ex Int Unit) Unit)),(∀i x,t.Lengths[i]? = some x→f i ⟨x.Number,x.Length⟩ ()=g i x ())→(∀i x,t.Lengths[i]? = some x→∃e,g i x ()=some e) →
         ∀(l:List cP) (i:Nat),t.Lengths.drop i=l→aU f (λ_=>some (.go ())) (l.map λl=>⟨l.Number,l.Length⟩) i ()=aU g (λ_=>some (.go ())) l i ():=by
        intro f g hfg hg l
        induction l with
        | nil=>intro i _;rfl
        | cons x l ih =>
         intro i hd
         have hx:t.Lengths[i]? = some x:=by
          have:(t.Lengths.drop i)[0]? = some x:=by rw[hd];rfl
          simpa using this
         have hrest:t.Lengths.drop (i+1)=l:=by rw[←List.drop_drop,hd];rfl
         simp only[kO,aU,hfg i x hx]
         obtain⟨e,he⟩:=hg i x hx
         rw[he]
         cases e with
         | ret e=>rfl
         | go v=>exact ih (i+1) hrest
       refine key _ _ ?_ ?_ t.Lengths 0 rfl
       ·intro i x hx
        have hlt:=ao hx
        change bindO (bindO (jO ⟨x.Number,x.Length⟩) _) _=_
        unfold jO jt
        simp only[al]
        by_cases hi:i=0
        ·subst hi;simp
        ·rw[wrap_i64 (by omega) (by omega),show ((i:Int)-1)=((i-1:Nat):Int) by omega]
         obtain⟨y,hy⟩:∃y,t.Lengths[i-1]? = some y:=⟨_,List.getElem?_eq_getElem (by omega)⟩
         rw[gt_k hy,gt_k (x:=⟨y.Number,y.Length⟩) (by rw[List.getElem?_map,hy];rfl)]
         simp only[al,ge_iff_le]
       ·intro i x hx
        have hlt:=ao hx
        unfold jt
        simp only[al]
        by_cases hi:i=0
        ·subst hi
         refine Exists.imp (λ_ h=>h) ?_
         have:=Tot.bind (m:=if (decide (x.Number≥1)&&(decide (x.Number≤999)&&(decide (x.Length≥0)&&decide (x.Length≤10000000))))=true then (if decide (((0:Nat):Int)>0)=true then bindO (gt t.Lengths (kR.wrap (((0:Nat):Int)-1))) λ(e197:cP)=>some (decide (x.Number≤e197.Number))else some false)else some true) (E:=λ_=>True) (F:=λ_=>True) (f:=λv198:Bool=>if v198=true then (some (.ret (.ret 1)):Option (Ex (Ex Int Unit) Unit))else some (.go ())) (Tot.ite (λ_=>.ok trivial) (λ_=>.ok trivial)) (λb _=>Tot.ite (λ_=>.ok trivial) (λ_=>.ok trivial))
         obtain⟨e,he,_⟩:=this
         exact⟨e,he⟩
        ·rw[wrap_i64 (by omega) (by omega),show ((i:Int)-1)=((i-1:Nat):Int) by omega]
         obtain⟨y,hy⟩:∃y,t.Lengths[i-1]? = some y:=⟨_,List.getElem?_eq_getElem (by omega)⟩
         rw[gt_k hy]
         simp only[al]
         have:=Tot.bind (m:=if (decide (x.Number≥1)&&(decide (x.Number≤999)&&(decide (x.Length≥0)&&decide (x.Length≤10000000))))=true then (if decide ((i:Int)>0)=true then some (decide (x.Number≤y.Number))else some false)else some true) (E:=λ_=>True) (F:=λ_=>True) (f:=λv198:Bool=>if v198=true then (some (.ret (.ret 1)):Option (Ex (Ex Int Unit) Unit))else some (.go ())) (Tot.ite (λ_=>Tot.ite (λ_=>.ok trivial) (λ_=>.ok trivial)) (λ_=>.ok trivial)) (λb _=>Tot.ite (λ_=>.ok trivial) (λ_=>.ok trivial))
         obtain⟨e,he,_⟩:=this
         exact⟨e,he⟩
      ·simp[h0,h1,h2,h3,h4,h5]
     ·simp[h0,h1,h2,h3,h4]
    ·simp[h0,h1,h2,h3]
   ·simp[h0,h1,h2]
  ·simp[h0,h1]
 ·simp[h0]
theorem r45_Valid_tot(t:fc)(hl:t.Lengths.length≤1000):Tot (f9 t) (λe=>e=0∨e=1):=by
 rw[←valid_same t hl]
 exact (jk (dj t) (by simp[dj];omega)).mono λe h=>h.1
set_option linter.unusedVariables false
set_option linter.unusedSimpArgs false
structure CycOk (c:av):Prop where
 code:c.Code=83000∨c.Code=81000∨c.Code=82000
 zr:c.Z<c.R
 ri:c.R≤c.Initial
 rate:1≤c.Rate∧c.Rate≤1000000000000
 q:c.Code=83000→0<c.Q∧c.Q≤10000000
 r:-10000000≤c.R∧c.R≤10000000
 z:-10000000≤c.Z∧c.Z≤10000000
 i:-10000000≤c.Initial∧c.Initial≤10000000
 n:c.Code=83000→0≤(c.R-c.Z-1) / c.Q∧(c.R-c.Z-1) / c.Q≤999
def far3(p:ah)(g:bM):Prop:=(p.X>10000000∨p.X < -10000000)∨(p.Y>10000000∨p.Y < -10000000)∨(p.Z>10000000∨p.Z < -10000000)∨(g.X>10000000∨g.X < -10000000)∨(g.Y>10000000∨g.Y < -10000000)
instance (p:ah) (g:bM):Decidable (far3 p g):=by unfold far3;infer_instance
theorem wrap_u64(n:Int):IntKind.u64.wrap n=n % 18446744073709551616:=by
 simp[IntKind.wrap,IntKind.bits,IntKind.signed]
def dst(a b:Int):Int:=if a<b then b-a else a-b
def rad(p:ah)(c:bM):Int:=if p.Y=c.Y then dst p.X c.X else if p.X=c.X then dst p.Y c.Y else 0
theorem bindX_go{ε ν:Type}{f:ν→Option ε}{v:ν}:bindX (some (.go v)) f=f v:=rfl
def IsCh(r n:Int):Prop:=1≤n∧r≤10*(n*n)∧10*((n-1)*(n-1))<r
theorem sq_mono{a b:Int}(h0:0≤a)(h:a≤b):a*a≤b*b:=zF h h h0 (by omega)
def kc(r:Int):Nat→Int→Int
 | 0,n=>n
 | f+1,n=>if 10*(n*n)<r then kc r f (n+1)else n
theorem chordsFrom_is(r:Int):∀(f:Nat) (n:Int),1≤n→10*((n-1)*(n-1))<r→r≤10*((n+f)*(n+f))→IsCh r (kc r f n):=by
 intro f
 induction f with
 | zero=>intro n h1 h2 h3;show IsCh r n;exact⟨h1,by simpa using h3,h2⟩
 | succ f ih =>
  intro n h1 h2 h3
  unfold kc
  split
  ·rename_i h
   exact ih (n+1) (by omega) (by rw[show n+1-1=n from by omega];omega) (by rw[show n+1+(f:Int)=n+((f+1:Nat):Int) from by omega];exact h3)
  ·exact⟨h1,by omega,h2⟩
def chordsM(r:Int):Int:=if r≤0 then 0 else kc r r.toNat 1
theorem chordsM_is{r:Int}(h:0<r):IsCh r (chordsM r):=by
 unfold chordsM
 rw[if_neg (by omega)]
 refine chordsFrom_is r _ 1 (by omega) (by simpa using h) ?_
 have e:(1:Int)+(r.toNat:Int)=1+r:=by omega
 rw[e]
 have:=zF (a:=1) (b:=r) (c:=1+r) (d:=1+r) (by omega) (by omega) (by omega) (by omega)
 have h2:(1+r)*(1+r)=1+r+r*(1+r):=by rw[zL,Int.one_mul]
 omega
theorem IsCh.le{r n b:Int}(h:IsCh r n)(hb:0≤b)(hr:r≤10*(b*b)):n≤b:=by
 rcases Int.lt_or_le b n with h1 | h1
 ·have:=sq_mono (a:=b) (b:=n-1) hb (by omega)
  have:=h.2.2
  omega
 ·exact h1
def rot:Nat→Int→Int→Int×Int
 | 0,x,y=>(x,y)
 | n+1,x,y=>(-(rot n x y).2,(rot n x y).1)
theorem rot_bd(b:Int)(n:Nat)(x y:Int)(hx:-b≤x∧x≤b)(hy:-b≤y∧y≤b):(-b≤(rot n x y).1∧(rot n x y).1≤b)∧(-b≤(rot n x y).2∧(rot n x y).2≤b):=by
 induction n with
 | zero=>exact⟨hx,hy⟩
 | succ n ih=>simp only[rot];omega
def chordX(r n k:Int):Int:=r*(n*n-k*k) / (n*n+k*k)
def chordY(r n k:Int):Int:=2*r*k*n / (n*n+k*k)
def arcXY(kind:Int)(first q:Nat)(x y:Int):Int×Int:=if kind=3 then rot (first+4-q) x (-y)else rot (first+q) x y
theorem chord_facts{R n K:Int}(h1:0<R)(h2:R≤10000000)(h3:n≤1000)(h4:1≤K)(h5:K≤n) :
  kR.wrap (n*n)=n*n∧kR.wrap (K*K)=K*K∧kR.wrap (n*n-K*K)=n*n-K*K∧kR.wrap (R*(n*n-K*K))=R*(n*n-K*K)∧kR.wrap (n*n+K*K)=n*n+K*K ∧
  kR.wrap ((R*(n*n-K*K)).tdiv (n*n+K*K))=chordX R n K∧kR.wrap (2*R)=2*R∧kR.wrap (2*R*K)=2*R*K∧kR.wrap (2*R*K*n)=2*R*K*n∧kR.wrap ((2*R*K*n).tdiv (n*n+K*K))=chordY R n K ∧
  ¬n*n+K*K=0∧(0≤chordX R n K∧chordX R n K≤R)∧(0≤chordY R n K∧chordY R n K≤R):=by
 have a1:n*n≤1000*1000:=sq_mono (by omega) h3
 have a2:1*1≤K*K:=sq_mono (by omega) h4
 have a3:K*K≤n*n:=sq_mono (by omega) h5
 have a4:0≤R*(n*n-K*K):=zE (by omega) (by omega)
 have a5:R*(n*n-K*K)≤R*(n*n+K*K):=zI (by omega) (by omega)
 have a6:R*(n*n+K*K)≤10000000*2000000:=zF h2 (by omega) (by omega) (by omega)
 have b1:R*K≤10000000*1000:=zF h2 (by omega) (by omega) (by omega)
 have b2:0≤R*K:=zE (by omega) (by omega)
 have b3:R*K*n≤10000000000*1000:=zF b1 h3 (by omega) (by omega)
 have b4:0≤R*K*n:=zE b2 (by omega)
 have c1:2*R*K=2*(R*K):=zG _ _ _
 have c2:2*R*K*n=2*(R*K*n):=by rw[c1,zG]
 have d1:2*(K*n)≤n*n+K*K:=by
  have e:=zE (show 0≤n-K by omega) (show 0≤n-K by omega)
  have e2:(n-K)*(n-K)=n*n-2*(K*n)+K*K:=by
   rw[Int.sub_mul,Int.mul_sub,Int.mul_sub,Int.mul_comm n K];omega
  omega
 have d2:2*R*K*n≤R*(n*n+K*K):=by
  have e:=zI d1 (show 0≤R by omega)
  have e3:R*(2*(K*n))=2*R*K*n:=by
   rw[c2,zG R K n,←zG R 2,Int.mul_comm R 2,zG]
  omega
 have x1:0≤chordX R n K:=zK a4 (by omega)
 have x2:chordX R n K≤R:=by
  have:chordX R n K<R+1:=zM (by omega) (by rw[zL];omega)
  omega
 have y1:0≤chordY R n K:=zK (by omega) (by omega)
 have y2:chordY R n K≤R:=by
  have:chordY R n K<R+1:=zM (by omega) (by rw[zL];omega)
  omega
 refine⟨IntWalk.i64_in _ (by omega),IntWalk.i64_in _ (by omega),IntWalk.i64_in _ (by omega),IntWalk.i64_in _ (by omega),IntWalk.i64_in _ (by omega),?_,IntWalk.i64_in _ (by omega),IntWalk.i64_in _ (by omega),IntWalk.i64_in _ (by omega),?_,by omega,⟨x1,x2⟩,⟨y1,y2⟩⟩
 ·rw[zB a4];exact IntWalk.i64_in _ (by unfold chordX at x1 x2;omega)
 ·rw[zB (by omega)];exact IntWalk.i64_in _ (by unfold chordY at y1 y2;omega)
theorem arcXY_bd(R k:Int)(f q:Nat){x y:Int}(hx:0≤x∧x≤R)(hy:0≤y∧y≤R):(-R≤(arcXY k f q x y).1∧(arcXY k f q x y).1≤R)∧(-R≤(arcXY k f q x y).2∧(arcXY k f q x y).2≤R):=by
 unfold arcXY
 split
 ·exact rot_bd R _ _ _ (by omega) (by omega)
 ·exact rot_bd R _ _ _ (by omega) (by omega)
def qd(p:ah)(c:bM):Nat:=if p.Y=c.Y∧p.X>c.X then 0 else if p.X=c.X∧p.Y>c.Y then 1 else if p.Y=c.Y∧p.X<c.X then 2 else if p.X=c.X∧p.Y<c.Y then 3 else 0
theorem qd_le(p:ah)(c:bM):qd p c≤3:=by
 unfold qd;repeat' split
 all_goals omega
def qtr(k:Int)(a b:Nat):Nat:=if k=3 then (if a≤b then a+4-b else a-b)else (if b≤a then b+4-a else b-a)
theorem qtr_bd{k:Int}{a b:Nat}(ha:a≤3)(hb:b≤3):1≤qtr k a b∧qtr k a b≤4:=by
 unfold qtr;repeat' split
 all_goals omega
structure ArcOk (p:ah) (m:aI):Prop where
 kind:m.Kind=3∨m.Kind=4
 p1:-10000000≤p.X∧p.X≤10000000
 p2:-10000000≤p.Y∧p.Y≤10000000
 p3:-10000000≤p.Z∧p.Z≤10000000
 t1:-10000000≤m.To.X∧m.To.X≤10000000
 t2:-10000000≤m.To.Y∧m.To.Y≤10000000
 t3:-10000000≤m.To.Z∧m.To.Z≤10000000
 c1:-10000000≤m.Center.X∧m.Center.X≤10000000
 c2:-10000000≤m.Center.Y∧m.Center.Y≤10000000
 r0:0<rad p m.Center
 r1:rad p m.Center=rad m.To m.Center
 x1:-10000000≤m.Center.X-rad p m.Center∧m.Center.X+rad p m.Center≤10000000
 y1:-10000000≤m.Center.Y-rad p m.Center∧m.Center.Y+rad p m.Center≤10000000
theorem ArcOk.rad_le{p:ah}{m:aI}(h:ArcOk p m):rad p m.Center≤10000000:=by
 have:=h.x1;omega
def arcN(p:ah)(m:aI):Nat:=(chordsM (rad p m.Center)).toNat
def arcQ(p:ah)(m:aI):Nat:=qtr m.Kind (qd p m.Center) (qd m.To m.Center)
def arcXYi(p:ah)(m:aI)(i:Nat):Int×Int :=
 arcXY m.Kind (qd p m.Center) (i / arcN p m) (chordX (rad p m.Center) (arcN p m:Int) ((i % arcN p m+1:Nat):Int)) (chordY (rad p m.Center) (arcN p m:Int) ((i % arcN p m+1:Nat):Int))
theorem ArcOk.n{p:ah}{m:aI}(h:ArcOk p m):chordsM (rad p m.Center)=(arcN p m:Int)∧1≤arcN p m∧arcN p m≤1000:=by
 have h1:=chordsM_is h.r0
 have h2:=h1.le (b:=1000) (by omega) (by have:=h.rad_le;omega)
 have h3:=h1.1
 unfold arcN
 omega
theorem ArcOk.q{p:ah}{m:aI}(h:ArcOk p m):1≤arcQ p m∧arcQ p m≤4:=qtr_bd (qd_le _ _) (qd_le _ _)
theorem ArcOk.all{p:ah}{m:aI}(h:ArcOk p m):1≤arcN p m*arcQ p m∧arcN p m*arcQ p m≤4000:=by
 obtain⟨_,a1,a2⟩:=h.n
 obtain⟨b1,b2⟩:=h.q
 exact⟨Nat.mul_le_mul a1 b1,Nat.mul_le_mul a2 b2⟩
theorem arc_idx{N q j:Nat}(hj:j<N):(N*q+j) / N=q∧(N*q+j) % N=j:=by
 constructor
 ·rw[Nat.mul_add_div (by omega),Nat.div_eq_of_lt hj];omega
 ·rw[Nat.mul_add_mod,Nat.mod_eq_of_lt hj]
theorem ArcOk.pt{p:ah}{m:aI}(h:ArcOk p m){q j:Nat}(hq:q<arcQ p m)(hj:j<arcN p m) :
  (-10000000≤(arcXYi p m (arcN p m*q+j)).1∧(arcXYi p m (arcN p m*q+j)).1≤10000000)∧(-10000000≤(arcXYi p m (arcN p m*q+j)).2∧(arcXYi p m (arcN p m*q+j)).2≤10000000)∧arcN p m*q+j<arcN p m*arcQ p m:=by
 obtain⟨_,a1,a2⟩:=h.n
 obtain⟨e1,e2⟩:=arc_idx (q:=q) hj
 have hf:=chord_facts (R:=rad p m.Center) (n:=(arcN p m:Int)) (K:=((j+1:Nat):Int)) h.r0 h.rad_le (by omega) (by omega) (by omega)
 obtain⟨_,_,_,_,_,_,_,_,_,_,_,hx,hy⟩:=hf
 have hb:=arcXY_bd (rad p m.Center) m.Kind (qd p m.Center) q hx hy
 have hr:=h.rad_le
 unfold arcXYi
 rw[e1,e2]
 refine⟨by omega,by omega,?_⟩
 have:=Nat.mul_le_mul_left (arcN p m) (show q+1≤arcQ p m by omega)
 rw[Nat.mul_add,Nat.mul_one]at this
 omega
def prn(c:UInt8):Bool:=decide ((c.toNat:Int)≥32)&&(decide ((c.toNat:Int)≤126)&&(((c.toNat:Int) != 40)&&((c.toNat:Int) != 41)))
def okW(w:aw):Prop:=65≤w.Letter∧w.Letter≤90∧-1000000000000≤w.Value∧w.Value≤1000000000000
def df(b:aa):Prop:=b.Words.length≤16∧b.Comment.length≤100∧(∀w∈b.Words,okW w)∧∀c∈b.Comment,prn c=true
theorem map_loop{α β:Type}(g:α→β)(l:List α)(hl:l.length≤1000000):(aE (okIdx l) (aU (λ(i:Nat) (e:α) (v:List β)=>aE (okLen (v.length+1)) (some (.go (v++[g e])))) (λv=>some v) l 0 []))=some (l.map g):=by
 rw[aZ (by omega),aO,gR (g:=λ(o:List β) (x:α)=>o++[g x]) (R:=λi v=>v.length≤i) (L:=l) ?_ l 0 [] rfl (by simp)]
 ·rw[map_fold];rfl
 ·intro i x v hx hr
  have hlt:=ao hx
  rw[bd (by omega),aO]
  exact⟨rfl,by simp;omega⟩
end Go.Proofs.YtplhejpjnfjopaaGreatDoor
