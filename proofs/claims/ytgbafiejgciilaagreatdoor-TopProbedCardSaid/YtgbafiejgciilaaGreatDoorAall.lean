/-
  Na, Qx, Qe, Vx, Vy, Vz, Wx, Wn in one text.
-/
import Derived.Test.YtgbafiejgciilaaGreatDoorIall
import Derived.Test.YtgbafiejgciilaaGreatDoorMB
import Derived.Test.YtgbafiejgciilaaGreatDoorPz
import Derived.Test.YtgbafiejgciilaaGreatDoorMH
import Derived.Test.YtgbafiejgciilaaGreatDoorMwe
open Bool renaming false_eq_true → zA,or_eq_true → zK,eq_iff_iff → zT,or_eq_false_iff → zY
open Int renaming tdiv_eq_ediv_of_nonneg → zB,mul_le_mul_of_nonneg_left → zD,mul_nonneg → zE,ediv_lt_of_lt_mul → zF,mul_le_mul → zH,mul_assoc → zI,mul_le_mul_of_nonneg_right → zL,tmod → zM,tdiv → zN,lt_trichotomy → zQ,ediv_nonneg → zU,add_mul → zW,le_ediv_of_mul_le → zX
open List renaming contains_cons → zG,not_mem_nil → zJ,mem_cons → zO,any_cons → zP,foldl_cons → zR,range → zZ
namespace Go.Proofs.YtgbafiejgciilaaGreatDoor
open Go.RowKit
def codes1:List Int:=[0,1000,2000,3000,80000,81000,82000,83000]
def codes2:List Int:=[90000,91000]
def codes3:List Int:=[54000,55000,56000,57000,58000,59000]
def codes4:List Int:=[43000,49000]
def codes5:List Int:=[98000,99000]
def grp(c:Int):Int:=if c∈codes1 then 1 else if c∈codes2 then 2 else if c∈codes3 then 3 else if c∈codes4 then 4 else if c∈codes5 then 5 else 0
theorem grp_cases(c:Int):(c∈codes1++codes2++codes3++codes4++codes5)∨(c∉codes1++codes2++codes3++codes4++codes5):=Decidable.em _
theorem iK(c:Int):jV c=some (grp c):=by
 rcases grp_cases c with h | h
 ·simp only[codes1,codes2,codes3,codes4,codes5,List.cons_append,List.nil_append,zO,zJ,or_false]at h
  rcases h with h | h | h | h | h | h | h | h | h | h | h | h | h | h | h | h | h | h | h | h<;>(subst h;decide)
 ·simp only[codes1,codes2,codes3,codes4,codes5,List.cons_append,List.nil_append,zO,zJ,or_false,not_or]at h
  have e:∀k:Int,c≠k→(c==k)=false:=λk hk=>by simpa using hk
  simp[jV,grp,codes1,codes2,codes3,codes4,codes5,e,h]
theorem grp_in(c:Int):grp c=0∨grp c=1∨grp c=2∨grp c=3∨grp c=4∨grp c=5:=by
 unfold grp
 by_cases h1:c∈codes1
 ·simp[h1]
 by_cases h2:c∈codes2
 ·simp[h1,h2]
 by_cases h3:c∈codes3
 ·simp[h1,h2,h3]
 by_cases h4:c∈codes4
 ·simp[h1,h2,h3,h4]
 by_cases h5:c∈codes5
 ·simp[h1,h2,h3,h4,h5]
 ·simp[h1,h2,h3,h4,h5]
def putW(s:am)(w:aN):am :=
 if w.Letter=71 then (if grp w.Value=1 then { s with Motion:=w.Value }else if grp w.Value=2 then { s with Distance:=w.Value }else if grp w.Value=3 then { s with Work:=w.Value }else if grp w.Value=4 then { s with Length:=w.Value }else { s with Return:=w.Value })
 else if w.Letter=70 then { s with Feed:=w.Value }else if w.Letter=84 then { s with Tool:=w.Value }else if w.Letter=72 then { s with Offset:=w.Value }else s
theorem md_put_eq(s:am)(w:aN)(h:w.Letter=71→grp w.Value≠0):md_put s w=some (putW s w):=by
 unfold md_put putW
 by_cases h1:w.Letter=71
 ·have h0:=h h1
  rcases grp_in w.Value with q | q | q | q | q | q
  ·exact absurd q h0
  all_goals (simp[h1,iK,q];rfl)
 ·by_cases h2:w.Letter=70
  ·simp[h2]
  ·by_cases h3:w.Letter=84
   ·simp[h3]
   ·by_cases h4:w.Letter=72<;>simp[h1,h2,h3,h4]
def clsW(w:aN):Int:=if w.Letter=71 then grp w.Value else 10+w.Letter
def ji(w:aN):Bool:=if w.Letter=70 then decide (w.Value≥0)else if w.Letter=84∨w.Letter=72 then decide (w.Value≥0)&&zM w.Value 1000==0 else true
def u8W(w:aN):Prop:=0≤w.Letter∧w.Letter≤255
def goodW:List Int→List aN→Bool
 | _,[]=>true
 | seen,w::r=>clsW w != 0&&ji w&&!(seen.contains (clsW w))&&goodW (clsW w::seen) r
def kA(seen:List Int)(lm gm:List (Int×Bool)):Prop :=
 (∀c,0≤c→c≠71→(mget lm c).getD false=seen.contains (10+c))∧∀k,1≤k→k≤5→(mget gm k).getD false=seen.contains k
theorem clsW_letter{w:aN}(h:w.Letter≠71):clsW w=10+w.Letter:=by simp[clsW,h]
theorem clsW_g{w:aN}(h:w.Letter=71):clsW w=grp w.Value:=by simp[clsW,h]
theorem mapsOk_letter{seen:List Int}{lm gm:List (Int×Bool)}(h:kA seen lm gm){c:Int}(h0:0≤c):kA ((10+c)::seen) (mput lm c true) gm:=by
 refine⟨λk hk h1=>?_,λk h1 h2=>?_⟩
 ·rw[mget_put,zG]
  by_cases e:k=c
  ·subst e;simp
  ·have:(k==c)=false:=by simpa using e
   have e2:(10+k==10+c)=false:=by simp;omega
   simp only[this,e2,zA,if_false,Bool.false_or]
   exact h.1 k hk h1
 ·rw[zG,h.2 k h1 h2]
  have:(k==10+c)=false:=by simp;omega
  simp[this]
theorem mapsOk_group{seen:List Int}{lm gm:List (Int×Bool)}(h:kA seen lm gm){g:Int}(h0:1≤g)(h5:g≤5):kA (g::seen) lm (mput gm g true):=by
 refine⟨λk hk h1=>?_,λk h1 h2=>?_⟩
 ·rw[zG,h.1 k hk h1]
  have:(10+k==g)=false:=by simp;omega
  simp[this]
 ·rw[mget_put,zG]
  by_cases e:k=g
  ·subst e;simp
  ·have:(k==g)=false:=by simpa using e
   simp only[this,zA,if_false,Bool.false_or]
   exact h.2 k h1 h2
abbrev MB:=List (Int×Bool)
def jx(seen:List Int)(w:aN):Bool:=clsW w != 0&&ji w&&!(seen.contains (clsW w))
theorem chk_loop{f:Nat→aN→MB×MB→Option (Ex (Ex Int (MB×MB)) (MB×MB))}{d:MB×MB→Option (Ex Int (MB×MB))}(hd:∀v,d v=some (.go v))
  (hf:∀i w seen lm gm,u8W w→kA seen lm gm→(jx seen w=true→∃lm' gm',f i w (lm,gm)=some (.go (lm',gm'))∧kA (clsW w::seen) lm' gm')∧(jx seen w=false→f i w (lm,gm)=some (.ret (.ret 1)))) :
  ∀(l:List aN) (i:Nat) (seen:List Int) (lm gm:MB),(∀w∈l,u8W w)→kA seen lm gm→(goodW seen l=true→∃v,aS f d l i (lm,gm)=some (.go v))∧(goodW seen l=false→aS f d l i (lm,gm)=some (.ret 1))
 | [],i,seen,lm,gm,_,_=>⟨λ_=>⟨_,hd _⟩,λh=>by simp[goodW]at h⟩
 | w::l,i,seen,lm,gm,hu,hm=>by
  have h:=hf i w seen lm gm (hu w (by simp)) hm
  have hg:goodW seen (w::l)=(jx seen w&&goodW (clsW w::seen) l):=rfl
  cases hn:jx seen w with
  | true =>
   obtain⟨lm',gm',h1,h2⟩:=h.1 hn
   rw[hg,hn,Bool.true_and]
   simp only[aS,h1]
   exact chk_loop hd hf l (i+1) _ lm' gm' (λw hw=>hu w (by simp[hw])) h2
  | false =>
   rw[hg,hn,Bool.false_and]
   refine⟨λq=>by simp at q,λ_=>?_⟩
   simp only[aS,h.2 hn]
theorem chk_fin{f:Nat→aN→MB×MB→Option (Ex (Ex Int (MB×MB)) (MB×MB))}{d:MB×MB→Option (Ex Int (MB×MB))}{l:List aN}(hu:∀w∈l,u8W w)(hd:∀v,d v=some (.go v))
  (hf:∀i w seen lm gm,u8W w→kA seen lm gm→(jx seen w=true→∃lm' gm',f i w (lm,gm)=some (.go (lm',gm'))∧kA (clsW w::seen) lm' gm')∧(jx seen w=false→f i w (lm,gm)=some (.ret (.ret 1)))) :
  bindX (aS f d l 0 ([],[])) (λ_=>some 0)=some (if goodW [] l=true then 0 else 1):=by
 have h:=chk_loop hd hf l 0 [] [] [] hu ⟨λc _ _=>by simp[mget],λk _ _=>by simp[mget]⟩
 cases hg:goodW [] l with
 | true=>obtain⟨v,hv⟩:=h.1 hg;rw[hv];rfl
 | false=>rw[h.2 hg];rfl
theorem md_Check_eq(b:au)(hu:∀w∈b.Words,u8W w)(hl:b.Words.length≤9223372036854775807):iM b=some (if goodW [] b.Words=true then 0 else 1):=by
 unfold iM
 rw[bE hl,bB]
 refine chk_fin hu (λ_=>rfl) ?_
 intro i w seen lm gm hw hm
 by_cases h1:w.Letter=71
 ·have hc:=clsW_g h1
  have hwh:ji w=true:=by simp[ji,h1]
  rcases grp_in w.Value with q | q
  ·refine⟨λh=>by simp[jx,hc,q]at h,λ_=>?_⟩
   simp[h1,iK,q]
  ·have hg:=hm.2 (grp w.Value) (by omega) (by omega)
   have hg0:grp w.Value≠0:=by omega
   constructor
   ·intro h
    have hs:grp w.Value∉seen:=by simp[jx,hc,hwh]at h;exact h.2
    refine⟨lm,mput gm (grp w.Value) true,?_,by rw[hc];exact mapsOk_group hm (by omega) (by omega)⟩
    simp[h1,iK,hg0,hg,hs]
   ·intro h
    have hs:grp w.Value∈seen:=by simp[jx,hc,hwh]at h;exact h hg0
    simp[h1,iK,hg0,hg,hs]
 ·have hc:=clsW_letter h1
  have hl:=hm.1 w.Letter hw.1 h1
  have hne:(clsW w==0)=false:=by rw[hc];simp;have:=hw.1;omega
  have hn:jx seen w=(ji w&&!(seen.contains (10+w.Letter))):=by
   have:(clsW w != 0)=true:=by simpa using hne
   rw[jx,this,hc];simp
  rw[hn]
  cases hs:seen.contains (10+w.Letter)with
  | true =>
   rw[hs]at hl
   refine⟨λh=>by simp at h,λ_=>?_⟩
   by_cases h2:w.Letter=70
   ·rw[h2]at hl
    by_cases hv:w.Value<0<;>simp[h2,hv,hl]
   ·by_cases h3:w.Letter=84∨w.Letter=72
    ·by_cases hv:w.Value<0
     ·rcases h3 with h3 | h3<;>(rw[h3]at hl;simp[h3,hv])
     ·by_cases hq:zM w.Value 1000=0
      ·rcases h3 with h3 | h3<;>(rw[h3]at hl;simp[h3,hv,hq,hl])
      ·rcases h3 with h3 | h3<;>(rw[h3]at hl;simp[h3,hv,hq])
    ·have h4:w.Letter≠84:=λe=>h3 (.inl e)
     have h5:w.Letter≠72:=λe=>h3 (.inr e)
     simp[h1,h2,h4,h5,hl]
  | false =>
   rw[hs]at hl
   have hg:kA (clsW w::seen) (mput lm w.Letter true) gm:=by rw[hc];exact mapsOk_letter hm hw.1
   refine⟨λh=>⟨mput lm w.Letter true,gm,?_,hg⟩,λh=>?_⟩
   ·have hwh:ji w=true:=by simpa using h
    unfold ji at hwh
    by_cases h2:w.Letter=70
    ·rw[h2]at hl
     have hv:¬w.Value<0:=by simp[h2]at hwh;omega
     simp[h2,hv,hl]
    ·by_cases h3:w.Letter=84∨w.Letter=72
     ·simp[h2,h3]at hwh
      have hv:¬w.Value<0:=by omega
      rcases h3 with h3 | h3<;>(rw[h3]at hl;simp[h3,hv,hwh.2,hl])
     ·have h4:w.Letter≠84:=λe=>h3 (.inl e)
      have h5:w.Letter≠72:=λe=>h3 (.inr e)
      simp[h1,h2,h4,h5,hl]
   ·have hwh:ji w=false:=by simpa using h
    unfold ji at hwh
    by_cases h2:w.Letter=70
    ·have hv:w.Value<0:=by simp[h2]at hwh;omega
     simp[h2,hv]
    ·by_cases h3:w.Letter=84∨w.Letter=72
     ·simp[h2,h3]at hwh
      by_cases hv:w.Value<0
      ·rcases h3 with h3 | h3<;>simp[h3,hv]
      ·have hq:¬zM w.Value 1000=0:=hwh (by omega)
       rcases h3 with h3 | h3<;>simp[h3,hv,hq]
     ·simp[h2,h3]at hwh
def okB(b:au):Prop:=(∀w∈b.Words,u8W w)∧b.Words.length≤9223372036854775806
theorem goodW_ne:∀(l:List aN) (s:List Int),goodW s l=true→∀w∈l,clsW w≠0
 | [],_,_,w,hw=>by simp at hw
 | x::l,s,h,w,hw=>by
  simp only[goodW,Bool.and_eq_true,bne_iff_ne]at h
  rcases List.mem_cons.1 hw with e | e
  ·subst e;exact h.1.1.1
  ·exact goodW_ne l _ h.2 w e
theorem cls_put{w:aN}(h:clsW w≠0):w.Letter=71→grp w.Value≠0:=λe=>by rwa [clsW_g e]at h
def zS:am:=⟨0,0,0,0,0,0,0,0⟩
theorem md_Apply_eq(s:am)(b:au)(h:okB b):md_Apply s b=some (if goodW [] b.Words=true then (b.Words.foldl putW s,0)else (zS,1)):=by
 unfold md_Apply
 rw[md_Check_eq b h.1 (by have:=h.2;omega),ae]
 cases hg:goodW [] b.Words with
 | false=>simp[zS]
 | true =>
  simp only[if_true]
  rw[bE (by have:=h.2;omega),bB,rangeX_go putW b.Words 0 s ?_]
  ·simp
  ·intro i x v hx
   rw[md_put_eq v x (cls_put (goodW_ne _ _ hg x hx)),ae]
def endW(p:aa)(l:List ah):aa:=match l.getLast? with | some m=>m.To | none=>p
theorem gt_last{α:Type}{l:List α}{x:α}(h:l.getLast? = some x)(hl:l.length≤9223372036854775807):gt l (IntKind.i64.wrap ((l.length:Int)-1))=some x:=by
 have hne:l≠[]:=by rintro rfl;simp at h
 have hp:0<l.length:=List.length_pos_iff.2 hne
 rw[wrap_i64 (by omega) (by omega),show ((l.length:Int)-1)=((l.length-1:Nat):Int) by omega]
 refine gt_k ?_
 rw[List.getLast?_eq_getElem?]at h
 exact h
theorem inp_End_eq(p:aa)(l:List ah)(hl:l.length≤9223372036854775807):k7 p l=some (endW p l):=by
  unfold k7 endW
  cases h:l.getLast? with
  | none => have : l = [] := by simpa using h
            subst this;rfl
  | some x =>
    have hne:l≠[]:=by rintro rfl;simp at h
    have hz:((l.length:Int)==0)=false:=by simp;exact hne
    simp only[hz,zA,if_false,gt_last h hl,ae]
def posEq(a b:aa):Bool:=a.X==b.X&&(a.Y==b.Y&&a.Z==b.Z)
theorem posEq_iff{a b:aa}:posEq a b=true↔a=b:=by
 cases a;cases b;simp[posEq]
def inR(p:aa):Prop:=(-10000000≤p.X∧p.X≤10000000)∧(-10000000≤p.Y∧p.Y≤10000000)∧(-10000000≤p.Z∧p.Z≤10000000)
instance (p:aa):Decidable (inR p):=by unfold inR;infer_instance
theorem ex(p:aa):gW p=some (!decide (inR p)):=by
 unfold gW mmI
 by_cases h:inR p
 ·rw[decide_eq_true h]
  unfold inR at h
  simp only[Bool.not_true,Option.some.injEq,zY,decide_eq_false_iff_not]
  constructor<;>(repeat' split)<;>omega
 ·rw[decide_eq_false h]
  unfold inR at h
  simp only[Bool.not_false,Option.some.injEq,zK,decide_eq_true_eq]
  repeat' split
  all_goals omega
theorem inp_inside_eq(p:aa):ip p=some (decide (inR p)):=by
 have h:∀n,dD n=some (decide (n < -10000000)||decide (n>10000000)):=λn=>rfl
 unfold ip
 simp only[h,ae]
 by_cases h1:(decide (p.X < -10000000)||decide (p.X>10000000))=true
 ·have:¬inR p:=by unfold inR;simp at h1;omega
  simp[h1,this]
 by_cases h2:(decide (p.Y < -10000000)||decide (p.Y>10000000))=true
 ·have:¬inR p:=by unfold inR;simp at h2;omega
  simp[h1,h2,this]
 by_cases h3:(decide (p.Z < -10000000)||decide (p.Z>10000000))=true
 ·have:¬inR p:=by unfold inR;simp at h3;omega
  simp[h1,h2,h3,this]
 ·have:inR p:=by unfold inR;simp at h1 h2 h3;omega
  simp[h1,h2,h3,this]
def findW(b:au)(c:Int):Int×Bool:=match b.Words.find? (λw=>w.Letter==c)with | some w=>(w.Value,true) | none=>(0,false)
theorem bk_Find_eq(b:au)(c:Int)(hl:b.Words.length≤1000):gS b c=some (findW b c):=by
 unfold gS findW
 rw[bE (by omega),bB,range_find (p:=λw:aN=>w.Letter==c) (e:=λw=>(w.Value,true)) b.Words 0 (λi x=>rfl)]
 cases b.Words.find? (λw=>w.Letter==c)<;>rfl
def hasW(b:au)(l:List UInt8):Bool:=l.any λc=>(findW b (c.toNat:Int)).2
theorem inp_has_eq(b:au)(l:List UInt8)(hl:b.Words.length≤1000)(h2:l.length≤1000):fk b l=some (hasW b l):=by
 unfold fk hasW
 rw[bE (by omega),bB,range_any (p:=λc:UInt8=>(findW b (c.toNat:Int)).2) (r:=true) l 0 (λi x=>by rw[bk_Find_eq b _ hl,ae])]
 cases l.any λc=>(findW b (c.toNat:Int)).2<;>rfl
theorem inp_value_eq(b:au)(c:Int)(hl:b.Words.length≤1000):il b c=some (findW b c).1:=by
 unfold il
 rw[bk_Find_eq b c hl,ae]
theorem eZ(t:al)(hl:t.Lengths.length≤1000):Tot (br t) (λe=>(e=0∨e=1)∧(e=0→(inR t.Work.e0∧inR t.Work.e1∧inR t.Work.e2∧inR t.Work.e3∧inR t.Work.e4∧inR t.Work.e5)∧∀x∈t.Lengths,0≤x.Length∧x.Length≤10000000)):=by
 unfold br
 simp only[ex,ae]
 refine Tot.bind (E:=λb=>b=true∨(inR t.Work.e0∧inR t.Work.e1∧inR t.Work.e2∧inR t.Work.e3∧inR t.Work.e4∧inR t.Work.e5)) (Tot.bind (E:=λi:Int=>i≥0∨(inR t.Work.e0∧inR t.Work.e1∧inR t.Work.e2∧inR t.Work.e3∧inR t.Work.e4∧inR t.Work.e5)) (Tot.bindX (E:=λ_=>inR t.Work.e0∧inR t.Work.e1∧inR t.Work.e2∧inR t.Work.e3∧inR t.Work.e4∧inR t.Work.e5) ?_ (λ_ h=>.ok (.inr h))) (λi hi=>.ok (hi.elim (λh=>.inl (by simpa using h)) .inr))) (λb hb=>Tot.ite (λ_=>.ok ⟨.inr rfl,by simp⟩) (λh=>?_))
 ·by_cases h0:inR t.Work.e0
  ·by_cases h1:inR t.Work.e1
   ·by_cases h2:inR t.Work.e2
    ·by_cases h3:inR t.Work.e3
     ·by_cases h4:inR t.Work.e4
      ·by_cases h5:inR t.Work.e5
       ·simp only[h0,h1,h2,h3,h4,h5,decide_true,Bool.not_true,zA,if_false];exact .go ⟨trivial,trivial,trivial,trivial,trivial,trivial⟩
       ·simp[h0,h1,h2,h3,h4,h5];exact .ret (by simp)
      ·simp[h0,h1,h2,h3,h4];exact .ret (by simp)
     ·simp[h0,h1,h2,h3];exact .ret (by simp)
    ·simp[h0,h1,h2];exact .ret (by simp)
   ·simp[h0,h1];exact .ret (by simp)
  ·simp[h0];exact .ret (by simp)
 ·have hw:=hb.resolve_left (by simp[h])
  refine Tot.bindX (E:=λ_=>∀x∈t.Lengths,0≤x.Length∧x.Length≤10000000) (TotX.guard (bE (by omega)) (TotX.of (Tot.range (λi _=>∀x∈t.Lengths.take i,0≤x.Length∧x.Length≤10000000) _ (by simp) (λi x v hx hr=>?_) (λv hr=>.ok (by simpa using hr))))) (λ_ h=>.ok ⟨.inl rfl,λ_=>⟨hw,h⟩⟩)
  refine TotX.bind (E:=λb=>b=true∨(0≤x.Length∧x.Length≤10000000)) ?_ (λb hb=>TotX.ite (λ_=>.ret ⟨.inr rfl,by simp⟩) (λh=>.go ?_))
  ·unfold jM
   rw[ae]
   refine Tot.ite (λhe=>?_) (λ_=>.ok (.inl rfl))
   have he':0≤x.Length∧x.Length≤10000000:=by simp at he;omega
   refine Tot.ite (λhi=>?_) (λ_=>.ok (.inr he'))
   have hlt:=ao hx
   simp at hi
   rw[wrap_i64 (by omega) (by omega)]
   obtain⟨y,hy,_⟩:=gt_ok' (l:=t.Lengths) (i:=(i:Int)-1) (by omega) (by omega)
   rw[hy,ae]
   exact .ok (.inr he')
  ·intro y hy
   rw[List.take_add_one,hx,List.mem_append]at hy
   rcases hy with hy | hy
   ·exact hr y hy
   ·simp at hy;subst hy
    exact hb.resolve_left (by simp[h])
theorem mid_eq{lo hi:Int}(h0:0≤lo)(h1:lo≤4000000000000000000)(h2:0≤hi)(h3:hi≤4000000000000000000):IntKind.i64.wrap (shrI .u64 (IntKind.u64.wrap (IntKind.i64.wrap (lo+hi))) 1)=(lo+hi) / 2:=by
 rw[wrap_i64 (n:=lo+hi) (by omega) (by omega)]
 have:IntKind.u64.wrap (lo+hi)=lo+hi:=by unfold IntKind.wrap;simp[IntKind.signed,IntKind.bits];omega
 rw[this]
 have:shrI .u64 (lo+hi) 1=(lo+hi) / 2:=by
  unfold shrI
  simp[IntKind.bits]
  rw[Int.fdiv_eq_ediv_of_nonneg _ (by decide)]
 rw[this,wrap_i64 (by omega) (by omega)]
theorem compare_eq(a b:Int):cr a b=some (if a<b then -1 else if a>b then 1 else 0):=by
 unfold cr dt
 simp only[bne_self_eq_false,ae,zA,if_false]
 by_cases h:a<b
 ·simp[h]
 ·by_cases h2:a>b<;>simp[h,h2]
theorem tb_find_tot(t:al)(n:Int)(hl:t.Lengths.length≤1000):Tot (tb_find t n) (λr=>0≤r.1∧(r.2=true→r.1<(t.Lengths.length:Int))):=by
 unfold tb_find
 refine Tot.bind (E:=λr=>0≤r.1∧(r.2=true→r.1<(t.Lengths.length:Int))) (Tot.bind (E:=λv:Int=>0≤v) ?_ (λv hv=>?_)) (λr hr=>.ok hr)
 ·refine Tot.loop (λm v=>0≤v.1∧v.1≤v.2∧v.2≤(t.Lengths.length:Int)∧m=(v.2-v.1).toNat) _ t.Lengths.length (fm (by omega)) ⟨by simp,by simp,by simp,by simp⟩ (λm v hr=>?_)
  obtain⟨a,b,c,d⟩:=hr
  refine TotX.ite (λh=>?_) (λ_=>.ret a)
  simp at h
  rw[mid_eq a (by omega) (by omega) (by omega)]
  obtain⟨y,hy,_⟩:=gt_ok' (l:=t.Lengths) (i:=(v.1+v.2) / 2) (by omega) (by omega)
  rw[hy,ae]
  unfold fI
  rw[compare_eq,ae,ae]
  refine TotX.ite (λ_=>.go ?_) (λ_=>.go ?_)
  ·rw[wrap_i64 (by omega) (by omega)]
   exact⟨_,by omega,by simp;omega,by simp;omega,c,rfl⟩
  ·exact⟨_,by omega,a,by simp;omega,by simp;omega,rfl⟩
 ·refine Tot.bind (E:=λb=>b=true→v<(t.Lengths.length:Int)) (Tot.ite (λh=>?_) (λ_=>.ok (by simp))) (λb hb=>.ok ⟨hv,hb⟩)
  simp at h
  obtain⟨y,hy,_⟩:=gt_ok' (l:=t.Lengths) (i:=v) hv h
  rw[hy,ae]
  unfold fI
  rw[compare_eq,ae,ae]
  exact .ok λ_=>h
theorem tb_length_tot(t:al)(n:Int)(hl:t.Lengths.length≤1000)(hv:∀x∈t.Lengths,0≤x.Length∧x.Length≤10000000):Tot (gV t n) (λr=>0≤r.1∧r.1≤10000000):=by
 unfold gV
 refine Tot.ite (λ_=>.ok (by decide)) (λ_=>Tot.bind (tb_find_tot ⟨t.Work,t.Lengths⟩ n hl) λr hr=>Tot.ite (λ_=>.ok (by decide)) (λh=>?_))
 simp at h
 obtain⟨y,hy,hq⟩:=gt_ok' (l:=t.Lengths) (i:=r.1) hr.1 (hr.2 h)
 rw[hy,ae]
 exact .ok (hv y (List.mem_of_getElem? hq))
theorem tb_slot_tot(c:Int):Tot (kL c) (λr=>r.2=0→0≤r.1∧r.1<6):=by
 unfold kL
 refine Tot.ite (λ_=>.ok (by simp)) (λh=>.ok λ_=>?_)
 simp at h
 have:zN c 1000=c / 1000:=zB (by omega)
 simp only[this]
 rw[wrap_i64 (n:=c / 1000) (by omega) (by omega),wrap_i64 (by omega) (by omega)]
 omega
theorem tb_offset_tot(t:al)(c n:Int)(hl:t.Lengths.length≤1000):Tot (eY t c n) (λr=>r.2=0→(-10000000≤r.1.X∧r.1.X≤10000000)∧(-10000000≤r.1.Y∧r.1.Y≤10000000)∧(-10000000≤r.1.Z∧r.1.Z≤20000000)):=by
 unfold eY
 refine Tot.bind (eZ t hl) λe he=>Tot.ite (λh=>.ok λh2=>?_) (λh=>?_)
 ·simp at h h2;exact absurd h2 h
 ·simp at h
  obtain⟨hw,hle⟩:=he.2 h
  refine Tot.bind (tb_slot_tot c) λr hr=>Tot.bind (tb_length_tot ⟨t.Work,t.Lengths⟩ n hl hle) λq hq=>Tot.ite (λ_=>.ok (by simp)) (λh2=>?_)
  simp at h2
  have h3:=hr h2.1
  refine Tot.bind (E:=λp=>inR p) (Tot.guard (by simp;omega) ?_) (λp hp=>.ok λ_=>?_)
  ·repeat' (first | exact .ok hw.1 | exact .ok hw.2.1 | exact .ok hw.2.2.1 | exact .ok hw.2.2.2.1 | exact .ok hw.2.2.2.2.1 | exact .ok hw.2.2.2.2.2 | refine Tot.ite (λ_=>?_) (λ_=>?_))
  ·unfold inR at hp
   simp only
   rw[wrap_i64 (by omega) (by omega)]
   omega
theorem tb_moved_tot(p by_:aa)(s:Int):Tot (gq p by_ s) (λr=>r.2=0→inR r.1):=by
 unfold gq
 simp only[ex,ae]
 refine Tot.ite (λ_=>.ok (by simp)) (λ_=>Tot.ite (λ_=>.ok (by simp)) (λh=>.ok λ_=>?_))
 simpa using h
theorem tb_Machine_tot(t:al)(c n:Int)(p:aa)(hl:t.Lengths.length≤1000):Tot (dw t c n p) (λr=>r.2=0→inR r.1):=by
 unfold dw
 refine Tot.bind (tb_offset_tot t c n hl) λe _=>Tot.ite (λh=>.ok λh2=>?_) (λ_=>Tot.bind (tb_moved_tot _ _ _) λr hr=>.ok hr)
 simp at h h2;exact absurd h2 h
theorem tb_Work_tot(t:al)(c n:Int)(p:aa)(hl:t.Lengths.length≤1000):Tot (iA t c n p) (λr=>r.2=0→inR r.1):=by
 unfold iA
 refine Tot.bind (tb_offset_tot ⟨t.Work,t.Lengths⟩ c n hl) λe _=>Tot.ite (λh=>.ok λh2=>?_) (λ_=>Tot.bind (tb_moved_tot _ _ _) λr hr=>.ok hr)
 simp at h h2;exact absurd h2 h
theorem inp_checked_tot(t:al)(p:aa)(hl:t.Lengths.length≤1000):Tot (bU t p) (λe=>e=0→inR p):=by
 unfold bU
 refine Tot.bind (eZ ⟨t.Work,t.Lengths⟩ hl) λe he=>Tot.ite (λ_=>.ok (by simp)) (λ_=>?_)
 rw[inp_inside_eq,ae]
 exact Tot.ite (λ_=>.ok (by simp)) (λh=>.ok λ_=>by simpa using h)
def okS(b:au):Prop:=(∀w∈b.Words,u8W w)∧b.Words.length≤1000∧b.Comment.length≤1000
def codesW(b:au)(c:Int):List Int:=(b.Words.filter λw=>w.Letter==c).map (·.Value)
theorem codes_fold(l:List aN)(c:Int):∀o:List Int,l.foldl (λo w=>if (w.Letter==c)=true then o++[w.Value]else o) o=o++(l.filter λw=>w.Letter==c).map (·.Value):=by
 induction l with
 | nil=>intro o;simp
 | cons w l ih =>
  intro o
  rw[zR,ih]
  by_cases h:(w.Letter==c)=true
  ·simp[h]
  ·simp[h]
theorem bk_Codes_eq(b:au)(c:Int)(hl:b.Words.length≤1000):gH b c=some (codesW b c):=by
 unfold gH
 rw[bE (by omega),bB,gX (g:=λ(o:List Int) (w:aN)=>if (w.Letter==c)=true then o++[w.Value]else o) (R:=λi v=>v.length≤i) (L:=b.Words) ?_ b.Words 0 [] rfl (by simp)]
 ·rw[ae,codes_fold];rfl
 ·intro i x v hx hr
  have hlt:=ao hx
  by_cases h:(x.Letter==c)=true
  ·simp only[h,if_true]
   rw[bF (by omega),bB]
   exact⟨rfl,by simp;omega⟩
  ·have h':(x.Letter==c)=false:=by simpa using h
   simp only[h',zA,if_false]
   exact⟨rfl,by omega⟩
theorem range_idx{f:Nat→Int→Unit→Option (Ex (Ex Int Unit) Unit)}{p:Int→Bool}(hf:∀(i:Nat) x,f i x ()=if p x=true then some (.ret (.ret (i:Int)))else some (.go ())):∀(l:List Int) (i:Nat),∃k:Nat,aS f (λ_=>some (.go ())) l i ()=some (if l.any p=true then .ret (k:Int)else .go ())
 | [],i=>⟨0,rfl⟩
 | x::l,i=>by
  simp only[aS,hf i x,zP]
  by_cases h:p x=true
  ·exact⟨i,by simp[h]⟩
  ·have h':p x=false:=by simpa using h
   obtain⟨k,hk⟩:=range_idx hf l (i+1)
   exact⟨k,by simpa [h'] using hk⟩
theorem contains_eq(l:List Int)(c:Int)(hl:l.length≤1000):aM l c=some (l.contains c):=by
 unfold aM bS
 rw[bE (by omega),bB]
 obtain⟨k,hk⟩:=range_idx (f:=λ(i127:Nat) (e129:Int) (_:Unit)=>if (c==e129)=true then some (.ret (.ret (i127:Int)))else some (.go ())) (p:=λx=>c==x) (λi x=>rfl) l 0
 rw[hk]
 have:l.any (λx=>c==x)=l.contains c:=by
  rw[zT,List.contains_iff_mem];simp
 rw[this]
 cases l.contains c<;>simp
def setB(i:Nat)(m:ah):ah:=⟨m.From,m.To,m.Rate,m.Tool,(i:Int)⟩
theorem range_set{L:List ah}(g:ah→ah){f:Nat→ah→List ah→Option (Ex (List ah) (List ah))}(hf:∀(i:Nat) x v e,gt v (i:Int)=some e→f i x v=some (.go (v.set i (g e)))):aS f (λv=>some v) L 0 L=some (L.map g):=by
  obtain⟨e,h1,h2⟩:=rangeX_inv (f:=f) (d:=λv=>some v) (λi v=>v=(L.take i).map g++L.drop i) (λe=>e=L.map g) L (λi x v hx hr=>by
    right
    have hlt:=ao hx
    have hgt:gt v (i:Int)=some x:=by
      refine gt_k ?_
      rw[hr,List.getElem?_append_right (by simp;omega)]
      simp[Nat.min_eq_left (Nat.le_of_lt hlt),hx]
    refine⟨_,hf i x v x hgt,?_⟩
    rw[hr,List.set_append_right _ _ (by simp;omega)]
    have hd:L.drop i=x::L.drop (i+1):=by
      rw[List.drop_eq_getElem_cons hlt]
      rw[List.getElem?_eq_getElem hlt]at hx
      injection hx with hx
      rw[hx]
    rw[hd,List.take_add_one,hx]
    simp[Nat.min_eq_left (Nat.le_of_lt hlt)]) (λv hv=>⟨v,rfl,by simpa using hv⟩) L 0 L rfl (Nat.zero_le _) (by simp)
  rw[h1,h2]
def zC:ap:=⟨0,0,0,0,0,0,false⟩
abbrev Run:=List ah×aa×am×ap
def endsW(b:au):Bool:=(codesW b 77).contains 30000
theorem endW_map(p:aa)(i:Nat)(l:List ah):endW p (l.map (setB i))=endW p l:=by
 unfold endW
 rw[List.getLast?_map]
 cases l.getLast?<;>rfl
def newS:am:=⟨0,90000,54000,49000,98000,0,0,0⟩
def dk(t:cY):al:=⟨t.Work,t.Lengths.map λl=>⟨l.Number,l.Length⟩⟩
theorem map_fold{α β:Type}(g:α→β)(l:List α):∀o:List β,l.foldl (λo x=>o++[g x]) o=o++l.map g:=by
 induction l with
 | nil=>intro o;simp
 | cons x l ih=>intro o;rw[zR,ih];simp
theorem r45_out_eq(p:aa):gL p=some (!decide (inR p)):=by
 unfold gL r45_far
 simp only[ae]
 by_cases h1:(decide (p.X>10000000)||decide (p.X < -10000000))=true
 ·have:¬inR p:=by unfold inR;simp at h1;omega
  simp[h1,this]
 by_cases h2:(decide (p.Y>10000000)||decide (p.Y < -10000000))=true
 ·have:¬inR p:=by unfold inR;simp at h2;omega
  simp[h1,h2,this]
 by_cases h3:(decide (p.Z>10000000)||decide (p.Z < -10000000))=true
 ·have:¬inR p:=by unfold inR;simp at h3;omega
  simp[h1,h2,h3,this]
 ·have:inR p:=by unfold inR;simp at h1 h2 h3;omega
  simp[h1,h2,h3,this]
theorem valid_same(t:cY)(hl:t.Lengths.length≤1000):br (dk t)=jq t:=by
 unfold br jq dk
 simp only[ex,r45_out_eq,ae]
 by_cases h0:inR t.Work.e0
 ·by_cases h1:inR t.Work.e1
  ·by_cases h2:inR t.Work.e2
   ·by_cases h3:inR t.Work.e3
    ·by_cases h4:inR t.Work.e4
     ·by_cases h5:inR t.Work.e5
      ·simp only[h0,h1,h2,h3,h4,h5,decide_true,Bool.not_true,zA,if_false,bindX_g,ae]
       rw[bE (l:=t.Lengths) (by omega),bE (by simp;omega),bB,bB]
       simp only[show decide ((-1:Int)≥0)=false by decide,zA,if_false]
       congr 1
       have key:∀(f:Nat→aG→Unit→Option (Ex (Ex Int Unit) Unit)) (g:Nat→cu→Unit→Option (Ex (Ex Int Unit) Unit)),(∀i x,t.Lengths[i]? = some x→f i ⟨x.Number,x.Length⟩ ()=g i x ())→(∀i x,t.Lengths[i]? = some x→∃e,g i x ()=some e) →
         ∀(l:List cu) (i:Nat),t.Lengths.drop i=l→aS f (λ_=>some (.go ())) (l.map λl=>⟨l.Number,l.Length⟩) i ()=aS g (λ_=>some (.go ())) l i ():=by
        intro f g hfg hg l
        induction l with
        | nil=>intro i _;rfl
        | cons x l ih =>
         intro i hd
         have hx:t.Lengths[i]? = some x:=by
          have:(t.Lengths.drop i)[0]? = some x:=by rw[hd];rfl
          simpa using this
         have hrest:t.Lengths.drop (i+1)=l:=by rw[←List.drop_drop,hd];rfl
         simp only[List.map_cons,aS,hfg i x hx]
         obtain⟨e,he⟩:=hg i x hx
         rw[he]
         cases e with
         | ret e=>rfl
         | go v=>exact ih (i+1) hrest
       refine key _ _ ?_ ?_ t.Lengths 0 rfl
       ·intro i x hx
        have hlt:=ao hx
        change bindO (bindO (jM ⟨x.Number,x.Length⟩) _) _=_
        unfold jM jp
        simp only[ae]
        by_cases hi:i=0
        ·subst hi;simp
        ·rw[wrap_i64 (by omega) (by omega),show ((i:Int)-1)=((i-1:Nat):Int) by omega]
         obtain⟨y,hy⟩:∃y,t.Lengths[i-1]? = some y:=⟨_,List.getElem?_eq_getElem (by omega)⟩
         rw[gt_k hy,gt_k (x:=⟨y.Number,y.Length⟩) (by rw[List.getElem?_map,hy];rfl)]
         simp only[ae,ge_iff_le]
       ·intro i x hx
        have hlt:=ao hx
        unfold jp
        simp only[ae]
        by_cases hi:i=0
        ·subst hi
         refine Exists.imp (λ_ h=>h) ?_
         have:=Tot.bind (m:=if (decide (x.Number≥1)&&(decide (x.Number≤999)&&(decide (x.Length≥0)&&decide (x.Length≤10000000))))=true then (if decide (((0:Nat):Int)>0)=true then bindO (gt t.Lengths (IntKind.i64.wrap (((0:Nat):Int)-1))) λ(e197:cu)=>some (decide (x.Number≤e197.Number))else some false)else some true) (E:=λ_=>True) (F:=λ_=>True) (f:=λv198:Bool=>if v198=true then (some (.ret (.ret 1)):Option (Ex (Ex Int Unit) Unit))else some (.go ())) (Tot.ite (λ_=>.ok trivial) (λ_=>.ok trivial)) (λb _=>Tot.ite (λ_=>.ok trivial) (λ_=>.ok trivial))
         obtain⟨e,he,_⟩:=this
         exact⟨e,he⟩
        ·rw[wrap_i64 (by omega) (by omega),show ((i:Int)-1)=((i-1:Nat):Int) by omega]
         obtain⟨y,hy⟩:∃y,t.Lengths[i-1]? = some y:=⟨_,List.getElem?_eq_getElem (by omega)⟩
         rw[gt_k hy]
         simp only[ae]
         have:=Tot.bind (m:=if (decide (x.Number≥1)&&(decide (x.Number≤999)&&(decide (x.Length≥0)&&decide (x.Length≤10000000))))=true then (if decide ((i:Int)>0)=true then some (decide (x.Number≤y.Number))else some false)else some true) (E:=λ_=>True) (F:=λ_=>True) (f:=λv198:Bool=>if v198=true then (some (.ret (.ret 1)):Option (Ex (Ex Int Unit) Unit))else some (.go ())) (Tot.ite (λ_=>Tot.ite (λ_=>.ok trivial) (λ_=>.ok trivial)) (λ_=>.ok trivial)) (λb _=>Tot.ite (λ_=>.ok trivial) (λ_=>.ok trivial))
         obtain⟨e,he,_⟩:=this
         exact⟨e,he⟩
      ·simp[h0,h1,h2,h3,h4,h5]
     ·simp[h0,h1,h2,h3,h4]
    ·simp[h0,h1,h2,h3]
   ·simp[h0,h1,h2]
  ·simp[h0,h1]
 ·simp[h0]
set_option linter.unusedVariables false
set_option linter.unusedSimpArgs false
def cycV(c:ap):Int :=
 if ¬(c.Code=83000∨c.Code=81000∨c.Code=82000)∨c.Z≥c.R∨c.R>c.Initial∨c.Rate<1∨c.Rate>1000000000000∨(c.Code=83000∧c.Q≤0)then 1
 else if (c.R>10000000∨c.R < -10000000)∨(c.Z>10000000∨c.Z < -10000000)∨(c.Initial>10000000∨c.Initial < -10000000)∨(c.Code=83000∧(c.Q>10000000∨c.Q < -10000000))then 11
 else if c.Code=83000∧(c.R-c.Z-1) / c.Q>999 then 3 else 0
theorem tdiv_ed{a b:Int}(h:0≤a):zN a b=a / b:=zB h
structure CycOk (c:ap):Prop where
 code:c.Code=83000∨c.Code=81000∨c.Code=82000
 zr:c.Z<c.R
 ri:c.R≤c.Initial
 rate:1≤c.Rate∧c.Rate≤1000000000000
 q:c.Code=83000→0<c.Q∧c.Q≤10000000
 r:-10000000≤c.R∧c.R≤10000000
 z:-10000000≤c.Z∧c.Z≤10000000
 i:-10000000≤c.Initial∧c.Initial≤10000000
 n:c.Code=83000→0≤(c.R-c.Z-1) / c.Q∧(c.R-c.Z-1) / c.Q≤999
theorem cycV_ok{c:ap}(h:cycV c=0):CycOk c:=by
 unfold cycV at h
 by_cases h1:¬(c.Code=83000∨c.Code=81000∨c.Code=82000)∨c.Z≥c.R∨c.R>c.Initial∨c.Rate<1∨c.Rate>1000000000000∨(c.Code=83000∧c.Q≤0)
 ·rw[if_pos h1]at h;cases h
 rw[if_neg h1]at h
 by_cases h2:(c.R>10000000∨c.R < -10000000)∨(c.Z>10000000∨c.Z < -10000000)∨(c.Initial>10000000∨c.Initial < -10000000)∨(c.Code=83000∧(c.Q>10000000∨c.Q < -10000000))
 ·rw[if_pos h2]at h;cases h
 rw[if_neg h2]at h
 by_cases h3:c.Code=83000∧(c.R-c.Z-1) / c.Q>999
 ·rw[if_pos h3]at h;cases h
 refine⟨by omega,by omega,by omega,by omega,λa=>by omega,by omega,by omega,by omega,λa=>⟨?_,?_⟩⟩
 ·exact zU (by omega) (by omega)
 ·rcases Int.lt_or_le 999 ((c.R-c.Z-1) / c.Q)with y | y
  ·exact absurd ⟨a,y⟩ h3
  ·exact y
def depN(c:ap):Nat:=if c.Code=83000 then ((c.R-c.Z-1) / c.Q).toNat else 0
def depL(c:ap):List Int:=(zZ (depN c)).map (λ(k:Nat)=>c.R-((k:Int)+1)*c.Q)++[c.Z]
theorem depN_le{c:ap}(h:CycOk c):depN c≤999:=by
 unfold depN
 split
 ·rename_i a
  have:=h.n a;omega
 ·omega
theorem depL_len{c:ap}(h:CycOk c):(depL c).length≤1000:=by
 have:=depN_le h
 unfold depL
 simp;omega
def goM(s:aa×List aV)(q:aa)(r:Int):aa×List aV:=if q=s.1 then s else (q,s.2++[aV.mk (if r>0 then 2 else 1) q (be.mk 0 0) r])
theorem goM_len(s:aa×List aV)(q:aa)(r:Int):(goM s q r).2.length≤s.2.length+1:=by
 unfold goM;split<;>simp
def cycM(c:ap)(p:aa)(g:be):aa×List aV :=
 let m0:=goM (p,[]) (aa.mk p.X p.Y (if p.Z<c.R then c.R else p.Z)) 0
 let m1:=goM m0 (aa.mk g.X g.Y m0.1.Z) 0
 let m2:=goM m1 (aa.mk g.X g.Y c.R) 0
 let m3:=(depL c).foldl (λs z=>goM (goM s (aa.mk g.X g.Y z) c.Rate) (aa.mk g.X g.Y c.R) 0) m2
 if c.High=true then goM m3 (aa.mk g.X g.Y c.Initial) 0 else m3
theorem fold_len(c:ap)(g:be):∀(l:List Int) (s:aa×List aV),(l.foldl (λs z=>goM (goM s (aa.mk g.X g.Y z) c.Rate) (aa.mk g.X g.Y c.R) 0) s).2.length≤s.2.length+2*l.length
 | [],s=>by simp
 | z::l,s=>by
  rw[zR]
  have h1:=fold_len c g l (goM (goM s (aa.mk g.X g.Y z) c.Rate) (aa.mk g.X g.Y c.R) 0)
  have h2:=goM_len (goM s (aa.mk g.X g.Y z) c.Rate) (aa.mk g.X g.Y c.R) 0
  have h3:=goM_len s (aa.mk g.X g.Y z) c.Rate
  simp only[List.length_cons]
  omega
theorem cycM_len{c:ap}(h:CycOk c)(p:aa)(g:be):(cycM c p g).2.length≤2010:=by
 unfold cycM
 have hd:=depL_len h
 dsimp only
 have a0:=goM_len (p,[]) (aa.mk p.X p.Y (if p.Z<c.R then c.R else p.Z)) 0
 generalize goM (p,[]) (aa.mk p.X p.Y (if p.Z<c.R then c.R else p.Z)) 0=m0 at *
 have a1:=goM_len m0 (aa.mk g.X g.Y m0.1.Z) 0
 generalize goM m0 (aa.mk g.X g.Y m0.1.Z) 0=m1 at *
 have a2:=goM_len m1 (aa.mk g.X g.Y c.R) 0
 generalize goM m1 (aa.mk g.X g.Y c.R) 0=m2 at *
 have a3:=fold_len c g (depL c) m2
 generalize (depL c).foldl (λs z=>goM (goM s (aa.mk g.X g.Y z) c.Rate) (aa.mk g.X g.Y c.R) 0) m2=m3 at *
 have a4:=goM_len m3 (aa.mk g.X g.Y c.Initial) 0
 simp only[List.length_nil]at a0
 split<;>omega
def far3(p:aa)(g:be):Prop:=(p.X>10000000∨p.X < -10000000)∨(p.Y>10000000∨p.Y < -10000000)∨(p.Z>10000000∨p.Z < -10000000)∨(g.X>10000000∨g.X < -10000000)∨(g.Y>10000000∨g.Y < -10000000)
instance (p:aa) (g:be):Decidable (far3 p g):=by unfold far3;infer_instance
def expV(c:ap)(p:aa)(g:be):List aV×Int:=if cycV c=0 then (if far3 p g then ([],11)else ((cycM c p g).2,0))else ([],cycV c)
theorem wrap_u64(n:Int):IntKind.u64.wrap n=n % 18446744073709551616:=by
 simp[IntKind.wrap,IntKind.bits,IntKind.signed]
def i64P(n:Int):Prop:=-9223372036854775808≤n∧n≤9223372036854775807
def dst(a b:Int):Int:=if a<b then b-a else a-b
theorem ed{a b:Int}(ha:i64P a)(hb:i64P b):cW a b=some (dst a b):=by
 unfold i64P at *
 unfold cW dst
 by_cases h:a<b
 ·simp only[h,decide_true,if_true,ae,wrap_u64];congr 1;omega
 ·simp only[h,decide_false,if_false,ae,wrap_u64,zA];congr 1;omega
def rad(p:aa)(c:be):Int:=if p.Y=c.Y then dst p.X c.X else if p.X=c.X then dst p.Y c.Y else 0
theorem kZ{p:aa}{c:be}(h1:i64P p.X)(h2:i64P p.Y)(h3:i64P c.X)(h4:i64P c.Y):∃d,dc p c=some (d,rad p c):=by
 unfold dc rad
 simp only[ed h1 h3,ed h2 h4,ae]
 by_cases e1:p.Y=c.Y<;>by_cases e2:p.X=c.X<;>rcases zQ p.X c.X with q | q | q<;>rcases zQ p.Y c.Y with r | r | r<;>first | (exfalso;omega)|(simp[e1,e2,q,r,dst];done)|(simp[e1,e2,q,r,dst];split<;>exact⟨_,rfl⟩)|(simp[e1,e2,q,r,dst];repeat (first | exact⟨_,rfl⟩ | split))
def farP(n:Int):Bool:=decide (n>10000000∨n < -10000000)
theorem dst0(n:Int):decide (dst n 0>10000000)=farP n:=by
 unfold farP dst
 apply decide_eq_decide.2
 split<;>omega
def far6(p q:aa):Bool:=farP p.X||farP p.Y||farP p.Z||farP q.X||farP q.Y||farP q.Z
def movV(p:aa)(m:aV):Int :=
 if (m.Kind=1∧m.Rate=0)∨(m.Kind=2∧m.Rate>0)then (if far6 p m.To=true then 11 else 0)
 else if (m.Kind=3∨m.Kind=4)∧m.Rate>0∧rad p m.Center>0∧rad p m.Center=rad m.To m.Center then
  (if (far6 p m.To||farP m.Center.X||farP m.Center.Y||farP (m.Center.X+rad p m.Center)||farP (m.Center.X-rad p m.Center)||farP (m.Center.Y+rad p m.Center)||farP (m.Center.Y-rad p m.Center))=true then 11 else 0)
 else 1
def okPos(p:aa):Prop:=i64P p.X∧i64P p.Y∧i64P p.Z
def okMove(m:aV):Prop:=i64P m.Kind∧okPos m.To∧i64P m.Center.X∧i64P m.Center.Y∧i64P m.Rate
def apU(a b:Int):Int:=if a<b then IntKind.u64.wrap (IntKind.u64.wrap b-IntKind.u64.wrap a)else IntKind.u64.wrap (IntKind.u64.wrap a-IntKind.u64.wrap b)
theorem ip_apart_u(a b:Int):cW a b=some (apU a b):=by
 unfold cW apU
 by_cases h:a<b<;>simp[h]
theorem apU_eq{a b:Int}(ha:i64P a)(hb:i64P b):apU a b=dst a b:=by
 have h1:=ip_apart_u a b
 rw[ed ha hb]at h1
 injection h1 with h1
 exact h1.symm
theorem any_congr'{α:Type}{p q:α→Bool}:∀{l:List α},(∀x∈l,p x=q x)→l.any p=l.any q
 | [],_=>rfl
 | x::l,h=>by rw[zP,zP,h x (by simp),any_congr' λy hy=>h y (by simp[hy])]
theorem bindX_go{ε ν:Type}{f:ν→Option ε}{v:ν}:bindX (some (.go v)) f=f v:=rfl
theorem far_list(l:List Int)(hl:∀x∈l,i64P x)(hs:l.length≤100) :
  bindX (aB (okIdx l) (aS (λ(i:Nat) (e:Int) (v:Unit)=>bindO (cW e 0) λ(y:Int)=>if (decide (y>10000000))=true then some (.ret (.ret 11))else some (.go ())) (λ(v:Unit)=>some (.go ())) l 0 ())) (λ(v:Unit)=>some (0:Int))=some (if l.any farP=true then 11 else 0):=by
 have h:=range_any (r:=(11:Int)) (p:=λe=>decide (apU e 0>10000000)) (f:=λ(i:Nat) (e:Int) (v:Unit)=>bindO (cW e 0) λ(y:Int)=>if (decide (y>10000000))=true then some (.ret (.ret 11))else some (.go ())) l 0 (λi x=>by rw[ip_apart_u,ae])
 rw[bE (by omega),bB,h,any_congr' (q:=farP) (λx hx=>by rw[apU_eq (hl x hx) (by unfold i64P;omega),dst0])]
 cases l.any farP<;>rfl
theorem ip_right_eq{p:aa}{m:aV}(hp:okPos p)(hm:okMove m):iU p m=some (decide ((m.Kind=1∧m.Rate=0)∨(m.Kind=2∧m.Rate>0)∨((m.Kind=3∨m.Kind=4)∧m.Rate>0∧rad p m.Center>0∧rad p m.Center=rad m.To m.Center))):=by
 obtain⟨h1,h2,h3,h4,h5⟩:=hm
 obtain⟨d,hd⟩:=kZ hp.1 hp.2.1 h3 h4
 obtain⟨d',hd'⟩:=kZ h2.1 h2.2.1 h3 h4
 unfold iU fF
 by_cases e1:m.Kind=1
 ·by_cases q:m.Rate=0<;>simp[e1,q]
 ·by_cases e2:m.Kind=2
  ·by_cases q:m.Rate>0<;>simp[e2,q]
  ·by_cases e3:m.Kind=3∨m.Kind=4
   ·have hb:((m.Kind==3)||(m.Kind==4))=true:=by simpa using e3
    by_cases q:m.Rate>0<;>by_cases q2:rad p m.Center>0<;>by_cases q3:rad p m.Center=rad m.To m.Center<;>simp[e1,e2,e3,hb,hd,hd',q,q2,q3]<;>first | done | (simp_all;done)|(simp_all;by_cases w:0<rad m.To m.Center<;>simp[w])
   ·have hb:((m.Kind==3)||(m.Kind==4))=false:=by
     rw[not_or]at e3
     simp[e3]
    simp[e1,e2,e3,hb,hd,hd']
theorem rad_nn(p:aa)(c:be):0≤rad p c:=by
 unfold rad dst;split<;>(try split)<;>(try split)<;>omega
theorem ip_Valid_eq{p:aa}{m:aV}(hp:okPos p)(hm:okMove m):iV p m=some (movV p m):=by
 have hr:=ip_right_eq hp hm
 obtain⟨h1,h2,h3,h4,h5⟩:=hm
 obtain⟨d,hd⟩:=kZ hp.1 hp.2.1 h3 h4
 have z:i64P 0:=by unfold i64P;omega
 unfold iV
 rw[show iU (aa.mk p.X p.Y p.Z) (aV.mk m.Kind m.To m.Center m.Rate)=iU p m from rfl,hr,ae]
 rw[show dc (aa.mk p.X p.Y p.Z) m.Center=dc p m.Center from rfl,hd]
 simp only[ae,fF,ed h3 z,ed h4 z]
 unfold movV
 by_cases e1:(m.Kind=1∧m.Rate=0)∨(m.Kind=2∧m.Rate>0)
 ·have hb:((m.Kind==3)||(m.Kind==4))=false:=by
   have h3:¬(m.Kind=3):=by omega
   have h4:¬(m.Kind=4):=by omega
   simp[h3,h4]
  rw[decide_eq_true (by rcases e1 with e | e;exact .inl e;exact .inr (.inl e)),if_neg (by simp),hb,if_neg (by simp)]
  rw[if_pos e1]
  rw[bindX_go,far_list _ (λx hx=>?_) (by simp)]
  ·simp[far6,Bool.or_assoc]
  ·obtain⟨p1,p2,p3⟩:=hp
   obtain⟨t1,t2,t3⟩:=h2
   simp only[zO,zJ,or_false]at hx
   rcases hx with rfl | rfl | rfl | rfl | rfl | rfl<;>assumption
 ·rw[if_neg e1]
  by_cases e2:(m.Kind=3∨m.Kind=4)∧m.Rate>0∧rad p m.Center>0∧rad p m.Center=rad m.To m.Center
  ·have hb:((m.Kind==3)||(m.Kind==4))=true:=by simpa using e2.1
   rw[decide_eq_true (.inr (.inr e2)),if_neg (by simp),hb,if_pos rfl,if_pos e2]
   simp only[dst0]
   have hnn:=rad_nn p m.Center
   by_cases q1:rad p m.Center>10000000
   ·have hf:(far6 p m.To||farP m.Center.X||farP m.Center.Y||farP (m.Center.X+rad p m.Center)||farP (m.Center.X-rad p m.Center)||farP (m.Center.Y+rad p m.Center)||farP (m.Center.Y-rad p m.Center))=true:=by
     have:farP (m.Center.X+rad p m.Center)=true∨farP (m.Center.X-rad p m.Center)=true:=by
      unfold farP;simp only[decide_eq_true_eq];omega
     simp only[zK]
     rcases this with q | q<;>simp[q]
    rw[decide_eq_true q1,if_pos rfl,ae,if_pos rfl,if_pos hf]
    rfl
   ·rw[decide_eq_false q1,if_neg (by simp)]
    by_cases q2:farP m.Center.X=true
    ·rw[if_pos q2,ae,if_pos rfl,if_pos (by simp[q2])]
     rfl
    ·rw[if_neg q2]
     by_cases q3:farP m.Center.Y=true
     ·rw[q3,ae,if_pos rfl,if_pos (by simp)]
      rfl
     ·have q2':farP m.Center.X=false:=by simpa using q2
      have q3':farP m.Center.Y=false:=by simpa using q3
      have b1:-10000000≤m.Center.X∧m.Center.X≤10000000:=by unfold farP at q2';simp at q2';omega
      have b2:-10000000≤m.Center.Y∧m.Center.Y≤10000000:=by unfold farP at q3';simp at q3';omega
      rw[q3',ae,if_neg (by simp)]
      rw[wrap_i64 (n:=rad p m.Center) (by omega) (by omega),wrap_i64 (by omega) (by omega),wrap_i64 (by omega) (by omega),wrap_i64 (by omega) (by omega),wrap_i64 (by omega) (by omega)]
      rw[bindX_go,far_list _ (λx hx=>?_) (by simp)]
      ·simp[far6,Bool.or_assoc,q2',q3']
      ·obtain⟨p1,p2,p3⟩:=hp
       obtain⟨t1,t2,t3⟩:=h2
       simp only[zO,zJ,or_false]at hx
       rcases hx with rfl | rfl | rfl | rfl | rfl | rfl | rfl | rfl | rfl | rfl<;>first | assumption | (unfold i64P;omega)
  ·rw[if_neg e2,decide_eq_false (by rintro (q | q | q);exact e1 (.inl q);exact e1 (.inr q);exact e2 q)]
   rfl
theorem jf{n:Int}(h:farP n=false):-10000000≤n∧n≤10000000:=by unfold farP at h;simp at h;omega
def IsCh(r n:Int):Prop:=1≤n∧r≤10*(n*n)∧10*((n-1)*(n-1))<r
theorem iB{a b:Int}(h0:0≤a)(h:a≤b):a*a≤b*b:=zH h h h0 (by omega)
theorem IsCh.unique{r n m:Int}(hn:IsCh r n)(hm:IsCh r m):n=m:=by
 obtain⟨a1,a2,a3⟩:=hn
 obtain⟨b1,b2,b3⟩:=hm
 rcases zQ n m with h | h | h
 ·have:=iB (a:=n) (b:=m-1) (by omega) (by omega);omega
 ·exact h
 ·have:=iB (a:=m) (b:=n-1) (by omega) (by omega);omega
def ke(r:Int):Nat→Int→Int
 | 0,n=>n
 | f+1,n=>if 10*(n*n)<r then ke r f (n+1)else n
theorem chordsFrom_is(r:Int):∀(f:Nat) (n:Int),1≤n→10*((n-1)*(n-1))<r→r≤10*((n+f)*(n+f))→IsCh r (ke r f n):=by
 intro f
 induction f with
 | zero=>intro n h1 h2 h3;show IsCh r n;exact⟨h1,by simpa using h3,h2⟩
 | succ f ih =>
  intro n h1 h2 h3
  unfold ke
  split
  ·rename_i h
   exact ih (n+1) (by omega) (by rw[show n+1-1=n from by omega];omega) (by rw[show n+1+(f:Int)=n+((f+1:Nat):Int) from by omega];exact h3)
  ·exact⟨h1,by omega,h2⟩
def ld(r:Int):Int:=if r≤0 then 0 else ke r r.toNat 1
theorem chordsM_is{r:Int}(h:0<r):IsCh r (ld r):=by
 unfold ld
 rw[if_neg (by omega)]
 refine chordsFrom_is r _ 1 (by omega) (by simpa using h) ?_
 have e:(1:Int)+(r.toNat:Int)=1+r:=by omega
 rw[e]
 have:=zH (a:=1) (b:=r) (c:=1+r) (d:=1+r) (by omega) (by omega) (by omega) (by omega)
 have h2:(1+r)*(1+r)=1+r+r*(1+r):=by rw[zW,Int.one_mul]
 omega
theorem chordsM_eq{r n:Int}(h:IsCh r n):ld r=n:=by
 have hr:0<r:=by
  have:=h.2.2
  have h2:0≤(n-1)*(n-1):=zE (by have:=h.1;omega) (by have:=h.1;omega)
  omega
 exact (chordsM_is hr).unique h
theorem IsCh.le{r n b:Int}(h:IsCh r n)(hb:0≤b)(hr:r≤10*(b*b)):n≤b:=by
 rcases Int.lt_or_le b n with h1 | h1
 ·have:=iB (a:=b) (b:=n-1) hb (by omega)
  have:=h.2.2
  omega
 ·exact h1
def rot:Nat→Int→Int→Int×Int
 | 0,x,y=>(x,y)
 | n+1,x,y=>(-(rot n x y).2,(rot n x y).1)
theorem rot_bd(b:Int)(n:Nat)(x y:Int)(hx:-b≤x∧x≤b)(hy:-b≤y∧y≤b):(-b≤(rot n x y).1∧(rot n x y).1≤b)∧(-b≤(rot n x y).2∧(rot n x y).2≤b):=by
 induction n with
 | zero=>exact⟨hx,hy⟩
 | succ n ih=>simp only[rot];omega
theorem rot4(n:Nat)(x y:Int):rot (n+4) x y=rot n x y:=by simp[rot]
theorem rot_add4(n k:Nat)(x y:Int):rot (n+4*k) x y=rot n x y:=by
 induction k with
 | zero=>rfl
 | succ k ih=>rw[show n+4*(k+1)=(n+4*k)+4 from by omega,rot4,ih]
theorem rot_mod(n:Nat)(x y:Int):rot (n % 4) x y=rot n x y:=by
 have:=rot_add4 (n % 4) (n / 4) x y
 rw[show n % 4+4*(n / 4)=n from by omega]at this
 exact this.symm
theorem floor_neg{a b:Int}(hb:0<b)(h:a.tmod b<0):a.tdiv b-1=a / b:=by
 rw[Int.tdiv_eq_ediv]
 rw[Int.tmod_eq_emod]at h
 have h3:=Int.emod_nonneg a (show b≠0 by omega)
 have h6:b.sign=1:=Int.sign_eq_one_of_pos hb
 split at h
 ·omega
 ·rename_i hn
  rw[if_neg hn,h6]
  omega
theorem floor_pos{a b:Int}(hb:0<b)(h:¬a.tmod b<0):a.tdiv b=a / b:=by
 rw[Int.tdiv_eq_ediv]
 rw[Int.tmod_eq_emod]at h
 have h4:=Int.emod_lt_of_pos a hb
 split at h
 ·rename_i hn
  rw[if_pos hn]
  omega
 ·omega
theorem ediv_bd{a b c:Int}(hb:0<b)(hc:0≤c)(h1:-c≤a)(h2:a≤c):-c≤a / b∧a / b≤c:=by
 have hm:=zD (show 1≤b by omega) hc
 constructor
 ·refine zX hb ?_
  rw[Int.neg_mul];omega
 ·have:a / b<c+1:=zF hb (by rw[zW];omega)
  omega
def chordX(r n k:Int):Int:=r*(n*n-k*k) / (n*n+k*k)
def chordY(r n k:Int):Int:=2*r*k*n / (n*n+k*k)
def arcXY(kind:Int)(first q:Nat)(x y:Int):Int×Int:=if kind=3 then rot (first+4-q) x (-y)else rot (first+q) x y
theorem chord_facts{R n K:Int}(h1:0<R)(h2:R≤10000000)(h3:n≤1000)(h4:1≤K)(h5:K≤n) :
  IntKind.i64.wrap (n*n)=n*n∧IntKind.i64.wrap (K*K)=K*K∧IntKind.i64.wrap (n*n-K*K)=n*n-K*K∧IntKind.i64.wrap (R*(n*n-K*K))=R*(n*n-K*K)∧IntKind.i64.wrap (n*n+K*K)=n*n+K*K ∧
  IntKind.i64.wrap ((R*(n*n-K*K)).tdiv (n*n+K*K))=chordX R n K∧IntKind.i64.wrap (2*R)=2*R∧IntKind.i64.wrap (2*R*K)=2*R*K∧IntKind.i64.wrap (2*R*K*n)=2*R*K*n∧IntKind.i64.wrap ((2*R*K*n).tdiv (n*n+K*K))=chordY R n K ∧
  ¬n*n+K*K=0∧(0≤chordX R n K∧chordX R n K≤R)∧(0≤chordY R n K∧chordY R n K≤R):=by
 have a1:n*n≤1000*1000:=iB (by omega) h3
 have a2:1*1≤K*K:=iB (by omega) h4
 have a3:K*K≤n*n:=iB (by omega) h5
 have a4:0≤R*(n*n-K*K):=zE (by omega) (by omega)
 have a5:R*(n*n-K*K)≤R*(n*n+K*K):=zD (by omega) (by omega)
 have a6:R*(n*n+K*K)≤10000000*2000000:=zH h2 (by omega) (by omega) (by omega)
 have b1:R*K≤10000000*1000:=zH h2 (by omega) (by omega) (by omega)
 have b2:0≤R*K:=zE (by omega) (by omega)
 have b3:R*K*n≤10000000000*1000:=zH b1 h3 (by omega) (by omega)
 have b4:0≤R*K*n:=zE b2 (by omega)
 have c1:2*R*K=2*(R*K):=zI _ _ _
 have c2:2*R*K*n=2*(R*K*n):=by rw[c1,zI]
 have d1:2*(K*n)≤n*n+K*K:=by
  have e:=zE (show 0≤n-K by omega) (show 0≤n-K by omega)
  have e2:(n-K)*(n-K)=n*n-2*(K*n)+K*K:=by
   rw[Int.sub_mul,Int.mul_sub,Int.mul_sub,Int.mul_comm n K];omega
  omega
 have d2:2*R*K*n≤R*(n*n+K*K):=by
  have e:=zD d1 (show 0≤R by omega)
  have e3:R*(2*(K*n))=2*R*K*n:=by
   rw[c2,zI R K n,←zI R 2,Int.mul_comm R 2,zI]
  omega
 have x1:0≤chordX R n K:=zU a4 (by omega)
 have x2:chordX R n K≤R:=by
  have:chordX R n K<R+1:=zF (by omega) (by rw[zW];omega)
  omega
 have y1:0≤chordY R n K:=zU (by omega) (by omega)
 have y2:chordY R n K≤R:=by
  have:chordY R n K<R+1:=zF (by omega) (by rw[zW];omega)
  omega
 refine⟨IntWalk.i64_in _ (by omega),IntWalk.i64_in _ (by omega),IntWalk.i64_in _ (by omega),IntWalk.i64_in _ (by omega),IntWalk.i64_in _ (by omega),?_,IntWalk.i64_in _ (by omega),IntWalk.i64_in _ (by omega),IntWalk.i64_in _ (by omega),?_,by omega,⟨x1,x2⟩,⟨y1,y2⟩⟩
 ·rw[zB a4];exact IntWalk.i64_in _ (by unfold chordX at x1 x2;omega)
 ·rw[zB (by omega)];exact IntWalk.i64_in _ (by unfold chordY at y1 y2;omega)
theorem arcXY_bd(R k:Int)(f q:Nat){x y:Int}(hx:0≤x∧x≤R)(hy:0≤y∧y≤R):(-R≤(arcXY k f q x y).1∧(arcXY k f q x y).1≤R)∧(-R≤(arcXY k f q x y).2∧(arcXY k f q x y).2≤R):=by
 unfold arcXY
 split
 ·exact rot_bd R _ _ _ (by omega) (by omega)
 ·exact rot_bd R _ _ _ (by omega) (by omega)
theorem take_map_range{α:Type}(g:Nat→α)(T m:Nat)(h:m<T):((zZ T).map g).take (m+1)=((zZ T).map g).take m++[g m]:=by
 rw[List.take_succ_eq_append_getElem (by simpa using h)];simp
def qd(p:aa)(c:be):Nat:=if p.Y=c.Y∧p.X>c.X then 0 else if p.X=c.X∧p.Y>c.Y then 1 else if p.Y=c.Y∧p.X<c.X then 2 else if p.X=c.X∧p.Y<c.Y then 3 else 0
theorem qd_le(p:aa)(c:be):qd p c≤3:=by
 unfold qd;repeat' split
 all_goals omega
theorem gR{p:aa}{c:be}(h1:i64P p.X)(h2:i64P p.Y)(h3:i64P c.X)(h4:i64P c.Y):dc p c=some ((qd p c:Int),rad p c):=by
 have e1:=ed h1 h3
 have e2:=ed h2 h4
 unfold dc
 rw[e1,e2]
 unfold qd rad dst
 by_cases x1:p.X=c.X<;>by_cases x2:p.X>c.X<;>by_cases x3:p.X<c.X<;>by_cases y1:p.Y=c.Y<;>by_cases y2:p.Y>c.Y<;>by_cases y3:p.Y<c.Y<;>first | (exfalso;omega) | simp[x1,x2,x3,y1,y2,y3]
def qtr(k:Int)(a b:Nat):Nat:=if k=3 then (if a≤b then a+4-b else a-b)else (if b≤a then b+4-a else b-a)
theorem qtr_bd{k:Int}{a b:Nat}(ha:a≤3)(hb:b≤3):1≤qtr k a b∧qtr k a b≤4:=by
 unfold qtr;repeat' split
 all_goals omega
structure ArcOk (p:aa) (m:aV):Prop where
 kind:m.Kind=3∨m.Kind=4
 p1:-10000000≤p.X∧p.X≤10000000
 p2:-10000000≤p.Y∧p.Y≤10000000
 p3:-10000000≤p.Z∧p.Z≤10000000
 t1:-10000000≤m.To.X∧m.To.X≤10000000
 t2:-10000000≤m.To.Y∧m.To.Y≤10000000
 t3:-10000000≤m.To.Z∧m.To.Z≤10000000
 c1:-10000000≤m.Center.X∧m.Center.X≤10000000
 c2:-10000000≤m.Center.Y∧m.Center.Y≤10000000
 r0:0<rad p m.Center
 r1:rad p m.Center=rad m.To m.Center
 x1:-10000000≤m.Center.X-rad p m.Center∧m.Center.X+rad p m.Center≤10000000
 y1:-10000000≤m.Center.Y-rad p m.Center∧m.Center.Y+rad p m.Center≤10000000
theorem ArcOk.rad_le{p:aa}{m:aV}(h:ArcOk p m):rad p m.Center≤10000000:=by
 have:=h.x1;omega
theorem gc{n:Int}(h:-10000000≤n∧n≤10000000):i64P n:=by unfold i64P;omega
theorem ip_Quarters_eq{p:aa}{m:aV}(h:ArcOk p m)(hp:okPos p)(hm:okMove m)(hv:movV p m=0):cg p m=some ((qtr m.Kind (qd p m.Center) (qd m.To m.Center):Int),0):=by
 unfold cg fF
 have hk:((m.Kind==3)||(m.Kind==4))=true:=by simpa using h.kind
 rw[hk,ae,if_neg (by simp)]
 show bindO (iV p m) _=_
 rw[ip_Valid_eq hp hm,hv,ae,if_neg (by simp),gR (gc h.p1) (gc h.p2) (gc h.c1) (gc h.c2),ae,gR (gc h.t1) (gc h.t2) (gc h.c1) (gc h.c2),ae]
 have ha:=qd_le p m.Center
 have hb:=qd_le m.To m.Center
 generalize qd p m.Center=a at *
 generalize qd m.To m.Center=b at *
 dsimp only
 have ha':a=0∨a=1∨a=2∨a=3:=by omega
 have hb':b=0∨b=1∨b=2∨b=3:=by omega
 rcases h.kind with k | k<;>rw[k]<;>rcases ha' with rfl | rfl | rfl | rfl<;>rcases hb' with rfl | rfl | rfl | rfl<;>decide
theorem ip_Chords_eq{r:Int}(h0:0<r)(h1:r≤10000000):jA r=some (ld r):=by
 apply Tot.get
 unfold jA
 rw[wrap_i64 (n:=r-1) (by omega) (by omega),tdiv_ed (by omega),wrap_i64 (n:=(r-1) / 10) (by omega) (by omega),wrap_i64 (n:=(r-1) / 10+1) (by omega) (by omega)]
 obtain⟨need,hneed⟩:∃need,(r-1) / 10+1=need:=⟨_,rfl⟩
 rw[hneed]
 refine Tot.ite (λq=>absurd q (by simp;omega)) (λ_=>?_)
 refine Tot.bind (E:=λx=>x=ld r) (Tot.loop (λk (v:Int×Int)=>1≤v.1∧v.1≤v.2∧v.2≤1073741824∧(v.1-1)*(v.1-1)<need∧need≤v.2*v.2∧k=(v.2-v.1).toNat) _ 1073741823 (by unfold fuel;omega) ⟨by omega,by omega,by omega,(by show (0:Int)<need;omega),(by show need≤1152921504606846976;omega),rfl⟩ (λk v hr=>?_)) (λx hx=>.ok hx)
 obtain⟨lo,hi⟩:=v
 obtain⟨a1,a2,a3,a4,a5,a6⟩:=hr
 dsimp only at *
 by_cases z:lo<hi
 ·rw[decide_eq_true z,if_pos rfl,wrap_i64 (n:=lo+hi) (by omega) (by omega),tdiv_ed (by omega),wrap_i64 (n:=(lo+hi) / 2) (by omega) (by omega)]
  obtain⟨n,hn⟩:∃n,(lo+hi) / 2=n:=⟨_,rfl⟩
  rw[hn]
  have n1:lo≤n:=by omega
  have n2:n<hi:=by omega
  have sq:=iB (a:=n) (b:=1073741824) (by omega) (by omega)
  have sq0:0≤n*n:=zE (by omega) (by omega)
  rw[wrap_i64 (n:=n*n) (by omega) (by omega)]
  by_cases y:n*n≥need
  ·rw[decide_eq_true y,if_pos rfl]
   exact .go ⟨(n-lo).toNat,by omega,a1,n1,by omega,a4,y,rfl⟩
  ·rw[decide_eq_false y,if_neg (by simp),wrap_i64 (n:=n+1) (by omega) (by omega)]
   exact .go ⟨(hi-(n+1)).toNat,by omega,(by show (1:Int)≤n+1;omega),(by show n+1≤hi;omega),a3,(by show (n+1-1)*(n+1-1)<need;rw[show n+1-1=n by omega];omega),a5,rfl⟩
 ·rw[decide_eq_false z,if_neg (by simp)]
  have e:lo=hi:=by omega
  subst e
  refine .ret (chordsM_eq ⟨a1,by omega,by omega⟩).symm
theorem andI3(q:Nat)(h:q≤11):andI .i64 (q:Int) 3=((q % 4:Nat):Int):=by
 have:q=0∨q=1∨q=2∨q=3∨q=4∨q=5∨q=6∨q=7∨q=8∨q=9∨q=10∨q=11:=by omega
 rcases this with rfl | rfl | rfl | rfl | rfl | rfl | rfl | rfl | rfl | rfl | rfl | rfl<;>decide
theorem ip_turned_eq{x y:Int}{q:Nat}(hx:-100000000≤x∧x≤100000000)(hy:-100000000≤y∧y≤100000000)(hq:q≤11):ij x y (q:Int)=some (rot q x y):=by
 apply Tot.get
 unfold ij
 rw[andI3 q hq,←rot_mod q]
 have hm:q % 4<4:=Nat.mod_lt _ (by omega)
 generalize q % 4=n at *
 refine Tot.bind (E:=λv=>v=rot n x y) (Tot.loop (λk (v:Int×Int×Int)=>∃j:Nat,v=((rot j x y).1,(rot j x y).2,(j:Int))∧j≤n∧k=n-j) _ n (by unfold fuel;omega) ⟨0,rfl,Nat.zero_le _,rfl⟩ (λk v hr=>?_)) (λv hv=>.ok (by rw[hv]))
 obtain⟨j,rfl,j1,j2⟩:=hr
 have hb:=rot_bd 100000000 j x y hx hy
 dsimp only
 by_cases z:j<n
 ·rw[decide_eq_true (show (j:Int)<(n:Int) by omega),if_pos rfl,wrap_i64 (by omega) (by omega),wrap_i64 (by omega) (by omega)]
  refine .go ⟨n-(j+1),by omega,j+1,?_,by omega,rfl⟩
  rw[Int.zero_sub];rfl
 ·rw[decide_eq_false (show ¬(j:Int)<(n:Int) by omega),if_neg (by simp),show j=n by omega]
  exact .ret rfl
theorem ip_floor_eq{a b:Int}(ha:-1000000000000000000≤a∧a≤1000000000000000000)(hb:0<b∧b≤1000000000):ip_floor a b=some (a / b):=by
 have hd:=ediv_bd (c:=1000000000000000000) hb.1 (by omega) ha.1 ha.2
 apply Tot.get
 unfold ip_floor
 have h0:(!(b==0))=true:=by simp;omega
 refine Tot.guard h0 (Tot.guard h0 (Tot.bind (E:=λv=>v=a / b) (Tot.ite (λq=>.ok ?_) (λq=>.ok ?_)) (λv hv=>.ok hv)))
 ·have q':zM a b<0:=by simpa using q
  have e:=floor_neg hb.1 q'
  rw[wrap_i64 (n:=zN a b) (by omega) (by omega),wrap_i64 (by omega) (by omega),e]
 ·have q':¬zM a b<0:=by simpa using q
  have e:=floor_pos hb.1 q'
  rw[wrap_i64 (n:=zN a b) (by omega) (by omega),e]
def arcN(p:aa)(m:aV):Nat:=(ld (rad p m.Center)).toNat
def arcQ(p:aa)(m:aV):Nat:=qtr m.Kind (qd p m.Center) (qd m.To m.Center)
def arcXYi(p:aa)(m:aV)(i:Nat):Int×Int :=
 arcXY m.Kind (qd p m.Center) (i / arcN p m) (chordX (rad p m.Center) (arcN p m:Int) ((i % arcN p m+1:Nat):Int)) (chordY (rad p m.Center) (arcN p m:Int) ((i % arcN p m+1:Nat):Int))
def arcPt(p:aa)(m:aV)(i:Nat):aa :=
 aa.mk (m.Center.X+(arcXYi p m i).1) (m.Center.Y+(arcXYi p m i).2) (p.Z+(m.To.Z-p.Z)*((i+1:Nat):Int) / ((arcN p m*arcQ p m:Nat):Int))
def arcL(p:aa)(m:aV):List aa:=(zZ (arcN p m*arcQ p m)).map (arcPt p m)
theorem ArcOk.n{p:aa}{m:aV}(h:ArcOk p m):ld (rad p m.Center)=(arcN p m:Int)∧1≤arcN p m∧arcN p m≤1000:=by
 have h1:=chordsM_is h.r0
 have h2:=h1.le (b:=1000) (by omega) (by have:=h.rad_le;omega)
 have h3:=h1.1
 unfold arcN
 omega
theorem ArcOk.q{p:aa}{m:aV}(h:ArcOk p m):1≤arcQ p m∧arcQ p m≤4:=qtr_bd (qd_le _ _) (qd_le _ _)
theorem ArcOk.all{p:aa}{m:aV}(h:ArcOk p m):1≤arcN p m*arcQ p m∧arcN p m*arcQ p m≤4000:=by
 obtain⟨_,a1,a2⟩:=h.n
 obtain⟨b1,b2⟩:=h.q
 exact⟨Nat.mul_le_mul a1 b1,Nat.mul_le_mul a2 b2⟩
theorem arc_idx{N q j:Nat}(hj:j<N):(N*q+j) / N=q∧(N*q+j) % N=j:=by
 constructor
 ·rw[Nat.mul_add_div (by omega),Nat.div_eq_of_lt hj];omega
 ·rw[Nat.mul_add_mod,Nat.mod_eq_of_lt hj]
theorem ArcOk.pt{p:aa}{m:aV}(h:ArcOk p m){q j:Nat}(hq:q<arcQ p m)(hj:j<arcN p m) :
  (-10000000≤(arcXYi p m (arcN p m*q+j)).1∧(arcXYi p m (arcN p m*q+j)).1≤10000000)∧(-10000000≤(arcXYi p m (arcN p m*q+j)).2∧(arcXYi p m (arcN p m*q+j)).2≤10000000)∧arcN p m*q+j<arcN p m*arcQ p m:=by
 obtain⟨_,a1,a2⟩:=h.n
 obtain⟨e1,e2⟩:=arc_idx (q:=q) hj
 have hf:=chord_facts (R:=rad p m.Center) (n:=(arcN p m:Int)) (K:=((j+1:Nat):Int)) h.r0 h.rad_le (by omega) (by omega) (by omega)
 obtain⟨_,_,_,_,_,_,_,_,_,_,_,hx,hy⟩:=hf
 have hb:=arcXY_bd (rad p m.Center) m.Kind (qd p m.Center) q hx hy
 have hr:=h.rad_le
 unfold arcXYi
 rw[e1,e2]
 refine⟨by omega,by omega,?_⟩
 have:=Nat.mul_le_mul_left (arcN p m) (show q+1≤arcQ p m by omega)
 rw[Nat.mul_add,Nat.mul_one]at this
 omega
theorem ArcOk.zz{p:aa}{m:aV}(h:ArcOk p m){i:Nat}(hi:i<arcN p m*arcQ p m) :
  (-100000000000≤(m.To.Z-p.Z)*((i+1:Nat):Int)∧(m.To.Z-p.Z)*((i+1:Nat):Int)≤100000000000)∧(-20000000≤(m.To.Z-p.Z)*((i+1:Nat):Int) / ((arcN p m*arcQ p m:Nat):Int)∧(m.To.Z-p.Z)*((i+1:Nat):Int) / ((arcN p m*arcQ p m:Nat):Int)≤20000000):=by
 have ha:=h.all
 have h1:=h.p3
 have h2:=h.t3
 obtain⟨T,hT⟩:∃T,arcN p m*arcQ p m=T:=⟨_,rfl⟩
 obtain⟨d,hd⟩:∃d,m.To.Z-p.Z=d:=⟨_,rfl⟩
 rw[hT]at ha hi ⊢
 rw[hd]
 have hd1:-20000000≤d∧d≤20000000:=by omega
 have b1:d*((i+1:Nat):Int)≤20000000*((i+1:Nat):Int):=zL hd1.2 (by omega)
 have b2:-20000000*((i+1:Nat):Int)≤d*((i+1:Nat):Int):=zL hd1.1 (by omega)
 refine⟨by omega,?_,?_⟩
 ·refine zX (by omega) ?_
  have:(-20000000:Int)*(T:Int)≤-20000000*((i+1:Nat):Int):=by omega
  omega
 ·have:d*((i+1:Nat):Int) / (T:Int)<20000001:=zF (by omega) (by omega)
  omega
theorem ip_Arc_eq{p:aa}{m:aV}(h:ArcOk p m)(hp:okPos p)(hm:okMove m)(hv:movV p m=0):ip_Arc p m=some (arcL p m,0):=by
 apply Tot.get
 unfold ip_Arc
 show Tot (bindO (cg p m) _) _
 have hQ:cg p m=some ((arcQ p m:Int),0):=ip_Quarters_eq h hp hm hv
 obtain⟨n0,n1,n2⟩:=h.n
 obtain⟨q1,q2⟩:=h.q
 obtain⟨al1,al2⟩:=h.all
 have hr:=h.rad_le
 have hr0:=h.r0
 have hz1:=h.p3
 have hz2:=h.t3
 have hc1:=h.c1
 have hc2:=h.c2
 rw[hQ,ae]
 refine Tot.ite (λq=>by simp at q) (λ_=>?_)
 rw[gR (gc h.p1) (gc h.p2) (gc h.c1) (gc h.c2),ae]
 dsimp only
 rw[wrap_i64 (n:=rad p m.Center) (by omega) (by omega),ip_Chords_eq hr0 hr,ae,n0]
 have ecast:(arcN p m:Int)*(arcQ p m:Int)=((arcN p m*arcQ p m:Nat):Int):=by rw[Int.natCast_mul]
 rw[wrap_i64 (n:=(arcN p m:Int)*(arcQ p m:Int)) (by omega) (by omega),ecast]
 refine Tot.ite (λq=>absurd q (by simp;omega)) (λ_=>?_)
 have hqd:=qd_le p m.Center
 have hlen:(arcL p m).length=arcN p m*arcQ p m:=by unfold arcL;simp
 refine Tot.bind (E:=λv=>v=arcL p m) (Tot.loop (λk (v:List aa×Int)=>∃q:Nat,v=((arcL p m).take (arcN p m*q),(q:Int))∧q≤arcQ p m∧k=arcQ p m-q) _ (arcQ p m) (by unfold fuel;omega) ⟨0,by simp,Nat.zero_le _,rfl⟩ (λk v hr'=>?_)) (λv hv'=>.ok (by rw[hv']))
 obtain⟨q,rfl,hq,hk⟩:=hr'
 dsimp only
 by_cases zq:q<arcQ p m
 ·rw[decide_eq_true (show (q:Int)<(arcQ p m:Int) by omega),if_pos rfl]
  refine TotX.bind (E:=λv=>v=(arcL p m).take (arcN p m*(q+1))) (Tot.loop (λk (v:List aa×Int)=>∃j:Nat,v=((arcL p m).take (arcN p m*q+j),((j+1:Nat):Int))∧j≤arcN p m∧k=arcN p m-j) _ (arcN p m) (by unfold fuel;omega) ⟨0,rfl,Nat.zero_le _,rfl⟩ (λk v hr'=>?_)) (λv hv'=>?_)
  ·obtain⟨j,rfl,hj,hk2⟩:=hr'
   dsimp only
   by_cases zj:j<arcN p m
   ·obtain⟨b1,b2,b3⟩:=h.pt zq zj
    obtain⟨z1,z2⟩:=h.zz b3
    obtain⟨e1,e2⟩:=arc_idx (q:=q) zj
    obtain⟨f1,f2,f3,f4,f5,f6,f7,f8,f9,f10,f11,f12,f13⟩:=chord_facts (R:=rad p m.Center) (n:=(arcN p m:Int)) (K:=((j+1:Nat):Int)) hr0 hr (by omega) (by omega) (by omega)
    have hlt:((arcL p m).take (arcN p m*q+j)).length=arcN p m*q+j:=by rw[List.length_take,hlen];omega
    rw[decide_eq_true (show ((j+1:Nat):Int)≤(arcN p m:Int) by omega),if_pos rfl,f1,f2,f3,f4,f5,f6,f7,f8,f9,f10,hlt]
    refine .guard (by simpa using f11) (.guard (by simpa using f11) ?_)
    refine TotX.bind (E:=λxy=>xy=arcXYi p m (arcN p m*q+j)) ?_ (λxy hxy=>?_)
    ·unfold arcXYi
     rw[e1,e2]
     unfold arcXY
     rcases h.kind with hk3 | hk4
     ·rw[hk3,if_pos (by simp),if_pos rfl]
      rw[wrap_i64 (n:=0-chordY (rad p m.Center) (arcN p m:Int) ((j+1:Nat):Int)) (by omega) (by omega),Int.zero_sub,wrap_i64 (n:=((qd p m.Center:Nat):Int)-(q:Int)) (by omega) (by omega),wrap_i64 (by omega) (by omega),show ((qd p m.Center:Nat):Int)-(q:Int)+4=((qd p m.Center+4-q:Nat):Int) by omega,ip_turned_eq (by omega) (by omega) (by omega),ae]
      exact .ok rfl
     ·rw[hk4,if_neg (by simp),if_neg (by omega)]
      rw[wrap_i64 (n:=((qd p m.Center:Nat):Int)+(q:Int)) (by omega) (by omega),show ((qd p m.Center:Nat):Int)+(q:Int)=((qd p m.Center+q:Nat):Int) by omega,ip_turned_eq (by omega) (by omega) (by omega),ae]
      exact .ok rfl
    ·subst hxy
     have ei:((arcN p m*q+j:Nat):Int)+1=((arcN p m*q+j+1:Nat):Int):=rfl
     rw[wrap_i64 (n:=m.To.Z-p.Z) (by omega) (by omega),wrap_i64 (n:=((arcN p m*q+j:Nat):Int)+1) (by omega) (by omega),ei,wrap_i64 (n:=(m.To.Z-p.Z)*((arcN p m*q+j+1:Nat):Int)) (by omega) (by omega),ip_floor_eq (by omega) (by omega),ae]
     refine .guard (bF (by omega)) (.go ⟨arcN p m-(j+1),by omega,j+1,?_,by omega,rfl⟩)
     rw[wrap_i64 (n:=m.Center.X+_) (by omega) (by omega),wrap_i64 (n:=m.Center.Y+_) (by omega) (by omega),wrap_i64 (n:=p.Z+_) (by omega) (by omega),wrap_i64 (n:=((j+1:Nat):Int)+1) (by omega) (by omega)]
     have ht:=take_map_range (arcPt p m) (arcN p m*arcQ p m) (arcN p m*q+j) b3
     have e3:(arcL p m).take (arcN p m*q+(j+1))=(arcL p m).take (arcN p m*q+j)++[arcPt p m (arcN p m*q+j)]:=ht
     rw[e3];rfl
   ·rw[decide_eq_false (show ¬((j+1:Nat):Int)≤(arcN p m:Int) by omega),if_neg (by simp)]
    refine .ret ?_
    rw[show j=arcN p m by omega,Nat.mul_add,Nat.mul_one]
  ·subst hv'
   rw[wrap_i64 (n:=(q:Int)+1) (by omega) (by omega)]
   exact .go ⟨arcQ p m-(q+1),by omega,q+1,rfl,by omega,rfl⟩
 ·rw[decide_eq_false (show ¬(q:Int)<(arcQ p m:Int) by omega),if_neg (by simp)]
  refine .ret ?_
  rw[show q=arcQ p m by omega,←hlen,List.take_length]
def prn(c:UInt8):Bool:=decide ((c.toNat:Int)≥32)&&(decide ((c.toNat:Int)≤126)&&(((c.toNat:Int) != 40)&&((c.toNat:Int) != 41)))
def okW(w:aN):Prop:=65≤w.Letter∧w.Letter≤90∧-1000000000000≤w.Value∧w.Value≤1000000000000
def gU(b:au):Prop:=b.Words.length≤16∧b.Comment.length≤100∧(∀w∈b.Words,okW w)∧∀c∈b.Comment,prn c=true
theorem bk_Valid_vp(b:au)(h1:b.Words.length≤1000)(h2:b.Comment.length≤1000):Tot (kf b) (λe=>(e=0∧gU b)∨(e=1∧¬gU b)):=by
 unfold kf
 have hsz:(decide ((b.Words.length:Int)>16)||decide ((b.Comment.length:Int)>100))=decide (¬(b.Words.length≤16∧b.Comment.length≤100)):=by
  rw[zT];simp only[zK,decide_eq_true_eq];omega
 rw[hsz]
 refine Tot.ite (λh=>.ok (.inr ⟨rfl,λq=>of_decide_eq_true h ⟨q.1,q.2.1⟩⟩)) (λh=>?_)
 have hle:b.Words.length≤16∧b.Comment.length≤100:=by simpa using h
 refine Tot.bindX (E:=λ_=>∀w∈b.Words,okW w) (TotX.of (Tot.mono (E:=λx=>(x=.ret 1∧¬gU b)∨(x=.go ()∧∀w∈b.Words,okW w)) ?_ ?_)) (λx hx=>?_)
 ·refine Tot.guard (bE (by omega)) (Tot.range (λi _=>∀(k:Nat) w,k<i→b.Words[k]? = some w→okW w) _ (λk w q=>by omega) (λi x v hx hr=>?_) (λv hr=>.ok (.inr ⟨rfl,λw hw=>?_⟩)))
  ·have hc:(decide (x.Letter<65)||(decide (x.Letter>90)||(decide (x.Value>1000000000000)||decide (x.Value < -1000000000000))))=decide (¬(65≤x.Letter∧x.Letter≤90∧-1000000000000≤x.Value∧x.Value≤1000000000000)):=by
    rw[zT];simp only[zK,decide_eq_true_eq];omega
   rw[hc]
   refine TotX.ite (λh2=>.ret (.inl ⟨rfl,λq=>of_decide_eq_true h2 (q.2.2.1 x (List.mem_of_getElem? hx))⟩)) (λh2=>.go (λk w hk hw=>?_))
   rcases Nat.lt_or_ge k i with q | q
   ·exact hr k w q hw
   ·obtain rfl:k=i:=by omega
    rw[hx]at hw;injection hw with hw;subst hw
    have h3:65≤x.Letter∧x.Letter≤90∧-1000000000000≤x.Value∧x.Value≤1000000000000:=Decidable.not_not.1 (of_decide_eq_false h2)
    exact h3
  ·obtain⟨k,hk⟩:=List.mem_iff_getElem?.1 hw
   exact hr k w (ao hk) hk
 ·rintro x (⟨rfl,h3⟩|⟨rfl,h3⟩)
  ·exact .inr ⟨rfl,h3⟩
  ·exact h3
 ·refine Tot.bindX (E:=λ_=>gU b) (TotX.of (Tot.mono (E:=λx=>(x=.ret 1∧¬gU b)∨(x=.go ()∧gU b)) ?_ ?_)) (λ_ hv=>.ok (.inl ⟨rfl,hv⟩))
  ·refine Tot.guard (bE (by simp[bytesI];omega)) (Tot.range (λi _=>∀(k:Nat) c,k<i→b.Comment[k]? = some c→prn c=true) _ (λk w q=>by omega) (λi y v hy hr=>?_) (λv hr=>.ok (.inr ⟨rfl,hle.1,hle.2,hx,λc hc=>?_⟩)))
   ·unfold bytesI at hy
    rw[List.getElem?_map]at hy
    cases hq:b.Comment[i]? with
    | none=>rw[hq]at hy;cases hy
    | some c =>
     rw[hq]at hy;injection hy with hy;subst hy
     have hp:gG (c.toNat:Int)=some (prn c):=rfl
     rw[hp,ae]
     refine TotX.ite (λh2=>.ret (.inl ⟨rfl,λq=>?_⟩)) (λh2=>.go (λk w hk hw=>?_))
     ·have:=q.2.2.2 c (List.mem_of_getElem? hq)
      rw[this]at h2;cases h2
     ·rcases Nat.lt_or_ge k i with q | q
      ·exact hr k w q hw
      ·obtain rfl:k=i:=by omega
       rw[hq]at hw;injection hw with hw;subst hw
       simpa using h2
   ·obtain⟨k,hk⟩:=List.mem_iff_getElem?.1 hc
    exact hr k c (by have:=ao hk;simpa [bytesI] using this) hk
  ·rintro x (⟨rfl,h3⟩|⟨rfl,h3⟩)
   ·exact .inr ⟨rfl,h3⟩
   ·exact h3
theorem findW_mem{b:au}{c:Int}(h:(findW b c).2=true):∃w∈b.Words,w.Letter=c∧w.Value=(findW b c).1:=by
 unfold findW at *
 cases hf:b.Words.find? (λw=>w.Letter==c)with
 | none=>rw[hf]at h;cases h
 | some w =>
  have h1:=List.find?_some hf
  exact⟨w,List.mem_of_find?_eq_some hf,by simpa using h1,rfl⟩
theorem jZ{b:au}(hv:gU b)(c:Int):-1000000000000≤(findW b c).1∧(findW b c).1≤1000000000000:=by
 cases h:(findW b c).2 with
 | true =>
  obtain⟨w,hw,_,h2⟩:=findW_mem h
  have:=hv.2.2.1 w hw
  unfold okW at this
  omega
 | false =>
  have:(findW b c).1=0:=by
   unfold findW at *
   cases hf:b.Words.find? (λw=>w.Letter==c)with
   | none=>rfl
   | some w=>rw[hf]at h;cases h
  omega
def knW(w:aN):Bool :=
 if w.Letter=77 then [0,1000,3000,4000,5000,6000,8000,9000,30000].contains w.Value
 else if w.Letter=83 then decide (w.Value≥0)
 else [71,84,70,72,78,88,89,90,73,74,81,82].contains w.Letter
theorem all_not{α:Type}(p:α→Bool)(l:List α):(l.any λx=>!(p x))=!(l.all p):=by
 induction l with
 | nil=>rfl
 | cons x l ih=>rw[zP,List.all_cons,ih];cases p x<;>rfl
theorem known_fin{f:Nat→aN→Unit→Option (Ex (Ex Bool Unit) Unit)}(l:List aN)(hl:l.length≤1000)(hf:∀i x,f i x ()=if (!(knW x))=true then some (.ret (.ret false))else some (.go ())) :
  bindX (aB (okIdx l) (aS f (λ_=>some (.go ())) l 0 ())) (λ(_:Unit)=>some true)=some (l.all knW):=by
 rw[bE (by omega),bB,range_any (r:=false) l 0 hf,all_not]
 cases l.all knW<;>rfl
theorem inp_known_eq(b:au)(hl:b.Words.length≤1000):io b=some (b.Words.all knW):=by
 unfold io
 refine known_fin b.Words hl (λi w=>?_)
 rw[contains_eq _ _ (by decide),ae]
 unfold knW
 by_cases h1:w.Letter=77
 ·rw[h1,if_pos rfl]
  cases h:([0,1000,3000,4000,5000,6000,8000,9000,30000]:List Int).contains w.Value<;>rfl
 ·rw[if_neg h1]
  by_cases h2:w.Letter=83
  ·rw[h2,if_pos rfl]
   by_cases h:w.Value<0
   ·rw[decide_eq_true h,decide_eq_false (show ¬w.Value≥0 by omega)];rfl
   ·rw[decide_eq_false h,decide_eq_true (show w.Value≥0 by omega)];rfl
  ·rw[if_neg h2,beq_false_of_ne h1,beq_false_of_ne h2]
   by_cases a1:w.Letter=71
   ·rw[a1];rfl
   by_cases a2:w.Letter=84
   ·rw[a2];rfl
   by_cases a3:w.Letter=70
   ·rw[a3];rfl
   by_cases a4:w.Letter=72
   ·rw[a4];rfl
   by_cases a5:w.Letter=78
   ·rw[a5];rfl
   by_cases a6:w.Letter=88
   ·rw[a6];rfl
   by_cases a7:w.Letter=89
   ·rw[a7];rfl
   by_cases a8:w.Letter=90
   ·rw[a8];rfl
   by_cases a9:w.Letter=73
   ·rw[a9];rfl
   by_cases b1:w.Letter=74
   ·rw[b1];rfl
   by_cases b2:w.Letter=81
   ·rw[b2];rfl
   by_cases b3:w.Letter=82
   ·rw[b3];rfl
   simp[a1,a2,a3,a4,a5,a6,a7,a8,a9,b1,b2,b3]
def crd(b:au)(l a d:Int):Int:=if (findW b l).2=true then (if d=90000 then (findW b l).1 else a+(findW b l).1)else a
def tgtW(s:am)(b:au)(p:aa):aa:=⟨crd b 88 p.X s.Distance,crd b 89 p.Y s.Distance,crd b 90 p.Z s.Distance⟩
theorem crd_bd{b:au}(hv:gU b){a:Int}(h:-10000000≤a∧a≤10000000)(l d:Int):-1000010000000≤crd b l a d∧crd b l a d≤1000010000000:=by
 have:=jZ hv l
 unfold crd
 split
 ·split<;>omega
 ·omega
theorem inp_crd{b:au}(hv:gU b)(hl:b.Words.length≤1000){a:Int}(h:-10000000≤a∧a≤10000000)(l d:Int):(bindO (gS b l) λ(y:Int×Bool)=>if (!y.2)=true then some a else if (d==90000)=true then some y.1 else some (IntKind.i64.wrap (a+y.1)))=some (crd b l a d):=by
 have:=jZ hv l
 rw[bk_Find_eq b l hl,ae]
 unfold crd
 cases (findW b l).2 with
 | false=>rfl
 | true =>
  by_cases hd:d=90000
  ·rw[hd];rfl
  ·rw[beq_false_of_ne hd,if_pos rfl,if_neg hd,wrap_i64 (by omega) (by omega)];rfl
theorem inp_target_eq{s:am}{b:au}{p:aa}(hv:gU b)(hl:b.Words.length≤1000)(hp:inR p):im s b p=some (tgtW s b p):=by
 unfold im
 rw[inp_crd hv hl hp.1,ae,inp_crd hv hl hp.2.1,ae,inp_crd hv hl hp.2.2,ae]
 rfl
def cycB(k:Int):Bool:=(k==81000)||((k==82000)||(k==83000))
def mvV(s:am)(b:au)(p:aa):aV:=⟨if s.Motion=3000 then 4 else 3,tgtW s b p,⟨p.X+(findW b 73).1,p.Y+(findW b 74).1⟩,s.Feed⟩
def iniW(c:ap)(p:aa):Int:=if ((c.Code==0)&&((c.R==0)&&((c.Z==0)&&((c.Q==0)&&((c.Rate==0)&&((c.Initial==0)&&(c.High==false)))))))=true then p.Z else c.Initial
def rdC(s:am)(c:ap)(b:au)(p:aa):ap :=
 ap.mk s.Motion (if (findW b 82).2=true then (findW b 82).1 else c.R) (if (findW b 90).2=true then (findW b 90).1 else c.Z) (if (findW b 81).2=true then (findW b 81).1 else c.Q) (if (findW b 70).2=true then (findW b 70).1 else s.Feed) (iniW c p) (s.Return==98000)
def reM(m:aV):aw:=⟨m.To,m.Rate⟩
def posV(s:am)(c:ap)(b:au)(p:aa):List aw×ap×Int :=
  if s.Motion=0 then ([⟨tgtW s b p,0⟩],zC,0)
  else if s.Motion=1000 then ([⟨tgtW s b p,s.Feed⟩],zC,0)
  else if cycB s.Motion=true then
    (if cycV (rdC s c b p)≠0 then ([],zC,cycV (rdC s c b p))
     else if (expV (rdC s c b p) p ⟨(tgtW s b p).X,(tgtW s b p).Y⟩).2≠0 then ([],zC,(expV (rdC s c b p) p ⟨(tgtW s b p).X,(tgtW s b p).Y⟩).2)
     else ((expV (rdC s c b p) p ⟨(tgtW s b p).X,(tgtW s b p).Y⟩).1.map reM,rdC s c b p,0))
  else if movV p (mvV s b p)=0 then ((arcL p (mvV s b p)).map λq=>⟨q,s.Feed⟩,zC,0)
  else ([],zC,movV p (mvV s b p))
theorem mvV_ok{s:am}{b:au}{p:aa}(hv:gU b)(hp:inR p)(hf:i64P s.Feed):okPos p∧okMove (mvV s b p):=by
 obtain⟨p1,p2,p3⟩:=hp
 have a1:=crd_bd hv p1 88 s.Distance
 have a2:=crd_bd hv p2 89 s.Distance
 have a3:=crd_bd hv p3 90 s.Distance
 have b1:=jZ hv 73
 have b2:=jZ hv 74
 refine⟨⟨gc p1,gc p2,gc p3⟩,?_,⟨?_,?_,?_⟩,?_,?_,hf⟩
 ·unfold mvV i64P;dsimp only;split<;>omega
 ·unfold mvV tgtW i64P;dsimp only;omega
 ·unfold mvV tgtW i64P;dsimp only;omega
 ·unfold mvV tgtW i64P;dsimp only;omega
 ·unfold mvV i64P;dsimp only;omega
 ·unfold mvV i64P;dsimp only;omega
theorem mvV_kind(s:am)(b:au)(p:aa):(mvV s b p).Kind=3∨(mvV s b p).Kind=4:=by
 unfold mvV;dsimp only;split
 ·exact .inr rfl
 ·exact .inl rfl
theorem arc_ok{p:aa}{m:aV}(hk:m.Kind=3∨m.Kind=4)(h:movV p m=0):ArcOk p m:=by
 unfold movV at h
 rw[if_neg (by omega)]at h
 by_cases e2:(m.Kind=3∨m.Kind=4)∧m.Rate>0∧rad p m.Center>0∧rad p m.Center=rad m.To m.Center
 ·rw[if_pos e2]at h
  by_cases f:(far6 p m.To||farP m.Center.X||farP m.Center.Y||farP (m.Center.X+rad p m.Center)||farP (m.Center.X-rad p m.Center)||farP (m.Center.Y+rad p m.Center)||farP (m.Center.Y-rad p m.Center))=true
  ·rw[if_pos f]at h;cases h
  ·have f':(far6 p m.To||farP m.Center.X||farP m.Center.Y||farP (m.Center.X+rad p m.Center)||farP (m.Center.X-rad p m.Center)||farP (m.Center.Y+rad p m.Center)||farP (m.Center.Y-rad p m.Center))=false:=by simpa using f
   simp only[zY,far6]at f'
   obtain⟨⟨⟨⟨⟨⟨⟨⟨⟨⟨⟨g1,g2⟩,g3⟩,g4⟩,g5⟩,g6⟩,fx⟩,fy⟩,h1⟩,h2⟩,h3⟩,h4⟩:=f'
   have k1:=jf h1;have k2:=jf h2;have k3:=jf h3;have k4:=jf h4
   exact⟨hk,jf g1,jf g2,jf g3,jf g4,jf g5,jf g6,jf fx,jf fy,by omega,e2.2.2.2,by omega,by omega⟩
 ·rw[if_neg e2]at h;cases h
theorem ip_Arc_bad{p:aa}{m:aV}(hk:m.Kind=3∨m.Kind=4)(hp:okPos p)(hm:okMove m)(h:movV p m≠0):ip_Arc p m=some ([],movV p m):=by
 have hQ:cg p m=some (0,movV p m):=by
  unfold cg fF
  have hk':((m.Kind==3)||(m.Kind==4))=true:=by simpa using hk
  rw[hk',ae,if_neg (by simp)]
  show bindO (iV p m) _=_
  rw[ip_Valid_eq hp hm,ae,if_pos (by simpa using h)]
 unfold ip_Arc
 show bindO (cg p m) _=_
 rw[hQ,ae,if_pos (by simpa using h)]
theorem map_loop{α β:Type}(g:α→β)(l:List α)(hl:l.length≤1000000):(aB (okIdx l) (aS (λ(i:Nat) (e:α) (v:List β)=>aB (okLen (v.length+1)) (some (.go (v++[g e])))) (λv=>some v) l 0 []))=some (l.map g):=by
 rw[bE (by omega),bB,gX (g:=λ(o:List β) (x:α)=>o++[g x]) (R:=λi v=>v.length≤i) (L:=l) ?_ l 0 [] rfl (by simp)]
 ·rw[map_fold];rfl
 ·intro i x v hx hr
  have hlt:=ao hx
  rw[bF (by omega),bB]
  exact⟨rfl,by simp;omega⟩
theorem expV_len(c:ap)(p:aa)(g:be):(expV c p g).1.length≤2010:=by
 unfold expV
 split
 ·split
  ·simp
  ·rename_i h _
   exact cycM_len (cycV_ok h) p g
 ·simp
theorem arcL_len{p:aa}{m:aV}(h:ArcOk p m):(arcL p m).length≤4000:=by
 have:=h.all
 unfold arcL;simp;omega
theorem posV_len(s:am)(c:ap)(b:au)(p:aa):(posV s c b p).1.length≤4000:=by
 unfold posV
 split
 ·simp
 ·split
  ·simp
  ·split
   ·split
    ·simp
    ·split
     ·simp
     ·have:=expV_len (rdC s c b p) p ⟨(tgtW s b p).X,(tgtW s b p).Y⟩
      simp;omega
   ·split
    ·rename_i h
     have:=arcL_len (arc_ok (mvV_kind s b p) h)
     simp;omega
    ·simp
def machV(t:al)(w n:Int)(q:aa):aa×Int:=(dw t w n q).getD (⟨0,0,0⟩,1)
theorem machV_eq{t:al}(ht:t.Lengths.length≤1000)(w n:Int)(q:aa):dw t w n q=some (machV t w n q):=by
 obtain⟨e,h,_⟩:=tb_Machine_tot t w n q ht
 unfold machV;rw[h];rfl
def addM(r:aa)(rate tool i:Int)(v:List ah×aa):List ah×aa:=(if (!posEq r v.2)=true then v.1++[ah.mk v.2 r rate tool i]else v.1,r)
def runM(t:al)(w n tool i:Int):List aw→List ah×aa→Ex Int (List ah×aa)
 | [],v=>.go v
 | x::l,v=>if (machV t w n x.at_).2≠0 then .ret (machV t w n x.at_).2 else runM t w n tool i l (addM (machV t w n x.at_).1 x.rate tool i v)
theorem addM_len(r:aa)(rate tool i:Int)(v:List ah×aa):(addM r rate tool i v).1.length≤v.1.length+1:=by
 unfold addM;dsimp only;split<;>simp
theorem runM_ret(t:al)(w n tool i:Int):∀(l:List aw) (v:List ah×aa) (e:Int),runM t w n tool i l v=.ret e→e≠0
 | [],v,e,h=>by cases h
 | x::l,v,e,h=>by
  simp only[runM]at h
  by_cases q:(machV t w n x.at_).2=0
  ·rw[if_neg (by simpa using q)]at h
   exact runM_ret t w n tool i l _ e h
  ·rw[if_pos q]at h
   injection h with h
   rw[←h];exact q
theorem run_loop{α σ ε:Type}{f:Nat→α→σ→Option (Ex ε σ)}{d:σ→Option ε}{t:al}{w n tool i:Int}(emb:List ah×aa→σ)(pr:α→aw)(g:Int→ε)
  (hf:∀(k:Nat) x (v:List ah×aa),v.1.length≤300000→f k x (emb v)=some (if (machV t w n (pr x).at_).2≠0 then .ret (g (machV t w n (pr x).at_).2)else .go (emb (addM (machV t w n (pr x).at_).1 (pr x).rate tool i v)))) :
  ∀(l:List α) (k:Nat) (v:List ah×aa),v.1.length+l.length≤300000→aS f d l k (emb v)=match runM t w n tool i (l.map pr) v with | .ret e=>some (g e) | .go u=>d (emb u)
 | [],k,v,_=>rfl
 | x::l,k,v,hv=>by
  simp only[List.length_cons]at hv
  simp only[aS,hf k x v (by omega),List.map_cons,runM]
  by_cases h:(machV t w n (pr x).at_).2=0
  ·rw[if_neg (by simpa using h),if_neg (by simpa using h)]
   have:=addM_len (machV t w n (pr x).at_).1 (pr x).rate tool i v
   exact run_loop emb pr g hf l (k+1) _ (by omega)
  ·rw[if_pos h,if_pos h]
theorem run_fin{R:Type}{f:Nat→aw→List ah×aa→Option (Ex (Ex R (List ah×aa)) (List ah×aa))}{L:List aw}{v:List ah×aa}{k:List ah×aa→Option R}(t:al)(w n tool i:Int)(g:Int→R)(hL:v.1.length+L.length≤300000)
  (hf:∀(j:Nat) x (v:List ah×aa),v.1.length≤300000→f j x v=some (if (machV t w n x.at_).2≠0 then .ret (.ret (g (machV t w n x.at_).2))else .go (addM (machV t w n x.at_).1 x.rate tool i v))) :
  bindX (aB (okIdx L) (aS f (λv=>some (.go (v.1,v.2))) L 0 v)) k=match runM t w n tool i L v with | .ret e=>some (g e) | .go u=>k u:=by
 have h:=run_loop (t:=t) (w:=w) (n:=n) (tool:=tool) (i:=i) (f:=f) (d:=λv=>some (.go (v.1,v.2))) (λv=>v) (λx=>x) (λe=>Ex.ret (g e)) hf L 0 v hL
 rw[bE (by omega),bB,h,List.map_id']
 cases runM t w n tool i L v<;>rfl
theorem unit_s{β:Type}(f:Unit→Option β):bindO (some ()) f=f ():=rfl
theorem ijqr(hI hQ cy a b:Bool):(if hI=true then (if a=true then (if b=true then some true else if hQ=true then some (!cy)else some false)else if hQ=true then some (!cy)else some false)else if hQ=true then some (!cy)else some false)=some ((hI&&a&&b)||(hQ&&!cy)):=by
 cases hI<;>cases hQ<;>cases cy<;>cases a<;>cases b<;>rfl
theorem put_feed{s:am}{w:aN}(h:i64P s.Feed)(hw:i64P w.Value):i64P (putW s w).Feed:=by
 unfold putW
 by_cases h1:w.Letter=71
 ·rw[if_pos h1]
  by_cases g1:grp w.Value=1
  ·rw[if_pos g1];exact h
  ·rw[if_neg g1]
   by_cases g2:grp w.Value=2
   ·rw[if_pos g2];exact h
   ·rw[if_neg g2]
    by_cases g3:grp w.Value=3
    ·rw[if_pos g3];exact h
    ·rw[if_neg g3]
     by_cases g4:grp w.Value=4
     ·rw[if_pos g4];exact h
     ·rw[if_neg g4];exact h
 ·rw[if_neg h1]
  by_cases h2:w.Letter=70
  ·rw[if_pos h2];exact hw
  ·rw[if_neg h2]
   by_cases h3:w.Letter=84
   ·rw[if_pos h3];exact h
   ·rw[if_neg h3]
    by_cases h4:w.Letter=72
    ·rw[if_pos h4];exact h
    ·rw[if_neg h4];exact h
theorem fold_feed:∀(l:List aN) (s:am),i64P s.Feed→(∀w∈l,i64P w.Value)→i64P (l.foldl putW s).Feed
 | [],_,h,_=>h
 | w::l,s,h,hw=>fold_feed l _ (put_feed h (hw w (by simp))) (λx hx=>hw x (by simp[hx]))
def failP(e:Int):List ah×am×ap×Int:=([],zS,zC,e)
def i9(b:au):Prop:=gU b∧goodW [] b.Words=true∧b.Words.all knW=true
def numP(s:am):Int:=if s.Length=43000 then IntKind.i64.wrap (zN s.Offset 1000)else 0
def workV(t:al)(w n:Int)(q:aa):aa×Int:=(iA t w n q).getD (⟨0,0,0⟩,1)
theorem workV_eq{t:al}(ht:t.Lengths.length≤1000)(w n:Int)(q:aa):iA t w n q=some (workV t w n q):=by
 obtain⟨e,h,_⟩:=tb_Work_tot t w n q ht
 unfold workV;rw[h];rfl
theorem workV_in{t:al}(ht:t.Lengths.length≤1000)(w n:Int)(q:aa)(h0:(workV t w n q).2=0):inR (workV t w n q).1:=by
 obtain⟨e,h,h2⟩:=tb_Work_tot t w n q ht
 have:=workV_eq ht w n q
 rw[h]at this
 injection this with this
 rw[←this]at h0 ⊢
 exact h2 h0
def toolP(s:am):Int:=IntKind.i64.wrap (zN s.Tool 1000)
def moveP(s:am)(c:ap)(b:au)(t:al)(p:aa):List ah×am×ap×Int :=
 if ((hasW b [73,74]&&(s.Motion != 2000)&&(s.Motion != 3000))||(hasW b [81,82]&&!(cycB s.Motion)))=true then failP 1
 else if ((s.Motion==80000)||((s.Motion != 0)&&(decide (s.Feed≤0))))=true then failP 13
 else if (workV t s.Work (numP s) p).2≠0 then failP (workV t s.Work (numP s) p).2
 else if (posV s c b (workV t s.Work (numP s) p).1).2.2≠0 then failP (posV s c b (workV t s.Work (numP s) p).1).2.2
 else match runM t s.Work (numP s) (toolP s) 0 (posV s c b (workV t s.Work (numP s) p).1).1 ([],p)with
  | .ret e=>failP e
  | .go u=>(u.1,s,(posV s c b (workV t s.Work (numP s) p).1).2.1,0)
open Classical in
noncomputable def stepP(s:am)(c:ap)(b:au)(t:al)(p:aa):List ah×am×ap×Int :=
  if i9 b then
    (if hasW b [88,89,90,73,74,81,82]=true then moveP (b.Words.foldl putW s) (if cycB (b.Words.foldl putW s).Motion=true then c else zC) b t p
     else ([],b.Words.foldl putW s,if cycB (b.Words.foldl putW s).Motion=true then c else zC,0))
  else failP 1
theorem checked_0{t:al}{p:aa}(hv:br t=some 0)(hp:inR p):bU t p=some 0:=by
 unfold bU
 rw[show al.mk t.Work t.Lengths=t from rfl,hv,ae,inp_inside_eq,ae,decide_eq_true hp]
 rfl
def rglS(s:am):Prop:=grp s.Motion=1∧grp s.Distance=2∧grp s.Work=3∧grp s.Length=4∧grp s.Return=5∧(0≤s.Feed∧s.Feed≤1000000000000)∧(0≤s.Tool∧s.Tool≤1000000000000∧zM s.Tool 1000=0)∧(0≤s.Offset∧s.Offset≤1000000000000∧zM s.Offset 1000=0)
theorem rgl_new:rglS newS:=by
 refine⟨by decide,by decide,by decide,by decide,by decide,⟨by decide,by decide⟩,⟨by decide,by decide,by decide⟩,by decide,by decide,by decide⟩
theorem rgl_put{s:am}{w:aN}(h:rglS s)(h0:clsW w≠0)(h1:ji w=true)(h2:okW w):rglS (putW s w):=by
 obtain⟨a1,a2,a3,a4,a5,a6,a7,a8⟩:=h
 obtain⟨b1,b2,b3,b4⟩:=h2
 unfold putW
 unfold clsW at h0
 unfold ji at h1
 by_cases q1:w.Letter=71
 ·rw[if_pos q1]at h0 ⊢
  rcases grp_in w.Value with z | z | z | z | z | z
  ·exact absurd z h0
  ·rw[if_pos z];exact⟨z,a2,a3,a4,a5,a6,a7,a8⟩
  ·rw[if_neg (by omega),if_pos z];exact⟨a1,z,a3,a4,a5,a6,a7,a8⟩
  ·rw[if_neg (by omega),if_neg (by omega),if_pos z];exact⟨a1,a2,z,a4,a5,a6,a7,a8⟩
  ·rw[if_neg (by omega),if_neg (by omega),if_neg (by omega),if_pos z];exact⟨a1,a2,a3,z,a5,a6,a7,a8⟩
  ·rw[if_neg (by omega),if_neg (by omega),if_neg (by omega),if_neg (by omega)];exact⟨a1,a2,a3,a4,z,a6,a7,a8⟩
 ·rw[if_neg q1]
  by_cases q2:w.Letter=70
  ·rw[if_pos q2]at h1 ⊢
   simp at h1
   exact⟨a1,a2,a3,a4,a5,⟨h1,b4⟩,a7,a8⟩
  ·rw[if_neg q2]at h1 ⊢
   by_cases q3:w.Letter=84
   ·rw[if_pos (.inl q3)]at h1
    rw[if_pos q3]
    simp at h1
    exact⟨a1,a2,a3,a4,a5,a6,⟨h1.1,b4,h1.2⟩,a8⟩
   ·rw[if_neg q3]
    by_cases q4:w.Letter=72
    ·rw[if_pos (.inr q4)]at h1
     rw[if_pos q4]
     simp at h1
     exact⟨a1,a2,a3,a4,a5,a6,a7,h1.1,b4,h1.2⟩
    ·rw[if_neg q4];exact⟨a1,a2,a3,a4,a5,a6,a7,a8⟩
theorem rgl_fold:∀(l:List aN) (seen:List Int) (s:am),rglS s→goodW seen l=true→(∀w∈l,okW w)→rglS (l.foldl putW s)
 | [],_,s,h,_,_=>h
 | w::l,seen,s,h,hg,ho=>by
  simp only[goodW,Bool.and_eq_true,bne_iff_ne,ne_eq]at hg
  exact rgl_fold l (clsW w::seen) (putW s w) (rgl_put h hg.1.1.1 hg.1.1.2 (ho w (by simp))) hg.2 (λx hx=>ho x (by simp[hx]))
theorem valid_of_checked{t:al}{p:aa}(ht:t.Lengths.length≤1000)(h:bU t p=some 0):br t=some 0∧inR p:=by
 obtain⟨e,he,h2⟩:=inp_checked_tot t p ht
 rw[he]at h
 injection h with h
 refine⟨?_,h2 h⟩
 subst h
 unfold bU at he
 rw[show al.mk t.Work t.Lengths=t from rfl]at he
 obtain⟨e,hv,_⟩:=eZ t ht
 rw[hv,ae]at he
 by_cases q:e=0
 ·rw[hv,q]
 ·rw[if_pos (by simpa using q)]at he
  injection he with he
  cases he
theorem inp_positions_nc{s:am}{c:ap}{b:au}{p:aa}(hv:gU b)(hl:b.Words.length≤1000)(hp:inR p)(hf:i64P s.Feed)(hnc:cycB s.Motion=false):eH s c b p=some (posV s c b p):=by
 unfold eH posV
 rw[show au.mk b.Skip b.Words b.Comment=b from rfl,inp_target_eq hv hl hp,ae]
 by_cases m0:s.Motion=0
 ·rw[if_pos (by simpa using m0),if_pos m0];rfl
 rw[if_neg (by simpa using m0),if_neg m0]
 by_cases m1:s.Motion=1000
 ·rw[if_pos (by simpa using m1),if_pos m1];rfl
 rw[if_neg (by simpa using m1),if_neg m1]
 unfold dE
 rw[ae]
 have mc:¬cycB s.Motion=true:=by rw[hnc];simp
 rw[if_neg (show ¬((s.Motion==81000)||((s.Motion==82000)||(s.Motion==83000)))=true from mc),if_neg mc]
 obtain⟨op,om⟩:=mvV_ok (s:=s) hv hp hf
 have hb1:=jZ hv 73
 have hb2:=jZ hv 74
 obtain⟨p1,p2,p3⟩:=hp
 have harc:inp_arc s b p (tgtW s b p)=some (if movV p (mvV s b p)=0 then ((arcL p (mvV s b p)).map λq=>⟨q,s.Feed⟩,0)else ([],movV p (mvV s b p))):=by
  unfold inp_arc
  rw[inp_value_eq b 73 hl,ae,inp_value_eq b 74 hl,ae]
  have hk:(if (s.Motion==3000)=true then some (4:Int)else some 3)=some (if s.Motion=3000 then 4 else 3):=by
   by_cases q:s.Motion=3000
   ·rw[if_pos (by simpa using q),if_pos q]
   ·rw[if_neg (by simpa using q),if_neg q]
  rw[hk,ae,wrap_i64 (n:=p.X+(findW b 73).1) (by omega) (by omega),wrap_i64 (n:=p.Y+(findW b 74).1) (by omega) (by omega)]
  show bindO (ip_Arc p (mvV s b p)) _=_
  by_cases z:movV p (mvV s b p)=0
  ·have ok:=arc_ok (mvV_kind s b p) z
   rw[ip_Arc_eq ok op om z,ae,if_pos z,map_loop (λe:aa=>aw.mk e s.Feed) _ (Nat.le_trans (arcL_len ok) (by decide)),ae]
  ·rw[ip_Arc_bad (mvV_kind s b p) op om z,ae,if_neg z]
   rfl
 show bindO (inp_arc s b p (tgtW s b p)) _=_
 rw[harc,ae]
 by_cases z:movV p (mvV s b p)=0
 ·rw[if_pos z,if_pos z];rfl
 ·rw[if_neg z,if_neg z];rfl
theorem inp_Step_nc {s : am} {c : ap} {b : au} {t : al} {p : aa} (hb : okS b) (ht : t.Lengths.length ≤ 1000) (hF : i64P s.Feed) (hchk : bU t p = some 0) (hv0 : i9 b) (hnc : cycB (b.Words.foldl putW s).Motion = false) :
    fG s c b t p=some (stepP s c b t p):=by
  obtain⟨hu,hl,hc⟩:=hb
  have hok:okB b:=⟨hu,by omega⟩
  obtain⟨ew,hbk,hew⟩:=bk_Valid_vp b hl hc
  have hbad:(bindO (kf b) λ(y2:Int)=>if (y2 != 0)=true then some true else bindO (iM b) λ(y3:Int)=>if (y3 != 0)=true then some true else bindO (io b) λ(y4:Bool)=>some (!y4))=some (!(decide (ew=0)&&(goodW [] b.Words&&b.Words.all knW))):=by
    rw[hbk,ae]
    by_cases q:ew=0
    · rw[if_neg (by simpa using q),decide_eq_true q,Bool.true_and,md_Check_eq b hu (by omega),ae]
      cases goodW [] b.Words with
      | false=>rfl
      | true=>rw[if_pos rfl,if_neg (by decide),inp_known_eq b hl,ae,Bool.true_and]
    · rw[if_pos (by simpa using q),decide_eq_false q];rfl
  unfold fG
  simp only[unit_s]
  rw[hchk,ae,if_neg (show ¬(((0:Int) != 0)=true) by decide),hbad,ae]
  unfold stepP
  by_cases hv:i9 b
  · rw[if_pos hv]
    obtain⟨v1,v2,v3⟩:=hv
    have e0:ew=0:=by
      rcases hew with⟨z,_⟩|⟨_,z⟩
      · exact z
      · exact absurd v1 z
    rw[e0,v2,v3,decide_eq_true rfl,if_neg (show ¬((!(true&&(true&&true)))=true) by decide),md_Apply_eq s b hok,ae,if_pos v2]
    have hF1:=fold_feed b.Words s hF (λw hw=>by
      have:=v1.2.2.1 w hw
      unfold okW at this
      unfold i64P;omega)
    generalize b.Words.foldl putW s=s1 at hF1 hnc
    dsimp only
    rw[if_neg (show ¬(((0:Int) != 0)=true) by decide)]
    have cI:∀k,dE k=some (cycB k):=λ_=>rfl
    simp only[cI,ae]
    obtain⟨c1,hc1⟩:∃c1,(if cycB s1.Motion=true then c else zC)=c1:=⟨_,rfl⟩
    have i1:(if (!cycB s1.Motion)=true then some (ap.mk 0 0 0 0 0 0 false)else some (ap.mk c.Code c.R c.Z c.Q c.Rate c.Initial c.High))=some c1:=by
      rw[←hc1]
      cases cycB s1.Motion<;>rfl
    have a1:fk b [88,89,90,73,74,81,82]=some (hasW b [88,89,90,73,74,81,82]):=inp_has_eq b _ hl (by decide)
    have a2:fk b [73,74]=some (hasW b [73,74]):=inp_has_eq b _ hl (by decide)
    have a3:fk b [81,82]=some (hasW b [81,82]):=inp_has_eq b _ hl (by decide)
    rw[i1,ae,hc1]
    simp only[a1,a2,a3,ae]
    cases hXYZ:hasW b [88,89,90,73,74,81,82]with
    | false=>rfl
    | true =>
      rw[if_neg (show ¬((!true)=true) by decide),if_pos rfl,ijqr,ae]
      unfold moveP
      cases hbad2:((hasW b [73,74]&&(s1.Motion != 2000)&&(s1.Motion != 3000))||(hasW b [81,82]&&!(cycB s1.Motion)))with
      | true=>rfl
      | false =>
        rw[if_neg (show ¬(false=true) by decide),if_neg (show ¬(false=true) by decide)]
        cases hst:((s1.Motion==80000)||((s1.Motion != 0)&&(decide (s1.Feed≤0))))with
        | true=>rfl
        | false =>
          rw[if_neg (show ¬(false=true) by decide),if_neg (show ¬(false=true) by decide)]
          have hn:(if (s1.Length==43000)=true then some (IntKind.i64.wrap (zN s1.Offset 1000))else some 0)=some (numP s1):=by
            unfold numP
            by_cases q:s1.Length=43000
            · rw[if_pos (by simpa using q),if_pos q]
            · rw[if_neg (by simpa using q),if_neg q]
          rw[hn,ae,show al.mk t.Work t.Lengths=t from rfl,workV_eq ht,ae]
          have hin:=workV_in ht s1.Work (numP s1) p
          generalize workV t s1.Work (numP s1) p=wp at hin ⊢
          by_cases w0:wp.2=0
          · rw[if_neg (show ¬((wp.2 != 0)=true) by simpa using w0),if_neg (show ¬(wp.2≠0) by simpa using w0),show au.mk b.Skip b.Words b.Comment=b from rfl,inp_positions_nc v1 hl (hin w0) hF1 hnc,ae]
            have hlenV:=posV_len s1 c1 b wp.1
            generalize posV s1 c1 b wp.1=pv at hlenV ⊢
            obtain⟨fl,d,e⟩:=pv
            dsimp only at hlenV ⊢
            by_cases e0:e=0
            · rw[if_neg (show ¬((e != 0)=true) by simpa using e0),if_neg (show ¬(e≠0) by simpa using e0)]
              rw[run_fin t s1.Work (numP s1) (toolP s1) 0 (λe=>failP e) (by simpa using (show fl.length≤300000 by omega))]
              · cases runM t s1.Work (numP s1) (toolP s1) 0 fl ([],p)<;>rfl
              · intro j x v hv3
                rw[machV_eq ht,ae]
                by_cases z:(machV t s1.Work (numP s1) x.at_).2=0
                · rw[if_neg (show ¬(((machV t s1.Work (numP s1) x.at_).2 != 0)=true) by simpa using z),if_neg (show ¬((machV t s1.Work (numP s1) x.at_).2≠0) by simpa using z)]
                  unfold addM posEq
                  rw[bF (by omega),bB]
                  cases (((machV t s1.Work (numP s1) x.at_).1.X==v.2.X)&&(((machV t s1.Work (numP s1) x.at_).1.Y==v.2.Y)&&((machV t s1.Work (numP s1) x.at_).1.Z==v.2.Z)))<;>rfl
                · rw[if_pos (show ((machV t s1.Work (numP s1) x.at_).2 != 0)=true by simpa using z),if_pos (show (machV t s1.Work (numP s1) x.at_).2≠0 by simpa using z)]
                  rfl
            · rw[if_pos (show (e != 0)=true by simpa using e0),if_pos e0]
              rfl
          · rw[if_pos (show (wp.2 != 0)=true by simpa using w0),if_pos w0]
            rfl
  · exact absurd hv0 hv
end Go.Proofs.YtgbafiejgciilaaGreatDoor
