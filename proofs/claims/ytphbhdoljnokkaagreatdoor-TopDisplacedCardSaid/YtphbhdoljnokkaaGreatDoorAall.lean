/-
  Na, Qx, Qe, Vx, Vy, Vz, Wx, Wn in one text.
-/
import Derived.Test.YtphbhdoljnokkaaGreatDoorHall
import Derived.Test.YtphbhdoljnokkaaGreatDoorMB
import Derived.Test.YtphbhdoljnokkaaGreatDoorPz
import Derived.Test.YtphbhdoljnokkaaGreatDoorMH
import Derived.Test.YtphbhdoljnokkaaGreatDoorMW
open Bool renaming false_eq_true → zA,and_eq_true → zG,or_eq_false_iff → zH
open Int renaming mul_le_mul_of_nonneg_left → zB,mul_nonneg → zD,ediv_lt_of_lt_mul → zE,mul_le_mul_of_nonneg_right → zI,mul_le_mul → zJ,lt_trichotomy → zK,ediv_nonneg → zL,le_ediv_of_mul_le → zO,tmod → zQ,tdiv → zW,tdiv_eq_ediv → zX,tmod_eq_emod → zY
open List renaming contains_cons → zF,range → zR,take_add_one → zT,cons_append → zU,not_mem_nil → zV,nil_append → zZ
namespace Go.Proofs.YtphbhdoljnokkaaGreatDoor
open Go.RowKit
set_option linter.unusedVariables false
set_option linter.unusedSimpArgs false
def codes1:List Int:=[0,1000,2000,3000,80000,81000,82000,83000]
def codes2:List Int:=[90000,91000]
def codes3:List Int:=[54000,55000,56000,57000,58000,59000]
def codes4:List Int:=[43000,49000]
def codes5:List Int:=[98000,99000]
def grp(c:Int):Int:=if c∈codes1 then 1 else if c∈codes2 then 2 else if c∈codes3 then 3 else if c∈codes4 then 4 else if c∈codes5 then 5 else 0
theorem grp_cases(c:Int):(c∈codes1++codes2++codes3++codes4++codes5)∨(c∉codes1++codes2++codes3++codes4++codes5):=Decidable.em _
theorem lk(c:Int):nG c=some (grp c):=by
 rcases grp_cases c with h | h
 ·simp only[codes1,codes2,codes3,codes4,codes5,zU,zZ,List.mem_cons,zV,or_false]at h
  rcases h with h | h | h | h | h | h | h | h | h | h | h | h | h | h | h | h | h | h | h | h<;>(subst h;decide)
 ·simp only[codes1,codes2,codes3,codes4,codes5,zU,zZ,List.mem_cons,zV,or_false,not_or]at h
  simp_all[nG,grp,codes1,codes2,codes3,codes4,codes5,auN]
theorem grp_in(c:Int):grp c=0∨grp c=1∨grp c=2∨grp c=3∨grp c=4∨grp c=5:=by
 grind[grp]
def putW(s:ao)(w:aC):ao :=
 if w.Letter=71 then (if grp w.Value=1 then { s with Motion:=w.Value }else if grp w.Value=2 then { s with Distance:=w.Value }else if grp w.Value=3 then { s with Work:=w.Value }else if grp w.Value=4 then { s with Length:=w.Value }else { s with Return:=w.Value })
 else if w.Letter=70 then { s with Feed:=w.Value }else if w.Letter=84 then { s with Tool:=w.Value }else if w.Letter=72 then { s with Offset:=w.Value }else s
theorem md_put_eq(s:ao)(w:aC)(h:w.Letter=71→grp w.Value≠0):md_put s w=some (putW s w):=by
 (unfold md_put putW;try delta jB jR)
 by_cases h1:w.Letter=71
 ·have h0:=h h1
  rcases grp_in w.Value with q | q | q | q | q | q
  omega
  all_goals (simp[h1,lk,q];rfl)
 ·by_cases h2:w.Letter=70
  ·simp[h2]
  ·by_cases h3:w.Letter=84
   ·simp[h3]
   ·by_cases h4:w.Letter=72<;>simp[h1,h2,h3,h4]
def clsW(w:aC):Int:=if w.Letter=71 then grp w.Value else 10+w.Letter
def iH(w:aC):Bool:=if w.Letter=70 then decide (w.Value≥0)else if w.Letter=84∨w.Letter=72 then decide (w.Value≥0)&&zQ w.Value 1000==0 else true
def u8W(w:aC):Prop:=0≤w.Letter∧w.Letter≤255
def jx:List Int→List aC→Bool
 | _,[]=>true
 | seen,w::r=>clsW w != 0&&iH w&&!(seen.contains (clsW w))&&jx (clsW w::seen) r
def qo(seen:List Int)(lm gm:List (Int×Bool)):Prop :=
 (∀c,0≤c→c≠71→(mget lm c).getD false=seen.contains (10+c))∧∀k,1≤k→k≤5→(mget gm k).getD false=seen.contains k
variable {w:aC}
theorem clsW_letter(h:w.Letter≠71):clsW w=10+w.Letter:=by simp[clsW,h]
theorem clsW_g(h:w.Letter=71):clsW w=grp w.Value:=by simp[clsW,h]
variable {gm lm:List (Int×Bool)}{seen:List Int}
theorem mapsOk_letter(h:qo seen lm gm){c:Int}(h0:0≤c):qo ((10+c)::seen) (mput lm c true) gm:=by
 refine⟨λk hk h1=>?_,λk h1 h2=>?_⟩
 ·rw[mget_put,zF]
  by_cases e:k=c
  simp_all
  ·have:(k==c)=false:=by simpa using e
   have e2:(10+k==10+c)=false:=by simp;omega
   simp only[this,e2,zA,qW,Bool.false_or]
   exact h.1 k hk h1
 ·rw[zF,h.2 k h1 h2]
  grind
theorem mapsOk_group(h:qo seen lm gm){g:Int}(h0:1≤g)(h5:g≤5):qo (g::seen) lm (mput gm g true):=by
 refine⟨λk hk h1=>?_,λk h1 h2=>?_⟩
 ·rw[zF,h.1 k hk h1]
  grind
 ·rw[mget_put,zF]
  by_cases e:k=g
  simp_all
  ·have:(k==g)=false:=by simpa using e
   simp only[this,zA,qW,Bool.false_or]
   exact h.2 k h1 h2
abbrev MB:=List (Int×Bool)
def oU(seen:List Int)(w:aC):Bool:=clsW w != 0&&iH w&&!(seen.contains (clsW w))
theorem chk_loop{f:Nat→aC→MB×MB→Option (Ex (Ex Int (MB×MB)) (MB×MB))}{d:MB×MB→Option (Ex Int (MB×MB))}(hd:∀v,d v=some (.go v))
  (hf:∀i w seen lm gm,u8W w→qo seen lm gm→(oU seen w=true→∃lm' gm',f i w (lm,gm)=some (.go (lm',gm'))∧qo (clsW w::seen) lm' gm')∧(oU seen w=false→f i w (lm,gm)=some (.ret (.ret 1)))) :
  ∀(l:List aC) (i:Nat) (seen:List Int) (lm gm:MB),(∀w∈l,u8W w)→qo seen lm gm→(jx seen l=true→∃v,aM f d l i (lm,gm)=some (.go v))∧(jx seen l=false→aM f d l i (lm,gm)=some (.ret 1))
 | [],i,seen,lm,gm,_,_=>⟨λ_=>⟨_,hd _⟩,λh=>by grind[jx]⟩
 | w::l,i,seen,lm,gm,hu,hm=>by
  have h:=hf i w seen lm gm (hu w (by simp)) hm
  have hg:jx seen (w::l)=(oU seen w&&jx (clsW w::seen) l):=rfl
  cases hn:oU seen w with
  | true =>
   obtain⟨lm',gm',h1,h2⟩:=h.1 hn
   rw[hg,hn,Bool.true_and]
   simp only[aM,h1]
   exact chk_loop hd hf l (i+1) _ lm' gm' (λw hw=>hu w (by simp[hw])) h2
  | false =>
   simp_all[aM]
theorem chk_fin{f:Nat→aC→MB×MB→Option (Ex (Ex Int (MB×MB)) (MB×MB))}{d:MB×MB→Option (Ex Int (MB×MB))}{l:List aC}(hu:∀w∈l,u8W w)(hd:∀v,d v=some (.go v))
  (hf:∀i w seen lm gm,u8W w→qo seen lm gm→(oU seen w=true→∃lm' gm',f i w (lm,gm)=some (.go (lm',gm'))∧qo (clsW w::seen) lm' gm')∧(oU seen w=false→f i w (lm,gm)=some (.ret (.ret 1)))) :
  bindX (aM f d l 0 ([],[])) (λ_=>some 0)=some (if jx [] l=true then 0 else 1):=by
 have h:=chk_loop hd hf l 0 [] [] [] hu ⟨λc _ _=>by simp[mget],λk _ _=>by simp[mget]⟩
 cases hg:jx [] l with
 | true=>obtain⟨v,hv⟩:=h.1 hg;rw[hv];rfl
 | false=>simp_all
theorem md_Check_eq(b:ae)(hu:∀w∈b.Words,u8W w)(hl:b.Words.length≤9223372036854775807):nH b=some (if jx [] b.Words=true then 0 else 1):=by
 (unfold nH;try delta jB jC jR rF jV)
 rw[bn hl,aX]
 refine chk_fin hu (λ_=>rfl) ?_
 intro i w seen lm gm hw hm
 by_cases h1:w.Letter=71
 ·have hc:=clsW_g h1
  have hwh:iH w=true:=by simp[iH,h1]
  rcases grp_in w.Value with q | q
  simp_all[oU,lk]
  ·have hg:=hm.2 (grp w.Value) (by omega) (by omega)
   have hg0:grp w.Value≠0:=by omega
   constructor
   ·intro h
    have hs:grp w.Value∉seen:=by simp_all[oU]
    refine⟨lm,mput gm (grp w.Value) true,?_,by grind[mapsOk_group]⟩
    simp_all[lk]
   simp_all[oU,lk]
 ·have hc:=clsW_letter h1
  have hl:=hm.1 w.Letter hw.1 h1
  have hne:(clsW w==0)=false:=by rw[hc];simp;have:=hw.1;omega
  have hn:oU seen w=(iH w&&!(seen.contains (10+w.Letter))):=by
   grind[oU]
  rw[hn]
  cases hs:seen.contains (10+w.Letter)with
  | true =>
   rw[hs]at hl
   refine⟨λh=>by simp at h,λ_=>?_⟩
   by_cases h2:w.Letter=70
   ·rw[h2]at hl
    by_cases hv:w.Value<0<;>simp[h2,hv,hl]
   ·by_cases h3:w.Letter=84∨w.Letter=72
    ·by_cases hv:w.Value<0
     ·rcases h3 with h3 | h3<;>(simp_all)
     ·by_cases hq:zQ w.Value 1000=0
      ·rcases h3 with h3 | h3<;>(rw[h3]at hl;simp[h3,hv,hq,hl])
      ·rcases h3 with h3 | h3<;>(simp_all)
    simp_all
  | false =>
   rw[hs]at hl
   have hg:qo (clsW w::seen) (mput lm w.Letter true) gm:=by rw[hc];exact mapsOk_letter hm hw.1
   refine⟨λh=>⟨mput lm w.Letter true,gm,?_,hg⟩,λh=>?_⟩
   ·have hwh:iH w=true:=by simpa using h
    unfold iH at hwh
    by_cases h2:w.Letter=70
    ·rw[h2]at hl
     have hv:¬w.Value<0:=by simp_all
     simp[h2,hv,hl]
    ·by_cases h3:w.Letter=84∨w.Letter=72
     ·simp[h2,h3]at hwh
      have hv:¬w.Value<0:=by omega
      rcases h3 with h3 | h3<;>(rw[h3]at hl;simp[h3,hv,hwh.2,hl])
     simp_all
   ·have hwh:iH w=false:=by simpa using h
    unfold iH at hwh
    by_cases h2:w.Letter=70
    simp_all
    ·by_cases h3:w.Letter=84∨w.Letter=72
     ·simp[h2,h3]at hwh
      by_cases hv:w.Value<0
      ·rcases h3 with h3 | h3<;>simp[h3,hv]
      ·have hq:¬zQ w.Value 1000=0:=hwh (by omega)
       rcases h3 with h3 | h3<;>simp[h3,hv,hq]
     simp_all
def okB(b:ae):Prop:=(∀w∈b.Words,u8W w)∧b.Words.length≤9223372036854775806
theorem goodW_ne:∀(l:List aC) (s:List Int),jx s l=true→∀w∈l,clsW w≠0
 | [],_,_,w,hw=>by simp at hw
 | x::l,s,h,w,hw=>by
  simp only[jx,zG,bne_iff_ne]at h
  rcases List.mem_cons.1 hw with e | e
  simp_all
  ·exact goodW_ne l _ h.2 w e
theorem cls_put(h:clsW w≠0):w.Letter=71→grp w.Value≠0:=λe=>by grind[clsW_g]
def zS:ao:=⟨0,0,0,0,0,0,0,0⟩
theorem md_Apply_eq(s:ao)(b:ae)(h:okB b):md_Apply s b=some (if jx [] b.Words=true then (b.Words.foldl putW s,0)else (zS,1)):=by
 (unfold md_Apply;try delta jB rF)
 rw[md_Check_eq b h.1 (by have:=h.2;omega),aa]
 cases hg:jx [] b.Words with
 | false=>simp[zS]
 | true =>
  simp only[qX]
  rw[bn (by have:=h.2;omega),aX,rangeX_go putW b.Words 0 s ?_]<;>grind[md_put_eq,cls_put,goodW_ne,aa]
def endW(p:ag)(l:List aq):ag:=match l.getLast? with | some m=>m.To | none=>p
variable {α:Type}
theorem gt_last{l:List α}{x:α}(h:l.getLast? = some x)(hl:l.length≤9223372036854775807):gt l (IntKind.i64.wrap ((l.length:Int)-1))=some x:=by
 grind[aE,gt_k]
theorem inp_End_eq(p:ag)(l:List aq)(hl:l.length≤9223372036854775807):qN p l=some (endW p l):=by
 unfold qN endW
 cases h:l.getLast? with
 | none=>simp_all
 | some x =>
  have hne:l≠[]:=by grind
  simp_all[gt_last]
def posEq(a b:ag):Bool:=a.X==b.X&&(a.Y==b.Y&&a.Z==b.Z)
theorem posEq_iff{a b:ag}:posEq a b=true↔a=b:=by
 cases a;cases b;simp[posEq]
def inR(p:ag):Prop:=(-10000000≤p.X∧p.X≤10000000)∧(-10000000≤p.Y∧p.Y≤10000000)∧(-10000000≤p.Z∧p.Z≤10000000)
instance (p:ag):Decidable (inR p):=by unfold inR;infer_instance
theorem lc(p:ag):n6 p=some (!decide (inR p)):=by
 (unfold n6 mmI;try delta jV)
 by_cases h:inR p
 grind[inR]
 ·rw[qZ h]
  (simp_all[inR];omega)
theorem inp_inside_eq(p:ag):mW p=some (decide (inR p)):=by
 have h:∀n,ia n=some (decide (n < -10000000)||decide (n>10000000)):=λn=>rfl
 (unfold mW;try delta jB iF)
 simp only[h,aa]
 by_cases h1:(decide (p.X < -10000000)||decide (p.X>10000000))=true
 ·have:¬inR p:=by grind[inR]
  simp_all
 by_cases h2:(decide (p.Y < -10000000)||decide (p.Y>10000000))=true
 ·have:¬inR p:=by grind[inR]
  simp[h1,h2,this]
 by_cases h3:(decide (p.Z < -10000000)||decide (p.Z>10000000))=true
 ·have:¬inR p:=by grind[inR]
  simp[h1,h2,h3,this]
 ·have:inR p:=by simp_all[inR]
  simp[h1,h2,h3,this]
def ji(b:ae)(c:Int):Int×Bool:=match b.Words.find? (λw=>w.Letter==c)with | some w=>(w.Value,true) | none=>(0,false)
theorem bk_Find_eq(b:ae)(c:Int)(hl:b.Words.length≤1000):mv b c=some (ji b c):=by
 (unfold mv ji;try delta jB rF)
 rw[bn (by omega),aX,range_find (p:=λw:aC=>w.Letter==c) (e:=λw=>(w.Value,true)) b.Words 0 (λi x=>rfl)]
 cases b.Words.find? (λw=>w.Letter==c)<;>rfl
def hasW(b:ae)(l:List UInt8):Bool:=l.any λc=>(ji b (c.toNat:Int)).2
theorem inp_has_eq(b:ae)(l:List UInt8)(hl:b.Words.length≤1000)(h2:l.length≤1000):kq b l=some (hasW b l):=by
 (unfold kq hasW;try delta jB rF)
 rw[bn (by omega),aX,range_any (p:=λc:UInt8=>(ji b (c.toNat:Int)).2) (r:=true) l 0 (λi x=>by simp_all[bk_Find_eq])]
 cases l.any λc=>(ji b (c.toNat:Int)).2<;>rfl
theorem inp_value_eq(b:ae)(c:Int)(hl:b.Words.length≤1000):mS b c=some (ji b c).1:=by
 simp_all[mS,bk_Find_eq]
theorem oj(t:aw)(hl:t.Lengths.length≤1000):Tot (iu t) (λe=>(e=0∨e=1)∧(e=0→(inR t.Work.e0∧inR t.Work.e1∧inR t.Work.e2∧inR t.Work.e3∧inR t.Work.e4∧inR t.Work.e5)∧∀x∈t.Lengths,0≤x.Length∧x.Length≤10000000)):=by
 (unfold iu;try delta jB jR rF iF)
 simp only[lc,aa]
 refine Tot.bind (E:=λb=>b=true∨(inR t.Work.e0∧inR t.Work.e1∧inR t.Work.e2∧inR t.Work.e3∧inR t.Work.e4∧inR t.Work.e5)) (Tot.bind (E:=λi:Int=>i≥0∨(inR t.Work.e0∧inR t.Work.e1∧inR t.Work.e2∧inR t.Work.e3∧inR t.Work.e4∧inR t.Work.e5)) (Tot.bindX (E:=λ_=>inR t.Work.e0∧inR t.Work.e1∧inR t.Work.e2∧inR t.Work.e3∧inR t.Work.e4∧inR t.Work.e5) ?_ (λ_ h=>.ok (.inr h))) (λi hi=>.ok (hi.elim (λh=>.inl (by simpa using h)) .inr))) (λb hb=>Tot.ite (λ_=>.ok ⟨.inr rfl,by simp⟩) (λh=>?_))
 ·by_cases h0:inR t.Work.e0
  ·by_cases h1:inR t.Work.e1
   ·by_cases h2:inR t.Work.e2
    ·by_cases h3:inR t.Work.e3
     ·by_cases h4:inR t.Work.e4
      ·by_cases h5:inR t.Work.e5
       ·simp only[h0,h1,h2,h3,h4,h5,decide_true,Bool.not_true,zA,qW];exact .go ⟨trivial,trivial,trivial,trivial,trivial,trivial⟩
       ·simp[h0,h1,h2,h3,h4,h5];exact .ret (by simp)
      ·simp[h0,h1,h2,h3,h4];exact .ret (by simp)
     ·simp[h0,h1,h2,h3];exact .ret (by simp)
    ·simp[h0,h1,h2];exact .ret (by simp)
   ·simp[h0,h1];exact .ret (by simp)
  ·simp[h0];exact .ret (by simp)
 ·have hw:=hb.resolve_left (by simp[h])
  refine Tot.bindX (E:=λ_=>∀x∈t.Lengths,0≤x.Length∧x.Length≤10000000) (TotX.guard (bn (by omega)) (TotX.of (Tot.range (λi _=>∀x∈t.Lengths.take i,0≤x.Length∧x.Length≤10000000) _ (by simp) (λi x v hx hr=>?_) (λv hr=>.ok (by simp_all))))) (λ_ h=>.ok ⟨.inl rfl,λ_=>⟨hw,h⟩⟩)
  refine TotX.bind (E:=λb=>b=true∨(0≤x.Length∧x.Length≤10000000)) ?_ (λb hb=>TotX.ite (λ_=>.ret ⟨.inr rfl,by simp⟩) (λh=>.go ?_))
  ·(unfold tb_entry;try delta jV)
   rw[aa]
   refine Tot.ite (λhe=>?_) (λ_=>.ok (.inl rfl))
   have he':0≤x.Length∧x.Length≤10000000:=by simp_all
   refine Tot.ite (λhi=>?_) (λ_=>.ok (.inr he'))
   have hlt:=aF hx
   simp at hi
   rw[aE (by omega) (by omega)]
   obtain⟨y,hy,_⟩:=gt_ok' (l:=t.Lengths) (i:=(i:Int)-1) (by omega) (by omega)
   rw[hy,aa]
   exact .ok (.inr he')
  grind[zT]
theorem mid_eq{lo hi:Int}(h0:0≤lo)(h1:lo≤4000000000000000000)(h2:0≤hi)(h3:hi≤4000000000000000000):IntKind.i64.wrap (shrI .u64 (IntKind.u64.wrap (IntKind.i64.wrap (lo+hi))) 1)=(lo+hi) / 2:=by
 grind[aE,IntKind.wrap,IntKind.bits,shrI]
theorem compare_eq(a b:Int):fS a b=some (if a<b then -1 else if a>b then 1 else 0):=by
 unfold fS gN
 simp only[bne_self_eq_false,aa,zA,qW]
 grind
theorem tb_find_tot(t:aw)(n:Int)(hl:t.Lengths.length≤1000):Tot (tb_find t n) (λr=>0≤r.1∧(r.2=true→r.1<(t.Lengths.length:Int))):=by
 (unfold tb_find;try delta jB jR lF iF)
 refine Tot.bind (E:=λr=>0≤r.1∧(r.2=true→r.1<(t.Lengths.length:Int))) (Tot.bind (E:=λv:Int=>0≤v) ?_ (λv hv=>?_)) (λr hr=>.ok hr)
 ·refine Tot.loop (λm v=>0≤v.1∧v.1≤v.2∧v.2≤(t.Lengths.length:Int)∧m=(v.2-v.1).toNat) _ t.Lengths.length (gy (by omega)) ⟨by simp,by simp,by simp,by simp⟩ (λm v hr=>?_)
  obtain⟨a,b,c,d⟩:=hr
  refine TotX.ite (λh=>?_) (λ_=>.ret a)
  simp at h
  rw[mid_eq a (by omega) (by omega) (by omega)]
  obtain⟨y,hy,_⟩:=gt_ok' (l:=t.Lengths) (i:=(v.1+v.2) / 2) (by omega) (by omega)
  rw[hy,aa]
  unfold kK
  rw[compare_eq,aa,aa]
  refine TotX.ite (λ_=>.go ?_) (λ_=>.go ?_)
  ·rw[aE (by omega) (by omega)]
   exact⟨_,by omega,by simp;omega,by simp;omega,c,rfl⟩
  ·exact⟨_,by omega,a,by simp;omega,by simp;omega,rfl⟩
 ·refine Tot.bind (E:=λb=>b=true→v<(t.Lengths.length:Int)) (Tot.ite (λh=>?_) (λ_=>.ok (by simp))) (λb hb=>.ok ⟨hv,hb⟩)
  simp at h
  obtain⟨y,hy,_⟩:=gt_ok' (l:=t.Lengths) (i:=v) hv h
  rw[hy,aa]
  unfold kK
  rw[compare_eq,aa,aa]
  exact .ok λ_=>h
theorem tb_length_tot(t:aw)(n:Int)(hl:t.Lengths.length≤1000)(hv:∀x∈t.Lengths,0≤x.Length∧x.Length≤10000000):Tot (k9 t n) (λr=>0≤r.1∧r.1≤10000000):=by
 unfold k9
 refine Tot.ite (λ_=>.ok (by decide)) (λ_=>Tot.bind (tb_find_tot ⟨t.Work,t.Lengths⟩ n hl) λr hr=>Tot.ite (λ_=>.ok (by decide)) (λh=>?_))
 simp at h
 obtain⟨y,hy,hq⟩:=gt_ok' (l:=t.Lengths) (i:=r.1) hr.1 (hr.2 h)
 rw[hy,aa]
 exact .ok (hv y (List.mem_of_getElem? hq))
theorem tb_slot_tot(c:Int):Tot (tb_slot c) (λr=>r.2=0→0≤r.1∧r.1<6):=by
 (unfold tb_slot;try delta jV)
 refine Tot.ite (λ_=>.ok (by simp)) (λh=>.ok λ_=>?_)
 grind[aE]
theorem tb_offset_tot(t:aw)(c n:Int)(hl:t.Lengths.length≤1000):Tot (jZ t c n) (λr=>r.2=0→(-10000000≤r.1.X∧r.1.X≤10000000)∧(-10000000≤r.1.Y∧r.1.Y≤10000000)∧(-10000000≤r.1.Z∧r.1.Z≤20000000)):=by
 (unfold jZ;try delta jR jV)
 refine Tot.bind (oj t hl) λe he=>Tot.ite (λh=>.ok λh2=>?_) (λh=>?_)
 simp_all
 ·simp at h
  obtain⟨hw,hle⟩:=he.2 h
  refine Tot.bind (tb_slot_tot c) λr hr=>Tot.bind (tb_length_tot ⟨t.Work,t.Lengths⟩ n hl hle) λq hq=>Tot.ite (λ_=>.ok (by simp)) (λh2=>?_)
  simp at h2
  have h3:=hr h2.1
  refine Tot.bind (E:=λp=>inR p) (Tot.guard (by simp;omega) ?_) (λp hp=>.ok λ_=>?_)
  ·repeat' (first | exact .ok hw.1 | exact .ok hw.2.1 | exact .ok hw.2.2.1 | exact .ok hw.2.2.2.1 | exact .ok hw.2.2.2.2.1 | exact .ok hw.2.2.2.2.2 | refine Tot.ite (λ_=>?_) (λ_=>?_))
  grind[inR,aE]
theorem tb_moved_tot(p by_:ag)(s:Int):Tot (lR p by_ s) (λr=>r.2=0→inR r.1):=by
 unfold lR
 simp only[lc,aa]
 refine Tot.ite (λ_=>.ok (by simp)) (λ_=>Tot.ite (λ_=>.ok (by simp)) (λh=>.ok λ_=>?_))
 simpa using h
theorem tb_Machine_tot(t:aw)(c n:Int)(p:ag)(hl:t.Lengths.length≤1000):Tot (gV t c n p) (λr=>r.2=0→inR r.1):=by
 unfold gV
 refine Tot.bind (tb_offset_tot t c n hl) λe _=>Tot.ite (λh=>.ok λh2=>?_) (λ_=>Tot.bind (tb_moved_tot _ _ _) λr hr=>.ok hr)
 simp_all
theorem tb_Work_tot(t:aw)(c n:Int)(p:ag)(hl:t.Lengths.length≤1000):Tot (nm t c n p) (λr=>r.2=0→inR r.1):=by
 unfold nm
 refine Tot.bind (tb_offset_tot ⟨t.Work,t.Lengths⟩ c n hl) λe _=>Tot.ite (λh=>.ok λh2=>?_) (λ_=>Tot.bind (tb_moved_tot _ _ _) λr hr=>.ok hr)
 simp_all
theorem inp_checked_tot(t:aw)(p:ag)(hl:t.Lengths.length≤1000):Tot (eg t p) (λe=>e=0→inR p):=by
 unfold eg
 refine Tot.bind (oj ⟨t.Work,t.Lengths⟩ hl) λe he=>Tot.ite (λ_=>.ok (by simp)) (λ_=>?_)
 rw[inp_inside_eq,aa]
 exact Tot.ite (λ_=>.ok (by simp)) (λh=>.ok λ_=>by simpa using h)
def okS(b:ae):Prop:=(∀w∈b.Words,u8W w)∧b.Words.length≤1000∧b.Comment.length≤1000
def codesW(b:ae)(c:Int):List Int:=(b.Words.filter λw=>w.Letter==c).map (·.Value)
theorem codes_fold(l:List aC)(c:Int):∀o:List Int,l.foldl (λo w=>if (w.Letter==c)=true then o++[w.Value]else o) o=o++(l.filter λw=>w.Letter==c).map (·.Value):=by
 induction l<;>grind
theorem bk_Codes_eq(b:ae)(c:Int)(hl:b.Words.length≤1000):ie b c=some (codesW b c):=by
 (unfold ie;try delta jB rF gF)
 rw[bn (by omega),aX,kO (g:=λ(o:List Int) (w:aC)=>if (w.Letter==c)=true then o++[w.Value]else o) (R:=λi v=>v.length≤i) (L:=b.Words) ?_ b.Words 0 [] rfl (by simp)]
 ·rw[aa,codes_fold];rfl
 ·intro i x v hx hr
  have hlt:=aF hx
  by_cases h:(x.Letter==c)=true
  ·simp only[h,qX]
   rw[br (by omega),aX]
   simp_all
  (simp_all;omega)
theorem range_idx{f:Nat→Int→Unit→Option (Ex (Ex Int Unit) Unit)}{p:Int→Bool}(hf:∀(i:Nat) x,f i x ()=if p x=true then some (.ret (.ret (i:Int)))else some (.go ())):∀(l:List Int) (i:Nat),∃k:Nat,aM f (λ_=>some (.go ())) l i ()=some (if l.any p=true then .ret (k:Int)else .go ())
 | [],i=>⟨0,rfl⟩
 | x::l,i=>by
  simp only[aM,hf i x,List.any_cons]
  by_cases h:p x=true
  ·exact⟨i,by simp[h]⟩
  ·have h':p x=false:=by simpa using h
   obtain⟨k,hk⟩:=range_idx hf l (i+1)
   grind
theorem contains_eq(l:List Int)(c:Int)(hl:l.length≤1000):aW l c=some (l.contains c):=by
 (unfold aW dw;try delta jB rF)
 rw[bn (by omega),aX]
 obtain⟨k,hk⟩:=range_idx (f:=λ(i127:Nat) (e129:Int) (_:Unit)=>if (c==e129)=true then some (.ret (.ret (i127:Int)))else some (.go ())) (p:=λx=>c==x) (λi x=>rfl) l 0
 rw[hk]
 have:l.any (λx=>c==x)=l.contains c:=by
  grind
 rw[this]
 cases l.contains c<;>simp
def setB(i:Nat)(m:aq):aq:=⟨m.From,m.To,m.Rate,m.Tool,(i:Int)⟩
theorem range_set{L:List aq}(g:aq→aq){f:Nat→aq→List aq→Option (Ex (List aq) (List aq))}(hf:∀(i:Nat) x v e,gt v (i:Int)=some e→f i x v=some (.go (v.set i (g e)))):aM f (λv=>some v) L 0 L=some (L.map g):=by
  obtain⟨e,h1,h2⟩:=rangeX_inv (f:=f) (d:=λv=>some v) (λi v=>v=(L.take i).map g++L.drop i) (λe=>e=L.map g) L (λi x v hx hr=>by
    right
    have hlt:=aF hx
    have hgt:gt v (i:Int)=some x:=by
      grind[gt_k]
    grind[List.drop_eq_getElem_cons,zT]) (λv hv=>⟨v,rfl,by simp_all⟩) L 0 L rfl (Nat.zero_le _) (by simp)
  rw[h1,h2]
def zC:av:=⟨0,0,0,0,0,0,false⟩
abbrev Run:=List aq×ag×ao×av
def endsW(b:ae):Bool:=(codesW b 77).contains 30000
theorem endW_map(p:ag)(i:Nat)(l:List aq):endW p (l.map (setB i))=endW p l:=by
 unfold endW
 rw[List.getLast?_map]
 cases l.getLast?<;>rfl
def newS:ao:=⟨0,90000,54000,49000,98000,0,0,0⟩
theorem map_fold{β:Type}(g:α→β)(l:List α):∀o:List β,l.foldl (λo x=>o++[g x]) o=o++l.map g:=by
 induction l<;>simp_all
theorem endW_append(p:ag)(l m:List aq):endW p (l++m)=endW (endW p l) m:=by
 grind[endW]
def cycV(c:av):Int :=
 if ¬(c.Code=83000∨c.Code=81000∨c.Code=82000)∨c.Z≥c.R∨c.R>c.Initial∨c.Rate<1∨c.Rate>1000000000000∨(c.Code=83000∧c.Q≤0)then 1
 else if (c.R>10000000∨c.R < -10000000)∨(c.Z>10000000∨c.Z < -10000000)∨(c.Initial>10000000∨c.Initial < -10000000)∨(c.Code=83000∧(c.Q>10000000∨c.Q < -10000000))then 11
 else if c.Code=83000∧(c.R-c.Z-1) / c.Q>999 then 3 else 0
variable {a b:Int}
theorem tdiv_ed(h:0≤a):zW a b=a / b:=Int.tdiv_eq_ediv_of_nonneg h
structure CycOk (c:av):Prop where
 code:c.Code=83000∨c.Code=81000∨c.Code=82000
 zr:c.Z<c.R
 ri:c.R≤c.Initial
 rate:1≤c.Rate∧c.Rate≤1000000000000
 q:c.Code=83000→0<c.Q∧c.Q≤10000000
 r:-10000000≤c.R∧c.R≤10000000
 z:-10000000≤c.Z∧c.Z≤10000000
 i:-10000000≤c.Initial∧c.Initial≤10000000
 n:c.Code=83000→0≤(c.R-c.Z-1) / c.Q∧(c.R-c.Z-1) / c.Q≤999
variable {c:av}
theorem cycV_ok(h:cycV c=0):CycOk c:=by
 unfold cycV at h
 by_cases h1:¬(c.Code=83000∨c.Code=81000∨c.Code=82000)∨c.Z≥c.R∨c.R>c.Initial∨c.Rate<1∨c.Rate>1000000000000∨(c.Code=83000∧c.Q≤0)
 omega
 rw[qU h1]at h
 by_cases h2:(c.R>10000000∨c.R < -10000000)∨(c.Z>10000000∨c.Z < -10000000)∨(c.Initial>10000000∨c.Initial < -10000000)∨(c.Code=83000∧(c.Q>10000000∨c.Q < -10000000))
 omega
 rw[qU h2]at h
 by_cases h3:c.Code=83000∧(c.R-c.Z-1) / c.Q>999
 omega
 refine⟨by omega,by omega,by omega,by omega,λa=>by omega,by omega,by omega,by omega,λa=>⟨?_,?_⟩⟩
 ·exact zL (by omega) (by omega)
 omega
def depN(c:av):Nat:=if c.Code=83000 then ((c.R-c.Z-1) / c.Q).toNat else 0
def depL(c:av):List Int:=(zR (depN c)).map (λ(k:Nat)=>c.R-((k:Int)+1)*c.Q)++[c.Z]
theorem depN_le(h:CycOk c):depN c≤999:=by
 unfold depN
 split
 ·rename_i a
  have:=h.n a;omega
 ·omega
theorem depL_len(h:CycOk c):(depL c).length≤1000:=by
 simp_all[depN_le,depL]
def goM(s:ag×List aH)(q:ag)(r:Int):ag×List aH:=if q=s.1 then s else (q,s.2++[aH.mk (if r>0 then 2 else 1) q (dh.mk 0 0) r])
theorem goM_len(s:ag×List aH)(q:ag)(r:Int):(goM s q r).2.length≤s.2.length+1:=by
 grind[goM]
def cycM(c:av)(p:ag)(g:dh):ag×List aH :=
 let m0:=goM (p,[]) (ag.mk p.X p.Y (if p.Z<c.R then c.R else p.Z)) 0
 let m1:=goM m0 (ag.mk g.X g.Y m0.1.Z) 0
 let m2:=goM m1 (ag.mk g.X g.Y c.R) 0
 let m3:=(depL c).foldl (λs z=>goM (goM s (ag.mk g.X g.Y z) c.Rate) (ag.mk g.X g.Y c.R) 0) m2
 if c.High=true then goM m3 (ag.mk g.X g.Y c.Initial) 0 else m3
theorem fold_len(c:av)(g:dh):∀(l:List Int) (s:ag×List aH),(l.foldl (λs z=>goM (goM s (ag.mk g.X g.Y z) c.Rate) (ag.mk g.X g.Y c.R) 0) s).2.length≤s.2.length+2*l.length
 | [],s=>by simp
 | z::l,s=>by
  rw[List.foldl_cons]
  have h1:=fold_len c g l (goM (goM s (ag.mk g.X g.Y z) c.Rate) (ag.mk g.X g.Y c.R) 0)
  grind[goM]
theorem cycM_len(h:CycOk c)(p:ag)(g:dh):(cycM c p g).2.length≤2010:=by
 unfold cycM
 have hd:=depL_len h
 dsimp only
 have a0:=goM_len (p,[]) (ag.mk p.X p.Y (if p.Z<c.R then c.R else p.Z)) 0
 generalize goM (p,[]) (ag.mk p.X p.Y (if p.Z<c.R then c.R else p.Z)) 0=m0 at *
 have a1:=goM_len m0 (ag.mk g.X g.Y m0.1.Z) 0
 generalize goM m0 (ag.mk g.X g.Y m0.1.Z) 0=m1 at *
 have a2:=goM_len m1 (ag.mk g.X g.Y c.R) 0
 generalize goM m1 (ag.mk g.X g.Y c.R) 0=m2 at *
 have a3:=fold_len c g (depL c) m2
 grind[goM_len]
def far3(p:ag)(g:dh):Prop:=(p.X>10000000∨p.X < -10000000)∨(p.Y>10000000∨p.Y < -10000000)∨(p.Z>10000000∨p.Z < -10000000)∨(g.X>10000000∨g.X < -10000000)∨(g.Y>10000000∨g.Y < -10000000)
instance (p:ag) (g:dh):Decidable (far3 p g):=by unfold far3;infer_instance
def expV(c:av)(p:ag)(g:dh):List aH×Int:=if cycV c=0 then (if far3 p g then ([],11)else ((cycM c p g).2,0))else ([],cycV c)
theorem wrap_u64(n:Int):IntKind.u64.wrap n=n % 18446744073709551616:=by
 simp[IntKind.wrap,IntKind.bits,IntKind.signed]
def i64P(n:Int):Prop:=-9223372036854775808≤n∧n≤9223372036854775807
def dst(a b:Int):Int:=if a<b then b-a else a-b
theorem gJ(ha:i64P a)(hb:i64P b):gc a b=some (dst a b):=by
 unfold i64P at *
 (unfold gc dst;try delta jC)
 by_cases h:a<b
 (simp_all[wrap_u64];omega)
 ·simp only[h,decide_false,qW,aa,wrap_u64,zA];grind
theorem lX(ha:i64P a)(hb:i64P b):lg a b=some (dst a b):=gJ ha hb
def rad(p:ag)(c:dh):Int:=if p.Y=c.Y then dst p.X c.X else if p.X=c.X then dst p.Y c.Y else 0
variable {p:ag}
theorem qK{c:dh}(h1:i64P p.X)(h2:i64P p.Y)(h3:i64P c.X)(h4:i64P c.Y):∃d,gA p c=some (d,rad p c):=by
 (unfold gA rad;try delta jV)
 simp only[gJ h1 h3,gJ h2 h4,aa]
 by_cases e1:p.Y=c.Y<;>by_cases e2:p.X=c.X<;>rcases zK p.X c.X with q | q | q<;>rcases zK p.Y c.Y with r | r | r<;>first | (exfalso;omega)|(simp[e1,e2,q,r,dst];done)|(simp[e1,e2,q,r,dst];split<;>exact⟨_,rfl⟩)|(simp[e1,e2,q,r,dst];repeat (first | exact⟨_,rfl⟩ | split))
def farP(n:Int):Bool:=decide (n>10000000∨n < -10000000)
theorem r33_far_eq(n:Int):ij n=some (farP n):=by simp_all[ij,farP,jV]
theorem dst0(n:Int):decide (dst n 0>10000000)=farP n:=by
 unfold farP dst
 grind
def far6(p q:ag):Bool:=farP p.X||farP p.Y||farP p.Z||farP q.X||farP q.Y||farP q.Z
def movV(p:ag)(m:aH):Int :=
 if (m.Kind=1∧m.Rate=0)∨(m.Kind=2∧m.Rate>0)then (if far6 p m.To=true then 11 else 0)
 else if (m.Kind=3∨m.Kind=4)∧m.Rate>0∧rad p m.Center>0∧rad p m.Center=rad m.To m.Center then
  (if (far6 p m.To||farP m.Center.X||farP m.Center.Y||farP (m.Center.X+rad p m.Center)||farP (m.Center.X-rad p m.Center)||farP (m.Center.Y+rad p m.Center)||farP (m.Center.Y-rad p m.Center))=true then 11 else 0)
 else 1
def gx(p:ag):Prop:=i64P p.X∧i64P p.Y∧i64P p.Z
def jD(m:aH):Prop:=i64P m.Kind∧gx m.To∧i64P m.Center.X∧i64P m.Center.Y∧i64P m.Rate
def apU(a b:Int):Int:=if a<b then IntKind.u64.wrap (IntKind.u64.wrap b-IntKind.u64.wrap a)else IntKind.u64.wrap (IntKind.u64.wrap a-IntKind.u64.wrap b)
theorem ip_apart_u(a b:Int):gc a b=some (apU a b):=by
 (unfold gc apU;try delta jC)
 by_cases h:a<b<;>simp[h]
theorem apU_eq(ha:i64P a)(hb:i64P b):apU a b=dst a b:=by
 have h1:=ip_apart_u a b
 simp_all[gJ]
theorem any_congr'{α:Type}{p q:α→Bool}:∀{l:List α},(∀x∈l,p x=q x)→l.any p=l.any q
 | [],_=>rfl
 | x::l,h=>by grind
theorem bindX_go{ε ν:Type}{f:ν→Option ε}{v:ν}:bindX (some (.go v)) f=f v:=rfl
theorem far_list(l:List Int)(hl:∀x∈l,i64P x)(hs:l.length≤100) :
  bindX (aA (dN l) (aM (λ(i:Nat) (e:Int) (v:Unit)=>ac (gc e 0) λ(y:Int)=>if (decide (y>10000000))=true then some (.ret (.ret 11))else some (.go ())) (λ(v:Unit)=>some (.go ())) l 0 ())) (λ(v:Unit)=>some (0:Int))=some (if l.any farP=true then 11 else 0):=by
 have h:=range_any (r:=(11:Int)) (p:=λe=>decide (apU e 0>10000000)) (f:=λ(i:Nat) (e:Int) (v:Unit)=>ac (gc e 0) λ(y:Int)=>if (decide (y>10000000))=true then some (.ret (.ret 11))else some (.go ())) l 0 (λi x=>by rw[ip_apart_u,aa])
 rw[bn (by omega),aX,h,any_congr' (q:=farP) (λx hx=>by grind[apU_eq,i64P,dst0])]
 cases l.any farP<;>rfl
variable {m:aH}
theorem ip_right_eq(hp:gx p)(hm:jD m):nP p m=some (decide ((m.Kind=1∧m.Rate=0)∨(m.Kind=2∧m.Rate>0)∨((m.Kind=3∨m.Kind=4)∧m.Rate>0∧rad p m.Center>0∧rad p m.Center=rad m.To m.Center))):=by
 obtain⟨h1,h2,h3,h4,h5⟩:=hm
 obtain⟨d,hd⟩:=qK hp.1 hp.2.1 h3 h4
 obtain⟨d',hd'⟩:=qK h2.1 h2.2.1 h3 h4
 (unfold nP kG;try delta jR jV)
 by_cases e1:m.Kind=1
 ·by_cases q:m.Rate=0<;>simp[e1,q]
 ·by_cases e2:m.Kind=2
  simp_all
  ·by_cases e3:m.Kind=3∨m.Kind=4
   ·have hb:((m.Kind==3)||(m.Kind==4))=true:=by simp_all
    by_cases q:m.Rate>0<;>by_cases q2:rad p m.Center>0<;>by_cases q3:rad p m.Center=rad m.To m.Center<;>simp[e1,e2,e3,hb,hd,hd',q,q2,q3]<;>first | done | (simp_all;done)|(simp_all;by_cases w:0<rad m.To m.Center<;>simp[w])
   simp_all
theorem rad_nn(p:ag)(c:dh):0≤rad p c:=by
 grind[rad,dst]
theorem qL(hp:gx p)(hm:jD m):jT p m=some (movV p m):=by
 have hr:=ip_right_eq hp hm
 obtain⟨h1,h2,h3,h4,h5⟩:=hm
 obtain⟨d,hd⟩:=qK hp.1 hp.2.1 h3 h4
 have z:i64P 0:=by grind[i64P]
 (unfold jT;try delta jB jC jR rF)
 rw[show nP (ag.mk p.X p.Y p.Z) (aH.mk m.Kind m.To m.Center m.Rate)=nP p m from rfl,hr,aa]
 rw[show gA (ag.mk p.X p.Y p.Z) m.Center=gA p m.Center from rfl,hd]
 simp only[aa,kG,gJ h3 z,gJ h4 z,auN]
 unfold movV
 by_cases e1:(m.Kind=1∧m.Rate=0)∨(m.Kind=2∧m.Rate>0)
 ·have hb:((m.Kind==3)||(m.Kind==4))=false:=by
   grind
  rw[qY (by omega),qU (by simp),hb,qU (by simp)]
  rw[qV e1]
  rw[bindX_go,far_list _ (λx hx=>?_) (by simp)]
  grind[far6]
  ·obtain⟨p1,p2,p3⟩:=hp
   obtain⟨t1,t2,t3⟩:=h2
   grind
 ·rw[qU e1]
  by_cases e2:(m.Kind=3∨m.Kind=4)∧m.Rate>0∧rad p m.Center>0∧rad p m.Center=rad m.To m.Center
  ·have hb:((m.Kind==3)||(m.Kind==4))=true:=by simp_all
   rw[qY (.inr (.inr e2)),qU (by simp),hb,qV rfl,qV e2]
   simp only[dst0]
   have hnn:=rad_nn p m.Center
   by_cases q1:rad p m.Center>10000000
   ·have hf:(far6 p m.To||farP m.Center.X||farP m.Center.Y||farP (m.Center.X+rad p m.Center)||farP (m.Center.X-rad p m.Center)||farP (m.Center.Y+rad p m.Center)||farP (m.Center.Y-rad p m.Center))=true:=by
     (simp_all[farP];omega)
    simp_all
   ·rw[qZ q1,qU (by simp)]
    by_cases q2:farP m.Center.X=true
    simp_all
    ·rw[qU q2]
     by_cases q3:farP m.Center.Y=true
     simp_all
     ·have q2':farP m.Center.X=false:=by simp_all
      have q3':farP m.Center.Y=false:=by simp_all
      have b1:-10000000≤m.Center.X∧m.Center.X≤10000000:=by simp_all[farP]
      have b2:-10000000≤m.Center.Y∧m.Center.Y≤10000000:=by simp_all[farP]
      rw[q3',aa,qU (by simp)]
      rw[aE (n:=rad p m.Center) (by omega) (by omega),aE (by omega) (by omega),aE (by omega) (by omega),aE (by omega) (by omega),aE (by omega) (by omega)]
      rw[bindX_go,far_list _ (λx hx=>?_) (by simp)]
      simp_all[far6,Bool.or_assoc]
      ·obtain⟨p1,p2,p3⟩:=hp
       obtain⟨t1,t2,t3⟩:=h2
       (simp_all[i64P];omega)
  grind
theorem right_core{A B C D:Int}(a1:0≤A)(a2:A<18446744073709551616)(b1:0≤B)(b2:B<18446744073709551616)(c1:0≤C)(c2:C<18446744073709551616)(d1:0≤D)(d2:D<18446744073709551616) :
  (!((A==0)==(B==0))&&(!((C==0)==(D==0))&&((IntKind.u64.wrap (A+B))==(IntKind.u64.wrap (C+D)))))=decide ((if B=0 then A else if A=0 then B else 0)>0∧(if B=0 then A else if A=0 then B else 0)=(if D=0 then C else if C=0 then D else 0)):=by
 rw[Bool.eq_iff_iff]
 grind[wrap_u64]
theorem r33_right_eq(hp:gx p)(hm:jD m):oA p m=some (decide (rad p m.Center>0∧rad p m.Center=rad m.To m.Center)):=by
 obtain⟨h1,h2,h3,h4,h5⟩:=hm
 (unfold oA;try delta jV)
 rw[lX hp.1 h3,aa,lX hp.2.1 h4,aa,lX h2.1 h3,aa,lX h2.2.1 h4,aa]
 have key:∀a b:Int,i64P a→i64P b→0≤dst a b∧dst a b<18446744073709551616∧(dst a b=0↔a=b):=by
  grind[i64P,dst]
 have a1:=key p.X m.Center.X hp.1 h3
 have a2:=key p.Y m.Center.Y hp.2.1 h4
 have a3:=key m.To.X m.Center.X h2.1 h3
 have a4:=key m.To.Y m.Center.Y h2.2.1 h4
 unfold rad
 have r1:(if p.Y=m.Center.Y then dst p.X m.Center.X else if p.X=m.Center.X then dst p.Y m.Center.Y else 0)=(if dst p.Y m.Center.Y=0 then dst p.X m.Center.X else if dst p.X m.Center.X=0 then dst p.Y m.Center.Y else 0):=by omega
 have r2:(if m.To.Y=m.Center.Y then dst m.To.X m.Center.X else if m.To.X=m.Center.X then dst m.To.Y m.Center.Y else 0)=(if dst m.To.Y m.Center.Y=0 then dst m.To.X m.Center.X else if dst m.To.X m.Center.X=0 then dst m.To.Y m.Center.Y else 0):=by omega
 rw[r1,r2]
 exact congrArg some (right_core a1.1 a1.2.1 a2.1 a2.2.1 a3.1 a3.2.1 a4.1 a4.2.1)
theorem r33_quad_eq  {c:dh} (h1 : -10000000 ≤ p.X ∧ p.X ≤ 10000000) (h2 : -10000000 ≤ p.Y ∧ p.Y ≤ 10000000) (h3 : -10000000 ≤ c.X ∧ c.X ≤ 10000000) (h4 : -10000000 ≤ c.Y ∧ c.Y ≤ 10000000) :
    ∃d,iO (IntKind.i64.wrap (p.X-c.X)) (IntKind.i64.wrap (p.Y-c.Y))=some (d,rad p c)∧(d<0↔rad p c=0):=by
  rw[aE (by omega) (by omega),aE (by omega) (by omega)]
  (unfold iO;try delta jV)
  rw[aE (n:=0-(p.X-c.X)) (by omega) (by omega),aE (n:=0-(p.Y-c.Y)) (by omega) (by omega)]
  unfold rad dst
  by_cases q1:p.X-c.X>0<;>by_cases q2:p.X-c.X=0<;>by_cases q3:p.Y-c.Y>0<;>by_cases q4:p.Y-c.Y=0<;>first
    | (exfalso;omega)
    | (by_cases q5 : p.X - c.X < 0 <;> by_cases q6 : p.Y - c.Y < 0 <;> first
        | (exfalso;omega)
        | (simp only [rc, zG, beq_iff_eq, q1, q2, q3, q4, q5, q6, and_true, true_and, and_false, false_and, qX, qW, and_self]
           refine⟨_,rfl,?_⟩<;>split<;>(try split)<;>(try split)<;>omega)
        | (simp only [rc, zG, beq_iff_eq, q1, q2, q3, q4, q5, q6, and_true, true_and, and_false, false_and, qX, qW, and_self]
           refine⟨_,congrArg some (Prod.ext rfl ?_),?_⟩<;>(try dsimp only)<;>(try split)<;>(try split)<;>(try split)<;>(try split)<;>omega))
theorem jE{n:Int}(h:farP n=false):-10000000≤n∧n≤10000000:=by simp_all[farP]
theorem or_chain(a b c d e f:Bool):(if a=true then some true else if b=true then some true else if c=true then some true else if d=true then some true else if e=true then some true else some f)=some (a||b||c||d||e||f):=by
 grind
theorem r33_Valid_eq(hp:gx p)(hm:jD m):oB p m=some (movV p m):=by
 have hr:=r33_right_eq hp hm
 obtain⟨h1,h2,h3,h4,h5⟩:=hm
 (unfold oB movV;try delta jR jV)
 have hs:(if (m.Kind==1)=true then (m.Rate==0)||((m.Kind==2)&&(decide (m.Rate>0)))else (m.Kind==2)&&(decide (m.Rate>0)))=decide ((m.Kind=1∧m.Rate=0)∨(m.Kind=2∧m.Rate>0)):=by
  grind
 rw[hs]
 simp only[r33_far_eq,aa,or_chain]
 rw[show (farP p.X||farP p.Y||farP p.Z||farP m.To.X||farP m.To.Y||farP m.To.Z)=far6 p m.To from rfl]
 by_cases e1:(m.Kind=1∧m.Rate=0)∨(m.Kind=2∧m.Rate>0)
 ·simp only[qY e1,qX,aa,zA,qW,qV e1]
  grind
 ·simp only[qZ e1,zA,qW,qU e1,r33_arc,aa,auN]
  by_cases e3:m.Kind=3∨m.Kind=4
  ·have hb:((m.Kind==3)||(m.Kind==4))=true:=by simp_all
   by_cases q:m.Rate>0
   ·simp only[hb,qX,aa,qZ (show ¬m.Rate≤0 by omega),zA,qW,e3,q,true_and]
    by_cases f:(far6 p m.To||farP m.Center.X||farP m.Center.Y)=true
    ·have hv:(if far6 p m.To=true then some true else if farP m.Center.X=true then some true else some (farP m.Center.Y))=some true:=by
      grind
     rw[hv,aa,qV rfl,hr,aa]
     grind
    ·have f':(far6 p m.To||farP m.Center.X||farP m.Center.Y)=false:=by simpa using f
     have hv:(if far6 p m.To=true then some true else if farP m.Center.X=true then some true else some (farP m.Center.Y))=some false:=by
      simp_all
     rw[hv,aa,qU (by simp)]
     simp only[zH]at f'
     obtain⟨⟨f6,fx⟩,fy⟩:=f'
     have g6:=f6
     unfold far6 at g6
     simp only[zH]at g6
     obtain⟨⟨⟨⟨⟨g1,g2⟩,g3⟩,g4⟩,g5⟩,g6⟩:=g6
     have b1:=jE g1;have b2:=jE g2;have b4:=jE g4;have b5:=jE g5;have c1:=jE fx;have c2:=jE fy
     obtain⟨d,hd,hd2⟩:=r33_quad_eq (p:=p) (c:=m.Center) b1 b2 c1 c2
     obtain⟨d',hd',hd2'⟩:=r33_quad_eq (p:=m.To) (c:=m.Center) b4 b5 c1 c2
     rw[hd,aa,hd',aa]
     have hn:=rad_nn p m.Center
     have hn':=rad_nn m.To m.Center
     have hle:rad p m.Center≤20000000:=by
      grind[rad,dst]
     by_cases g:rad p m.Center>0∧rad p m.Center=rad m.To m.Center
     ·have z1:¬d<0:=λq=>by omega
      have z2:¬d'<0:=λq=>by omega
      rw[qU (by simp_all),qV g]
      rw[aE (n:=m.Center.X+rad p m.Center) (by omega) (by omega),aE (n:=m.Center.X-rad p m.Center) (by omega) (by omega),aE (n:=m.Center.Y+rad p m.Center) (by omega) (by omega),aE (n:=m.Center.Y-rad p m.Center) (by omega) (by omega)]
      rw[f6,fx,fy]
      cases farP (m.Center.X+rad p m.Center)<;>cases farP (m.Center.X-rad p m.Center)<;>cases farP (m.Center.Y+rad p m.Center)<;>cases farP (m.Center.Y-rad p m.Center)<;>rfl
     grind
   (simp_all;omega)
  simp_all
theorem movV_kind(h:movV p m=0):m.Kind=1∨m.Kind=2∨m.Kind=3∨m.Kind=4:=by
 grind[movV]
def IsCh(r n:Int):Prop:=1≤n∧r≤10*(n*n)∧10*((n-1)*(n-1))<r
theorem lu(h0:0≤a)(h:a≤b):a*a≤b*b:=zJ h h h0 (by omega)
variable {r:Int}
theorem IsCh.unique{n m:Int}(hn:IsCh r n)(hm:IsCh r m):n=m:=by
 obtain⟨a1,a2,a3⟩:=hn
 obtain⟨b1,b2,b3⟩:=hm
 rcases zK n m with h | h | h
 ·have:=lu (a:=n) (b:=m-1) (by omega) (by omega);omega
 ·exact h
 ·have:=lu (a:=m) (b:=n-1) (by omega) (by omega);omega
def pT(r:Int):Nat→Int→Int
 | 0,n=>n
 | f+1,n=>if 10*(n*n)<r then pT r f (n+1)else n
theorem chordsFrom_is(r:Int):∀(f:Nat) (n:Int),1≤n→10*((n-1)*(n-1))<r→r≤10*((n+f)*(n+f))→IsCh r (pT r f n):=by
 intro f
 induction f<;>grind[IsCh,pT]
def qR(r:Int):Int:=if r≤0 then 0 else pT r r.toNat 1
theorem chordsM_is(h:0<r):IsCh r (qR r):=by
 unfold qR
 rw[qU (by omega)]
 refine chordsFrom_is r _ 1 (by omega) (by simpa using h) ?_
 grind
theorem chordsM_eq{n:Int}(h:IsCh r n):qR r=n:=by
 have hr:0<r:=by
  have:=h.2.2
  have h2:0≤(n-1)*(n-1):=zD (by have:=h.1;omega) (by have:=h.1;omega)
  omega
 exact (chordsM_is hr).unique h
theorem IsCh.le{n:Int}(h:IsCh r n)(hb:0≤b)(hr:r≤10*(b*b)):n≤b:=by
 rcases Int.lt_or_le b n with h1 | h1
 ·have:=lu (a:=b) (b:=n-1) hb (by omega)
  have:=h.2.2
  omega
 ·exact h1
def rot:Nat→Int→Int→Int×Int
 | 0,x,y=>(x,y)
 | n+1,x,y=>(-(rot n x y).2,(rot n x y).1)
theorem rot_bd(b:Int)(n:Nat)(x y:Int)(hx:-b≤x∧x≤b)(hy:-b≤y∧y≤b):(-b≤(rot n x y).1∧(rot n x y).1≤b)∧(-b≤(rot n x y).2∧(rot n x y).2≤b):=by
 induction n<;>grind[rot]
theorem rot4(n:Nat)(x y:Int):rot (n+4) x y=rot n x y:=by simp[rot]
theorem rot_add4(n k:Nat)(x y:Int):rot (n+4*k) x y=rot n x y:=by
 induction k<;>grind[rot4]
theorem rot_mod(n:Nat)(x y:Int):rot (n % 4) x y=rot n x y:=by
 have:=rot_add4 (n % 4) (n / 4) x y
 grind
theorem floor_neg(hb:0<b)(h:a.tmod b<0):a.tdiv b-1=a / b:=by
 rw[zX]
 rw[zY]at h
 have h3:=Int.emod_nonneg a (show b≠0 by omega)
 grind
theorem floor_pos(hb:0<b)(h:¬a.tmod b<0):a.tdiv b=a / b:=by
 rw[zX]
 rw[zY]at h
 have h4:=Int.emod_lt_of_pos a hb
 grind
theorem ediv_bd{c:Int}(hb:0<b)(hc:0≤c)(h1:-c≤a)(h2:a≤c):-c≤a / b∧a / b≤c:=by
 have hm:=zB (show 1≤b by omega) hc
 constructor
 ·refine zO hb ?_
  grind
 ·have:a / b<c+1:=zE hb (by grind)
  omega
def qs(r n k:Int):Int:=r*(n*n-k*k) / (n*n+k*k)
def pc(r n k:Int):Int:=2*r*k*n / (n*n+k*k)
def arcXY(kind:Int)(first q:Nat)(x y:Int):Int×Int:=if kind=3 then rot (first+4-q) x (-y)else rot (first+q) x y
theorem qS{R n K:Int}(h1:0<R)(h2:R≤10000000)(h3:n≤1000)(h4:1≤K)(h5:K≤n) :
  IntKind.i64.wrap (n*n)=n*n∧IntKind.i64.wrap (K*K)=K*K∧IntKind.i64.wrap (n*n-K*K)=n*n-K*K∧IntKind.i64.wrap (R*(n*n-K*K))=R*(n*n-K*K)∧IntKind.i64.wrap (n*n+K*K)=n*n+K*K ∧
  IntKind.i64.wrap ((R*(n*n-K*K)).tdiv (n*n+K*K))=qs R n K∧IntKind.i64.wrap (2*R)=2*R∧IntKind.i64.wrap (2*R*K)=2*R*K∧IntKind.i64.wrap (2*R*K*n)=2*R*K*n∧IntKind.i64.wrap ((2*R*K*n).tdiv (n*n+K*K))=pc R n K ∧
  ¬n*n+K*K=0∧(0≤qs R n K∧qs R n K≤R)∧(0≤pc R n K∧pc R n K≤R):=by
 have a1:n*n≤1000*1000:=lu (by omega) h3
 have a2:1*1≤K*K:=lu (by omega) h4
 have a3:K*K≤n*n:=lu (by omega) h5
 have a4:0≤R*(n*n-K*K):=zD (by omega) (by omega)
 have a5:R*(n*n-K*K)≤R*(n*n+K*K):=zB (by omega) (by omega)
 have a6:R*(n*n+K*K)≤10000000*2000000:=zJ h2 (by omega) (by omega) (by omega)
 have b1:R*K≤10000000*1000:=zJ h2 (by omega) (by omega) (by omega)
 have b2:0≤R*K:=zD (by omega) (by omega)
 have b3:R*K*n≤10000000000*1000:=zJ b1 h3 (by omega) (by omega)
 have b4:0≤R*K*n:=zD b2 (by omega)
 have c1:2*R*K=2*(R*K):=Int.mul_assoc _ _ _
 have c2:2*R*K*n=2*(R*K*n):=by grind
 have d1:2*(K*n)≤n*n+K*K:=by
  have e:=zD (show 0≤n-K by omega) (show 0≤n-K by omega)
  grind
 have d2:2*R*K*n≤R*(n*n+K*K):=by
  have e:=zB d1 (show 0≤R by omega)
  grind
 have x1:0≤qs R n K:=zL a4 (by omega)
 have x2:qs R n K≤R:=by
  have:qs R n K<R+1:=zE (by omega) (by grind)
  omega
 have y1:0≤pc R n K:=zL (by omega) (by omega)
 have y2:pc R n K≤R:=by
  have:pc R n K<R+1:=zE (by omega) (by grind)
  omega
 grind[IntWalk.i64_in,qs,pc]
theorem arcXY_bd(R k:Int)(f q:Nat){x y:Int}(hx:0≤x∧x≤R)(hy:0≤y∧y≤R):(-R≤(arcXY k f q x y).1∧(arcXY k f q x y).1≤R)∧(-R≤(arcXY k f q x y).2∧(arcXY k f q x y).2≤R):=by
 unfold arcXY
 split
 ·exact rot_bd R _ _ _ (by omega) (by omega)
 ·exact rot_bd R _ _ _ (by omega) (by omega)
theorem take_map_range(g:Nat→α)(T m:Nat)(h:m<T):((zR T).map g).take (m+1)=((zR T).map g).take m++[g m]:=by
 simp_all[List.take_succ_eq_append_getElem]
def qd(p:ag)(c:dh):Nat:=if p.Y=c.Y∧p.X>c.X then 0 else if p.X=c.X∧p.Y>c.Y then 1 else if p.Y=c.Y∧p.X<c.X then 2 else if p.X=c.X∧p.Y<c.Y then 3 else 0
theorem qd_le(p:ag)(c:dh):qd p c≤3:=by
 grind[qd]
theorem mt{c:dh}(h1:i64P p.X)(h2:i64P p.Y)(h3:i64P c.X)(h4:i64P c.Y):gA p c=some ((qd p c:Int),rad p c):=by
 have e1:=gJ h1 h3
 have e2:=gJ h2 h4
 (unfold gA;try delta jV)
 rw[e1,e2]
 unfold qd rad dst
 by_cases x1:p.X=c.X<;>by_cases x2:p.X>c.X<;>by_cases x3:p.X<c.X<;>by_cases y1:p.Y=c.Y<;>by_cases y2:p.Y>c.Y<;>by_cases y3:p.Y<c.Y<;>first | (exfalso;omega) | simp[x1,x2,x3,y1,y2,y3]
def qtr(k:Int)(a b:Nat):Nat:=if k=3 then (if a≤b then a+4-b else a-b)else (if b≤a then b+4-a else b-a)
theorem qtr_bd{k:Int}{a b:Nat}(ha:a≤3)(hb:b≤3):1≤qtr k a b∧qtr k a b≤4:=by
 grind[qtr]
structure oi (p:ag) (m:aH):Prop where
 kind:m.Kind=3∨m.Kind=4
 p1:-10000000≤p.X∧p.X≤10000000
 p2:-10000000≤p.Y∧p.Y≤10000000
 p3:-10000000≤p.Z∧p.Z≤10000000
 t1:-10000000≤m.To.X∧m.To.X≤10000000
 t2:-10000000≤m.To.Y∧m.To.Y≤10000000
 t3:-10000000≤m.To.Z∧m.To.Z≤10000000
 c1:-10000000≤m.Center.X∧m.Center.X≤10000000
 c2:-10000000≤m.Center.Y∧m.Center.Y≤10000000
 r0:0<rad p m.Center
 r1:rad p m.Center=rad m.To m.Center
 x1:-10000000≤m.Center.X-rad p m.Center∧m.Center.X+rad p m.Center≤10000000
 y1:-10000000≤m.Center.Y-rad p m.Center∧m.Center.Y+rad p m.Center≤10000000
theorem oi.rad_le(h:oi p m):rad p m.Center≤10000000:=by
 have:=h.x1;omega
theorem lG{n:Int}(h:-10000000≤n∧n≤10000000):i64P n:=by grind[i64P]
theorem ip_Quarters_eq(h:oi p m)(hp:gx p)(hm:jD m)(hv:movV p m=0):gf p m=some ((qtr m.Kind (qd p m.Center) (qd m.To m.Center):Int),0):=by
 (unfold gf kG;try delta jC jV)
 have hk:((m.Kind==3)||(m.Kind==4))=true:=by simpa using h.kind
 rw[hk,aa,qU (by simp)]
 show ac (jT p m) _=_
 rw[qL hp hm,hv,aa,qU (by simp),mt (lG h.p1) (lG h.p2) (lG h.c1) (lG h.c2),aa,mt (lG h.t1) (lG h.t2) (lG h.c1) (lG h.c2),aa]
 have ha:=qd_le p m.Center
 have hb:=qd_le m.To m.Center
 generalize qd p m.Center=a at *
 generalize qd m.To m.Center=b at *
 dsimp only
 have ha':a=0∨a=1∨a=2∨a=3:=by omega
 have hb':b=0∨b=1∨b=2∨b=3:=by omega
 rcases h.kind with k | k<;>rw[k]<;>rcases ha' with rfl | rfl | rfl | rfl<;>rcases hb' with rfl | rfl | rfl | rfl<;>decide
theorem ip_Chords_eq(h0:0<r)(h1:r≤10000000):o7 r=some (qR r):=by
 apply Tot.get
 (unfold o7;try delta jB lF)
 rw[aE (n:=r-1) (by omega) (by omega),tdiv_ed (by omega),aE (n:=(r-1) / 10) (by omega) (by omega),aE (n:=(r-1) / 10+1) (by omega) (by omega)]
 obtain⟨need,hneed⟩:∃need,(r-1) / 10+1=need:=⟨_,rfl⟩
 rw[hneed]
 refine Tot.ite (λq=>absurd q (by simp;omega)) (λ_=>?_)
 refine Tot.bind (E:=λx=>x=qR r) (Tot.loop (λk (v:Int×Int)=>1≤v.1∧v.1≤v.2∧v.2≤1073741824∧(v.1-1)*(v.1-1)<need∧need≤v.2*v.2∧k=(v.2-v.1).toNat) _ 1073741823 (by grind[fuel]) ⟨by omega,by omega,by omega,(by omega),(by omega),rfl⟩ (λk v hr=>?_)) (λx hx=>.ok hx)
 obtain⟨lo,hi⟩:=v
 obtain⟨a1,a2,a3,a4,a5,a6⟩:=hr
 dsimp only at *
 by_cases z:lo<hi
 ·rw[qY z,qV rfl,aE (n:=lo+hi) (by omega) (by omega),tdiv_ed (by omega),aE (n:=(lo+hi) / 2) (by omega) (by omega)]
  obtain⟨n,hn⟩:∃n,(lo+hi) / 2=n:=⟨_,rfl⟩
  rw[hn]
  have n1:lo≤n:=by omega
  have n2:n<hi:=by omega
  have sq:=lu (a:=n) (b:=1073741824) (by omega) (by omega)
  have sq0:0≤n*n:=zD (by omega) (by omega)
  rw[aE (n:=n*n) (by omega) (by omega)]
  by_cases y:n*n≥need
  ·rw[qY y,qV rfl]
   exact .go ⟨(n-lo).toNat,by omega,a1,n1,by omega,a4,y,rfl⟩
  ·rw[qZ y,qU (by simp),aE (n:=n+1) (by omega) (by omega)]
   exact .go ⟨(hi-(n+1)).toNat,by omega,(by omega),(by omega),a3,(by simp_all),a5,rfl⟩
 ·rw[qZ z,qU (by simp)]
  have e:lo=hi:=by omega
  subst e
  refine .ret (chordsM_eq ⟨a1,by omega,by omega⟩).symm
theorem andI3(q:Nat)(h:q≤11):andI .i64 (q:Int) 3=((q % 4:Nat):Int):=by
 have:q=0∨q=1∨q=2∨q=3∨q=4∨q=5∨q=6∨q=7∨q=8∨q=9∨q=10∨q=11:=by omega
 rcases this with rfl | rfl | rfl | rfl | rfl | rfl | rfl | rfl | rfl | rfl | rfl | rfl<;>decide
theorem ip_turned_eq{x y:Int}{q:Nat}(hx:-100000000≤x∧x≤100000000)(hy:-100000000≤y∧y≤100000000)(hq:q≤11):mR x y (q:Int)=some (rot q x y):=by
 apply Tot.get
 (unfold mR;try delta jB lF)
 rw[andI3 q hq,←rot_mod q]
 have hm:q % 4<4:=Nat.mod_lt _ (by omega)
 generalize q % 4=n at *
 refine Tot.bind (E:=λv=>v=rot n x y) (Tot.loop (λk (v:Int×Int×Int)=>∃j:Nat,v=((rot j x y).1,(rot j x y).2,(j:Int))∧j≤n∧k=n-j) _ n (by grind[fuel]) ⟨0,rfl,Nat.zero_le _,rfl⟩ (λk v hr=>?_)) (λv hv=>.ok (by rw[hv]))
 obtain⟨j,rfl,j1,j2⟩:=hr
 have hb:=rot_bd 100000000 j x y hx hy
 dsimp only
 by_cases z:j<n
 ·rw[qY (show (j:Int)<(n:Int) by omega),qV rfl,aE (by omega) (by omega),aE (by omega) (by omega)]
  refine .go ⟨n-(j+1),by omega,j+1,?_,by omega,rfl⟩
  rw[Int.zero_sub];rfl
 ·rw[qZ (show ¬(j:Int)<(n:Int) by omega),qU (by simp),show j=n by omega]
  exact .ret rfl
theorem ip_floor_eq(ha:-1000000000000000000≤a∧a≤1000000000000000000)(hb:0<b∧b≤1000000000):ip_floor a b=some (a / b):=by
 have hd:=ediv_bd (c:=1000000000000000000) hb.1 (by omega) ha.1 ha.2
 apply Tot.get
 (unfold ip_floor;try delta jC)
 have h0:(!(b==0))=true:=by simp;omega
 refine Tot.guard h0 (Tot.guard h0 (Tot.bind (E:=λv=>v=a / b) (Tot.ite (λq=>.ok ?_) (λq=>.ok ?_)) (λv hv=>.ok hv)))
 grind[floor_neg,aE]
 grind[floor_pos,aE]
def arcN(p:ag)(m:aH):Nat:=(qR (rad p m.Center)).toNat
def arcQ(p:ag)(m:aH):Nat:=qtr m.Kind (qd p m.Center) (qd m.To m.Center)
def pk(p:ag)(m:aH)(i:Nat):Int×Int :=
 arcXY m.Kind (qd p m.Center) (i / arcN p m) (qs (rad p m.Center) (arcN p m:Int) ((i % arcN p m+1:Nat):Int)) (pc (rad p m.Center) (arcN p m:Int) ((i % arcN p m+1:Nat):Int))
def arcPt(p:ag)(m:aH)(i:Nat):ag :=
 ag.mk (m.Center.X+(pk p m i).1) (m.Center.Y+(pk p m i).2) (p.Z+(m.To.Z-p.Z)*((i+1:Nat):Int) / ((arcN p m*arcQ p m:Nat):Int))
def arcL(p:ag)(m:aH):List ag:=(zR (arcN p m*arcQ p m)).map (arcPt p m)
theorem oi.n(h:oi p m):qR (rad p m.Center)=(arcN p m:Int)∧1≤arcN p m∧arcN p m≤1000:=by
 have h1:=chordsM_is h.r0
 have h2:=h1.le (b:=1000) (by omega) (by have:=h.rad_le;omega)
 have h3:=h1.1
 grind[arcN]
theorem oi.q(h:oi p m):1≤arcQ p m∧arcQ p m≤4:=qtr_bd (qd_le _ _) (qd_le _ _)
theorem oi.all(h:oi p m):1≤arcN p m*arcQ p m∧arcN p m*arcQ p m≤4000:=by
 obtain⟨_,a1,a2⟩:=h.n
 obtain⟨b1,b2⟩:=h.q
 exact⟨Nat.mul_le_mul a1 b1,Nat.mul_le_mul a2 b2⟩
theorem arc_idx{N q j:Nat}(hj:j<N):(N*q+j) / N=q∧(N*q+j) % N=j:=by
 grind[Nat.mul_add_div,Nat.div_eq_of_lt,Nat.mul_add_mod,Nat.mod_eq_of_lt]
theorem oi.pt(h:oi p m){q j:Nat}(hq:q<arcQ p m)(hj:j<arcN p m) :
  (-10000000≤(pk p m (arcN p m*q+j)).1∧(pk p m (arcN p m*q+j)).1≤10000000)∧(-10000000≤(pk p m (arcN p m*q+j)).2∧(pk p m (arcN p m*q+j)).2≤10000000)∧arcN p m*q+j<arcN p m*arcQ p m:=by
 obtain⟨_,a1,a2⟩:=h.n
 obtain⟨e1,e2⟩:=arc_idx (q:=q) hj
 have hf:=qS (R:=rad p m.Center) (n:=(arcN p m:Int)) (K:=((j+1:Nat):Int)) h.r0 h.rad_le (by omega) (by omega) (by omega)
 obtain⟨_,_,_,_,_,_,_,_,_,_,_,hx,hy⟩:=hf
 have hb:=arcXY_bd (rad p m.Center) m.Kind (qd p m.Center) q hx hy
 have hr:=h.rad_le
 unfold pk
 rw[e1,e2]
 refine⟨by omega,by omega,?_⟩
 have:=Nat.mul_le_mul_left (arcN p m) (show q+1≤arcQ p m by omega)
 grind
theorem oi.zz(h:oi p m){i:Nat}(hi:i<arcN p m*arcQ p m) :
  (-100000000000≤(m.To.Z-p.Z)*((i+1:Nat):Int)∧(m.To.Z-p.Z)*((i+1:Nat):Int)≤100000000000)∧(-20000000≤(m.To.Z-p.Z)*((i+1:Nat):Int) / ((arcN p m*arcQ p m:Nat):Int)∧(m.To.Z-p.Z)*((i+1:Nat):Int) / ((arcN p m*arcQ p m:Nat):Int)≤20000000):=by
 have ha:=h.all
 have h1:=h.p3
 have h2:=h.t3
 obtain⟨T,hT⟩:∃T,arcN p m*arcQ p m=T:=⟨_,rfl⟩
 obtain⟨d,hd⟩:∃d,m.To.Z-p.Z=d:=⟨_,rfl⟩
 rw[hT]at ha hi ⊢
 rw[hd]
 have hd1:-20000000≤d∧d≤20000000:=by omega
 have b1:d*((i+1:Nat):Int)≤20000000*((i+1:Nat):Int):=zI hd1.2 (by omega)
 have b2:-20000000*((i+1:Nat):Int)≤d*((i+1:Nat):Int):=zI hd1.1 (by omega)
 refine⟨by omega,?_,?_⟩
 ·refine zO (by omega) ?_
  omega
 ·have:d*((i+1:Nat):Int) / (T:Int)<20000001:=zE (by omega) (by omega)
  omega
theorem ip_Arc_eq(h:oi p m)(hp:gx p)(hm:jD m)(hv:movV p m=0):ip_Arc p m=some (arcL p m,0):=by
 apply Tot.get
 (unfold ip_Arc;try delta jB jC lF gF)
 show Tot (ac (gf p m) _) _
 have hQ:gf p m=some ((arcQ p m:Int),0):=ip_Quarters_eq h hp hm hv
 obtain⟨n0,n1,n2⟩:=h.n
 obtain⟨q1,q2⟩:=h.q
 obtain⟨al1,al2⟩:=h.all
 have hr:=h.rad_le
 have hr0:=h.r0
 have hz1:=h.p3
 have hz2:=h.t3
 have hc1:=h.c1
 have hc2:=h.c2
 rw[hQ,aa]
 refine Tot.ite (λq=>by simp at q) (λ_=>?_)
 rw[mt (lG h.p1) (lG h.p2) (lG h.c1) (lG h.c2),aa]
 dsimp only
 rw[aE (n:=rad p m.Center) (by omega) (by omega),ip_Chords_eq hr0 hr,aa,n0]
 have ecast:(arcN p m:Int)*(arcQ p m:Int)=((arcN p m*arcQ p m:Nat):Int):=by omega
 rw[aE (n:=(arcN p m:Int)*(arcQ p m:Int)) (by omega) (by omega),ecast]
 refine Tot.ite (λq=>absurd q (by simp;omega)) (λ_=>?_)
 have hqd:=qd_le p m.Center
 have hlen:(arcL p m).length=arcN p m*arcQ p m:=by grind[arcL]
 refine Tot.bind (E:=λv=>v=arcL p m) (Tot.loop (λk (v:List ag×Int)=>∃q:Nat,v=((arcL p m).take (arcN p m*q),(q:Int))∧q≤arcQ p m∧k=arcQ p m-q) _ (arcQ p m) (by grind[fuel]) ⟨0,by simp,Nat.zero_le _,rfl⟩ (λk v hr'=>?_)) (λv hv'=>.ok (by rw[hv']))
 obtain⟨q,rfl,hq,hk⟩:=hr'
 dsimp only
 by_cases zq:q<arcQ p m
 ·rw[qY (show (q:Int)<(arcQ p m:Int) by omega),qV rfl]
  refine TotX.bind (E:=λv=>v=(arcL p m).take (arcN p m*(q+1))) (Tot.loop (λk (v:List ag×Int)=>∃j:Nat,v=((arcL p m).take (arcN p m*q+j),((j+1:Nat):Int))∧j≤arcN p m∧k=arcN p m-j) _ (arcN p m) (by grind[fuel]) ⟨0,rfl,Nat.zero_le _,rfl⟩ (λk v hr'=>?_)) (λv hv'=>?_)
  ·obtain⟨j,rfl,hj,hk2⟩:=hr'
   dsimp only
   by_cases zj:j<arcN p m
   ·obtain⟨b1,b2,b3⟩:=h.pt zq zj
    obtain⟨z1,z2⟩:=h.zz b3
    obtain⟨e1,e2⟩:=arc_idx (q:=q) zj
    obtain⟨f1,f2,f3,f4,f5,f6,f7,f8,f9,f10,f11,f12,f13⟩:=qS (R:=rad p m.Center) (n:=(arcN p m:Int)) (K:=((j+1:Nat):Int)) hr0 hr (by omega) (by omega) (by omega)
    have hlt:((arcL p m).take (arcN p m*q+j)).length=arcN p m*q+j:=by grind
    rw[qY (show ((j+1:Nat):Int)≤(arcN p m:Int) by omega),qV rfl,f1,f2,f3,f4,f5,f6,f7,f8,f9,f10,hlt]
    refine .guard (by simp_all) (.guard (by simp_all) ?_)
    refine TotX.bind (E:=λxy=>xy=pk p m (arcN p m*q+j)) ?_ (λxy hxy=>?_)
    ·unfold pk
     rw[e1,e2]
     unfold arcXY
     rcases h.kind with hk3 | hk4
     ·rw[hk3,qV (by simp),qV rfl]
      rw[aE (n:=0-pc (rad p m.Center) (arcN p m:Int) ((j+1:Nat):Int)) (by omega) (by omega),Int.zero_sub,aE (n:=((qd p m.Center:Nat):Int)-(q:Int)) (by omega) (by omega),aE (by omega) (by omega),show ((qd p m.Center:Nat):Int)-(q:Int)+4=((qd p m.Center+4-q:Nat):Int) by omega,ip_turned_eq (by omega) (by omega) (by omega),aa]
      exact .ok rfl
     ·rw[hk4,qU (by simp),qU (by omega)]
      rw[aE (n:=((qd p m.Center:Nat):Int)+(q:Int)) (by omega) (by omega),show ((qd p m.Center:Nat):Int)+(q:Int)=((qd p m.Center+q:Nat):Int) by omega,ip_turned_eq (by omega) (by omega) (by omega),aa]
      exact .ok rfl
    ·subst hxy
     have ei:((arcN p m*q+j:Nat):Int)+1=((arcN p m*q+j+1:Nat):Int):=rfl
     rw[aE (n:=m.To.Z-p.Z) (by omega) (by omega),aE (n:=((arcN p m*q+j:Nat):Int)+1) (by omega) (by omega),ei,aE (n:=(m.To.Z-p.Z)*((arcN p m*q+j+1:Nat):Int)) (by omega) (by omega),ip_floor_eq (by omega) (by omega),aa]
     refine .guard (br (by omega)) (.go ⟨arcN p m-(j+1),by omega,j+1,?_,by omega,rfl⟩)
     grind[aE,take_map_range,arcPt,arcL]
   ·rw[qZ (show ¬((j+1:Nat):Int)≤(arcN p m:Int) by omega),qU (by simp)]
    refine .ret ?_
    grind
  ·subst hv'
   rw[aE (n:=(q:Int)+1) (by omega) (by omega)]
   exact .go ⟨arcQ p m-(q+1),by omega,q+1,rfl,by omega,rfl⟩
 ·rw[qZ (show ¬(q:Int)<(arcQ p m:Int) by omega),qU (by simp)]
  refine .ret ?_
  grind
def prn(c:UInt8):Bool:=decide ((c.toNat:Int)≥32)&&(decide ((c.toNat:Int)≤126)&&(((c.toNat:Int) != 40)&&((c.toNat:Int) != 41)))
def okW(w:aC):Prop:=65≤w.Letter∧w.Letter≤90∧-1000000000000≤w.Value∧w.Value≤1000000000000
def eU(b:ae):Prop:=b.Words.length≤16∧b.Comment.length≤100∧(∀w∈b.Words,okW w)∧∀c∈b.Comment,prn c=true
theorem bk_Valid_vp(b:ae)(h1:b.Words.length≤1000)(h2:b.Comment.length≤1000):Tot (kJ b) (λe=>(e=0∧eU b)∨(e=1∧¬eU b)):=by
 (unfold kJ;try delta jB rF jV)
 have hsz:(decide ((b.Words.length:Int)>16)||decide ((b.Comment.length:Int)>100))=decide (¬(b.Words.length≤16∧b.Comment.length≤100)):=by
  grind
 rw[hsz]
 refine Tot.ite (λh=>.ok (.inr ⟨rfl,λq=>ra h ⟨q.1,q.2.1⟩⟩)) (λh=>?_)
 have hle:b.Words.length≤16∧b.Comment.length≤100:=by simpa using h
 refine Tot.bindX (E:=λ_=>∀w∈b.Words,okW w) (TotX.of (Tot.mono (E:=λx=>(x=.ret 1∧¬eU b)∨(x=.go ()∧∀w∈b.Words,okW w)) ?_ ?_)) (λx hx=>?_)
 ·refine Tot.guard (bn (by omega)) (Tot.range (λi _=>∀(k:Nat) w,k<i→b.Words[k]? = some w→okW w) _ (λk w q=>by omega) (λi x v hx hr=>?_) (λv hr=>.ok (.inr ⟨rfl,λw hw=>?_⟩)))
  ·have hc:(decide (x.Letter<65)||(decide (x.Letter>90)||(decide (x.Value>1000000000000)||decide (x.Value < -1000000000000))))=decide (¬(65≤x.Letter∧x.Letter≤90∧-1000000000000≤x.Value∧x.Value≤1000000000000)):=by
    grind
   rw[hc]
   refine TotX.ite (λh2=>.ret (.inl ⟨rfl,λq=>ra h2 (q.2.2.1 x (List.mem_of_getElem? hx))⟩)) (λh2=>.go (λk w hk hw=>?_))
   rcases Nat.lt_or_ge k i with q | q
   grind
   ·obtain rfl:k=i:=by omega
    rw[hx]at hw;injection hw with hw;subst hw
    have h3:65≤x.Letter∧x.Letter≤90∧-1000000000000≤x.Value∧x.Value≤1000000000000:=Decidable.not_not.1 (of_decide_eq_false h2)
    exact h3
  grind[List.mem_iff_getElem?]
 grind
 ·refine Tot.bindX (E:=λ_=>eU b) (TotX.of (Tot.mono (E:=λx=>(x=.ret 1∧¬eU b)∨(x=.go ()∧eU b)) ?_ ?_)) (λ_ hv=>.ok (.inl ⟨rfl,hv⟩))
  ·refine Tot.guard (bn (by grind[oe])) (Tot.range (λi _=>∀(k:Nat) c,k<i→b.Comment[k]? = some c→prn c=true) _ (λk w q=>by omega) (λi y v hy hr=>?_) (λv hr=>.ok (.inr ⟨rfl,hle.1,hle.2,hx,λc hc=>?_⟩)))
   ·unfold oe at hy
    rw[List.getElem?_map]at hy
    cases hq:b.Comment[i]? with
    | none=>simp_all
    | some c =>
     rw[hq]at hy;injection hy with hy;subst hy
     have hp:gR (c.toNat:Int)=some (prn c):=rfl
     rw[hp,aa]
     refine TotX.ite (λh2=>.ret (.inl ⟨rfl,λq=>?_⟩)) (λh2=>.go (λk w hk hw=>?_))
     ·have:=q.2.2.2 c (List.mem_of_getElem? hq)
      simp_all
     grind
   grind[List.mem_iff_getElem?,oe]
  grind
theorem findW_mem{b:ae}{c:Int}(h:(ji b c).2=true):∃w∈b.Words,w.Letter=c∧w.Value=(ji b c).1:=by
 grind[ji]
theorem pO{b:ae}(hv:eU b)(c:Int):-1000000000000≤(ji b c).1∧(ji b c).1≤1000000000000:=by
 cases h:(ji b c).2 with
 | true =>
  obtain⟨w,hw,_,h2⟩:=findW_mem h
  have:=hv.2.2.1 w hw
  simp_all[okW]
 | false =>
  grind[ji]
def knW(w:aC):Bool :=
 if w.Letter=77 then [0,1000,3000,4000,5000,6000,8000,9000,30000].contains w.Value
 else if w.Letter=83 then decide (w.Value≥0)
 else [71,84,70,72,78,88,89,90,73,74,81,82].contains w.Letter
theorem all_not(p:α→Bool)(l:List α):(l.any λx=>!(p x))=!(l.all p):=by
 grind
theorem known_fin{f:Nat→aC→Unit→Option (Ex (Ex Bool Unit) Unit)}(l:List aC)(hl:l.length≤1000)(hf:∀i x,f i x ()=if (!(knW x))=true then some (.ret (.ret false))else some (.go ())) :
  bindX (aA (dN l) (aM f (λ_=>some (.go ())) l 0 ())) (λ(_:Unit)=>some true)=some (l.all knW):=by
 rw[bn (by omega),aX,range_any (r:=false) l 0 hf,all_not]
 cases l.all knW<;>rfl
theorem inp_known_eq(b:ae)(hl:b.Words.length≤1000):mV b=some (b.Words.all knW):=by
 (unfold mV;try delta jB jC rF)
 refine known_fin b.Words hl (λi w=>?_)
 rw[contains_eq _ _ (by decide),aa]
 unfold knW
 by_cases h1:w.Letter=77
 ·rw[h1,qV rfl]
  cases h:([0,1000,3000,4000,5000,6000,8000,9000,30000]:List Int).contains w.Value<;>rfl
 ·rw[qU h1]
  by_cases h2:w.Letter=83
  ·rw[h2,qV rfl]
   by_cases h:w.Value<0<;>simp_all[qZ]
  ·rw[qU h2,beq_false_of_ne h1,beq_false_of_ne h2]
   by_cases a1:w.Letter=71
   simp_all
   by_cases a2:w.Letter=84
   simp_all
   by_cases a3:w.Letter=70
   simp_all
   by_cases a4:w.Letter=72
   simp_all
   by_cases a5:w.Letter=78
   simp_all
   by_cases a6:w.Letter=88
   simp_all
   by_cases a7:w.Letter=89
   simp_all
   by_cases a8:w.Letter=90
   simp_all
   by_cases a9:w.Letter=73
   simp_all
   by_cases b1:w.Letter=74
   simp_all
   by_cases b2:w.Letter=81
   simp_all
   by_cases b3:w.Letter=82
   simp_all
   simp_all
def crd(b:ae)(l a d:Int):Int:=if (ji b l).2=true then (if d=90000 then (ji b l).1 else a+(ji b l).1)else a
def tgtW(s:ao)(b:ae)(p:ag):ag:=⟨crd b 88 p.X s.Distance,crd b 89 p.Y s.Distance,crd b 90 p.Z s.Distance⟩
theorem crd_bd{b:ae}(hv:eU b)(h:-10000000≤a∧a≤10000000)(l d:Int):-1000010000000≤crd b l a d∧crd b l a d≤1000010000000:=by
 have:=pO hv l
 grind[crd]
theorem inp_crd{b:ae}(hv:eU b)(hl:b.Words.length≤1000)(h:-10000000≤a∧a≤10000000)(l d:Int):(ac (mv b l) λ(y:Int×Bool)=>if (!y.2)=true then some a else if (d==90000)=true then some y.1 else some (IntKind.i64.wrap (a+y.1)))=some (crd b l a d):=by
 have:=pO hv l
 rw[bk_Find_eq b l hl,aa]
 unfold crd
 cases (ji b l).2 with
 | false=>rfl
 | true =>
  by_cases hd:d=90000
  simp_all
  ·rw[beq_false_of_ne hd,qV rfl,qU hd,aE (by omega) (by omega)];rfl
variable {s:ao}
theorem inp_target_eq{b:ae}(hv:eU b)(hl:b.Words.length≤1000)(hp:inR p):mT s b p=some (tgtW s b p):=by
 (unfold mT;try delta jB)
 rw[inp_crd hv hl hp.1,aa,inp_crd hv hl hp.2.1,aa,inp_crd hv hl hp.2.2,aa]
 rfl
def cycB(k:Int):Bool:=(k==81000)||((k==82000)||(k==83000))
def mvV(s:ao)(b:ae)(p:ag):aH:=⟨if s.Motion=3000 then 4 else 3,tgtW s b p,⟨p.X+(ji b 73).1,p.Y+(ji b 74).1⟩,s.Feed⟩
def iniW(c:av)(p:ag):Int:=if ((c.Code==0)&&((c.R==0)&&((c.Z==0)&&((c.Q==0)&&((c.Rate==0)&&((c.Initial==0)&&(c.High==false)))))))=true then p.Z else c.Initial
def rdC(s:ao)(c:av)(b:ae)(p:ag):av :=
 av.mk s.Motion (if (ji b 82).2=true then (ji b 82).1 else c.R) (if (ji b 90).2=true then (ji b 90).1 else c.Z) (if (ji b 81).2=true then (ji b 81).1 else c.Q) (if (ji b 70).2=true then (ji b 70).1 else s.Feed) (iniW c p) (s.Return==98000)
def reM(m:aH):ar:=⟨m.To,m.Rate⟩
def posV(s:ao)(c:av)(b:ae)(p:ag):List ar×av×Int :=
  if s.Motion=0 then ([⟨tgtW s b p,0⟩],zC,0)
  else if s.Motion=1000 then ([⟨tgtW s b p,s.Feed⟩],zC,0)
  else if cycB s.Motion=true then
    (if cycV (rdC s c b p)≠0 then ([],zC,cycV (rdC s c b p))
     else if (expV (rdC s c b p) p ⟨(tgtW s b p).X,(tgtW s b p).Y⟩).2≠0 then ([],zC,(expV (rdC s c b p) p ⟨(tgtW s b p).X,(tgtW s b p).Y⟩).2)
     else ((expV (rdC s c b p) p ⟨(tgtW s b p).X,(tgtW s b p).Y⟩).1.map reM,rdC s c b p,0))
  else if movV p (mvV s b p)=0 then ((arcL p (mvV s b p)).map λq=>⟨q,s.Feed⟩,zC,0)
  else ([],zC,movV p (mvV s b p))
theorem mvV_ok{b:ae}(hv:eU b)(hp:inR p)(hf:i64P s.Feed):gx p∧jD (mvV s b p):=by
 obtain⟨p1,p2,p3⟩:=hp
 have a1:=crd_bd hv p1 88 s.Distance
 have a2:=crd_bd hv p2 89 s.Distance
 have a3:=crd_bd hv p3 90 s.Distance
 have b1:=pO hv 73
 have b2:=pO hv 74
 refine⟨⟨lG p1,lG p2,lG p3⟩,?_,⟨?_,?_,?_⟩,?_,?_,hf⟩<;>grind[mvV,i64P,tgtW]
theorem mvV_kind(s:ao)(b:ae)(p:ag):(mvV s b p).Kind=3∨(mvV s b p).Kind=4:=by
 grind[mvV]
theorem arc_ok(hk:m.Kind=3∨m.Kind=4)(h:movV p m=0):oi p m:=by
 unfold movV at h
 rw[qU (by omega)]at h
 by_cases e2:(m.Kind=3∨m.Kind=4)∧m.Rate>0∧rad p m.Center>0∧rad p m.Center=rad m.To m.Center
 ·rw[qV e2]at h
  by_cases f:(far6 p m.To||farP m.Center.X||farP m.Center.Y||farP (m.Center.X+rad p m.Center)||farP (m.Center.X-rad p m.Center)||farP (m.Center.Y+rad p m.Center)||farP (m.Center.Y-rad p m.Center))=true
  simp_all
  ·have f':(far6 p m.To||farP m.Center.X||farP m.Center.Y||farP (m.Center.X+rad p m.Center)||farP (m.Center.X-rad p m.Center)||farP (m.Center.Y+rad p m.Center)||farP (m.Center.Y-rad p m.Center))=false:=by simpa using f
   simp only[zH,far6]at f'
   obtain⟨⟨⟨⟨⟨⟨⟨⟨⟨⟨⟨g1,g2⟩,g3⟩,g4⟩,g5⟩,g6⟩,fx⟩,fy⟩,h1⟩,h2⟩,h3⟩,h4⟩:=f'
   have k1:=jE h1;have k2:=jE h2;have k3:=jE h3;have k4:=jE h4
   exact⟨hk,jE g1,jE g2,jE g3,jE g4,jE g5,jE g6,jE fx,jE fy,by omega,e2.2.2.2,by omega,by omega⟩
 omega
theorem ip_Arc_bad(hk:m.Kind=3∨m.Kind=4)(hp:gx p)(hm:jD m)(h:movV p m≠0):ip_Arc p m=some ([],movV p m):=by
 have hQ:gf p m=some (0,movV p m):=by
  (unfold gf kG;try delta jC jV)
  have hk':((m.Kind==3)||(m.Kind==4))=true:=by simp_all
  rw[hk',aa,qU (by simp)]
  show ac (jT p m) _=_
  simp_all[qL]
 simp_all[ip_Arc,ac]
theorem map_loop{β:Type}(g:α→β)(l:List α)(hl:l.length≤1000000):(aA (dN l) (aM (λ(i:Nat) (e:α) (v:List β)=>aA (cd (v.length+1)) (some (.go (v++[g e])))) (λv=>some v) l 0 []))=some (l.map g):=by
 rw[bn (by omega),aX,kO (g:=λ(o:List β) (x:α)=>o++[g x]) (R:=λi v=>v.length≤i) (L:=l) ?_ l 0 [] rfl (by simp)]
 grind[map_fold]
 grind[br,aX]
theorem expV_len(c:av)(p:ag)(g:dh):(expV c p g).1.length≤2010:=by
 grind[expV,cycM_len,cycV_ok]
theorem arcL_len(h:oi p m):(arcL p m).length≤4000:=by
 have:=h.all
 simp_all[arcL]
theorem posV_len(s:ao)(c:av)(b:ae)(p:ag):(posV s c b p).1.length≤4000:=by
 grind[posV,expV_len,arcL_len,arc_ok,mvV_kind]
def lq(t:aw)(w n:Int)(q:ag):ag×Int:=(gV t w n q).getD (⟨0,0,0⟩,1)
variable {t:aw}
theorem machV_eq(ht:t.Lengths.length≤1000)(w n:Int)(q:ag):gV t w n q=some (lq t w n q):=by
 obtain⟨e,h,_⟩:=tb_Machine_tot t w n q ht
 simp_all[lq]
def addM(r:ag)(rate tool i:Int)(v:List aq×ag):List aq×ag:=(if (!posEq r v.2)=true then v.1++[aq.mk v.2 r rate tool i]else v.1,r)
def runM(t:aw)(w n tool i:Int):List ar→List aq×ag→Ex Int (List aq×ag)
 | [],v=>.go v
 | x::l,v=>if (lq t w n x.at_).2≠0 then .ret (lq t w n x.at_).2 else runM t w n tool i l (addM (lq t w n x.at_).1 x.rate tool i v)
theorem addM_len(r:ag)(rate tool i:Int)(v:List aq×ag):(addM r rate tool i v).1.length≤v.1.length+1:=by
 grind[addM]
theorem runM_ret(t:aw)(w n tool i:Int):∀(l:List ar) (v:List aq×ag) (e:Int),runM t w n tool i l v=.ret e→e≠0
 | [],v,e,h=>by cases h
 | x::l,v,e,h=>by
  simp only[runM]at h
  by_cases q:(lq t w n x.at_).2=0
  ·rw[qU (by simpa using q)]at h
   exact runM_ret t w n tool i l _ e h
  simp_all
theorem run_loop{α σ ε:Type}{f:Nat→α→σ→Option (Ex ε σ)}{d:σ→Option ε}{t:aw}{w n tool i:Int}(emb:List aq×ag→σ)(pr:α→ar)(g:Int→ε)
  (hf:∀(k:Nat) x (v:List aq×ag),v.1.length≤300000→f k x (emb v)=some (if (lq t w n (pr x).at_).2≠0 then .ret (g (lq t w n (pr x).at_).2)else .go (emb (addM (lq t w n (pr x).at_).1 (pr x).rate tool i v)))) :
  ∀(l:List α) (k:Nat) (v:List aq×ag),v.1.length+l.length≤300000→aM f d l k (emb v)=match runM t w n tool i (l.map pr) v with | .ret e=>some (g e) | .go u=>d (emb u)
 | [],k,v,_=>rfl
 | x::l,k,v,hv=>by
  simp only[List.length_cons]at hv
  simp only[aM,hf k x v (by omega),List.map_cons,runM]
  by_cases h:(lq t w n (pr x).at_).2=0
  ·rw[qU (by simpa using h),qU (by simpa using h)]
   have:=addM_len (lq t w n (pr x).at_).1 (pr x).rate tool i v
   exact run_loop emb pr g hf l (k+1) _ (by omega)
  simp_all
def fP:ag→List aH→ag
 | p,[]=>p
 | _,x::l=>fP x.To l
theorem run_fin{R:Type}{f:Nat→ar→List aq×ag→Option (Ex (Ex R (List aq×ag)) (List aq×ag))}{L:List ar}{v:List aq×ag}{k:List aq×ag→Option R}(t:aw)(w n tool i:Int)(g:Int→R)(hL:v.1.length+L.length≤300000)
  (hf:∀(j:Nat) x (v:List aq×ag),v.1.length≤300000→f j x v=some (if (lq t w n x.at_).2≠0 then .ret (.ret (g (lq t w n x.at_).2))else .go (addM (lq t w n x.at_).1 x.rate tool i v))) :
  bindX (aA (dN L) (aM f (λv=>some (.go (v.1,v.2))) L 0 v)) k=match runM t w n tool i L v with | .ret e=>some (g e) | .go u=>k u:=by
 have h:=run_loop (t:=t) (w:=w) (n:=n) (tool:=tool) (i:=i) (f:=f) (d:=λv=>some (.go (v.1,v.2))) (λv=>v) (λx=>x) (λe=>Ex.ret (g e)) hf L 0 v hL
 rw[bn (by omega),aX,h,List.map_id']
 cases runM t w n tool i L v<;>rfl
variable {β:Type}
theorem unit_s(f:Unit→Option β):ac (some ()) f=f ():=rfl
theorem ijqr(hI hQ cy a b:Bool):(if hI=true then (if a=true then (if b=true then some true else if hQ=true then some (!cy)else some false)else if hQ=true then some (!cy)else some false)else if hQ=true then some (!cy)else some false)=some ((hI&&a&&b)||(hQ&&!cy)):=by
 grind
theorem put_feed(h:i64P s.Feed)(hw:i64P w.Value):i64P (putW s w).Feed:=by
 unfold putW
 grind
theorem fold_feed:∀(l:List aC) (s:ao),i64P s.Feed→(∀w∈l,i64P w.Value)→i64P (l.foldl putW s).Feed
 | [],_,h,_=>h
 | w::l,s,h,hw=>fold_feed l _ (put_feed h (hw w (by simp))) (λx hx=>hw x (by simp[hx]))
def failP(e:Int):List aq×ao×av×Int:=([],zS,zC,e)
def iK(b:ae):Prop:=eU b∧jx [] b.Words=true∧b.Words.all knW=true
def numP(s:ao):Int:=if s.Length=43000 then IntKind.i64.wrap (zW s.Offset 1000)else 0
def ng(t:aw)(w n:Int)(q:ag):ag×Int:=(nm t w n q).getD (⟨0,0,0⟩,1)
theorem workV_eq(ht:t.Lengths.length≤1000)(w n:Int)(q:ag):nm t w n q=some (ng t w n q):=by
 obtain⟨e,h,_⟩:=tb_Work_tot t w n q ht
 simp_all[ng]
theorem workV_in(ht:t.Lengths.length≤1000)(w n:Int)(q:ag)(h0:(ng t w n q).2=0):inR (ng t w n q).1:=by
 obtain⟨e,h,h2⟩:=tb_Work_tot t w n q ht
 simp_all[workV_eq]
def toolP(s:ao):Int:=IntKind.i64.wrap (zW s.Tool 1000)
def moveP(s:ao)(c:av)(b:ae)(t:aw)(p:ag):List aq×ao×av×Int :=
 if ((hasW b [73,74]&&(s.Motion != 2000)&&(s.Motion != 3000))||(hasW b [81,82]&&!(cycB s.Motion)))=true then failP 1
 else if ((s.Motion==80000)||((s.Motion != 0)&&(decide (s.Feed≤0))))=true then failP 13
 else if (ng t s.Work (numP s) p).2≠0 then failP (ng t s.Work (numP s) p).2
 else if (posV s c b (ng t s.Work (numP s) p).1).2.2≠0 then failP (posV s c b (ng t s.Work (numP s) p).1).2.2
 else match runM t s.Work (numP s) (toolP s) 0 (posV s c b (ng t s.Work (numP s) p).1).1 ([],p)with
  | .ret e=>failP e
  | .go u=>(u.1,s,(posV s c b (ng t s.Work (numP s) p).1).2.1,0)
open Classical in
noncomputable def pY(s:ao)(c:av)(b:ae)(t:aw)(p:ag):List aq×ao×av×Int :=
  if iK b then
    (if hasW b [88,89,90,73,74,81,82]=true then moveP (b.Words.foldl putW s) (if cycB (b.Words.foldl putW s).Motion=true then c else zC) b t p
     else ([],b.Words.foldl putW s,if cycB (b.Words.foldl putW s).Motion=true then c else zC,0))
  else failP 1
theorem checked_0(hv:iu t=some 0)(hp:inR p):eg t p=some 0:=by
 simp_all[eg,inp_inside_eq]
def addP(p d:ag):ag:=⟨p.X+d.X,p.Y+d.Y,p.Z+d.Z⟩
def rglS(s:ao):Prop:=grp s.Motion=1∧grp s.Distance=2∧grp s.Work=3∧grp s.Length=4∧grp s.Return=5∧(0≤s.Feed∧s.Feed≤1000000000000)∧(0≤s.Tool∧s.Tool≤1000000000000∧zQ s.Tool 1000=0)∧(0≤s.Offset∧s.Offset≤1000000000000∧zQ s.Offset 1000=0)
theorem rgl_new:rglS newS:=by
 refine⟨by decide,by decide,by decide,by decide,by decide,⟨by decide,by decide⟩,⟨by decide,by decide,by decide⟩,by decide,by decide,by decide⟩
theorem rgl_put(h:rglS s)(h0:clsW w≠0)(h1:iH w=true)(h2:okW w):rglS (putW s w):=by
 obtain⟨a1,a2,a3,a4,a5,a6,a7,a8⟩:=h
 obtain⟨b1,b2,b3,b4⟩:=h2
 unfold putW
 unfold clsW at h0
 unfold iH at h1
 by_cases q1:w.Letter=71
 ·rw[qV q1]at h0 ⊢
  rcases grp_in w.Value with z | z | z | z | z | z
  omega
  ·rw[qV z];exact⟨z,a2,a3,a4,a5,a6,a7,a8⟩
  ·rw[qU (by omega),qV z];exact⟨a1,z,a3,a4,a5,a6,a7,a8⟩
  ·rw[qU (by omega),qU (by omega),qV z];exact⟨a1,a2,z,a4,a5,a6,a7,a8⟩
  ·rw[qU (by omega),qU (by omega),qU (by omega),qV z];exact⟨a1,a2,a3,z,a5,a6,a7,a8⟩
  ·rw[qU (by omega),qU (by omega),qU (by omega),qU (by omega)];exact⟨a1,a2,a3,a4,z,a6,a7,a8⟩
 ·rw[qU q1]
  by_cases q2:w.Letter=70
  ·rw[qV q2]at h1 ⊢
   simp at h1
   exact⟨a1,a2,a3,a4,a5,⟨h1,b4⟩,a7,a8⟩
  ·rw[qU q2]at h1 ⊢
   by_cases q3:w.Letter=84
   ·rw[qV (.inl q3)]at h1
    rw[qV q3]
    simp at h1
    exact⟨a1,a2,a3,a4,a5,a6,⟨h1.1,b4,h1.2⟩,a8⟩
   ·rw[qU q3]
    by_cases q4:w.Letter=72
    ·rw[qV (.inr q4)]at h1
     rw[qV q4]
     simp at h1
     exact⟨a1,a2,a3,a4,a5,a6,a7,h1.1,b4,h1.2⟩
    ·rw[qU q4];exact⟨a1,a2,a3,a4,a5,a6,a7,a8⟩
theorem rgl_fold:∀(l:List aC) (seen:List Int) (s:ao),rglS s→jx seen l=true→(∀w∈l,okW w)→rglS (l.foldl putW s)
 | [],_,s,h,_,_=>h
 | w::l,seen,s,h,hg,ho=>by
  simp only[jx,zG,bne_iff_ne,ne_eq]at hg
  exact rgl_fold l (clsW w::seen) (putW s w) (rgl_put h hg.1.1.1 hg.1.1.2 (ho w (by simp))) hg.2 (λx hx=>ho x (by simp[hx]))
theorem valid_of_checked(ht:t.Lengths.length≤1000)(h:eg t p=some 0):iu t=some 0∧inR p:=by
 obtain⟨e,he,h2⟩:=inp_checked_tot t p ht
 rw[he]at h
 injection h with h
 refine⟨?_,h2 h⟩
 subst h
 unfold eg at he
 (first | rw[show aw.mk t.Work t.Lengths=t from rfl]at he | skip)
 obtain⟨e,hv,_⟩:=oj t ht
 rw[hv,aa]at he
 grind
theorem n8{b:ae}(hv:eU b)(hl:b.Words.length≤1000)(hp:inR p)(hf:i64P s.Feed)(hnc:cycB s.Motion=false):jg s c b p=some (posV s c b p):=by
 unfold jg posV
 (first | rw[show ae.mk b.Skip b.Words b.Comment=b from rfl,inp_target_eq hv hl hp,aa] | rw[inp_target_eq hv hl hp,aa])
 by_cases m0:s.Motion=0
 ·rw[qV (by simp_all),qV m0];rfl
 rw[qU (by simp_all),qU m0]
 by_cases m1:s.Motion=1000
 ·rw[qV (by simp_all),qV m1];rfl
 rw[qU (by simp_all),qU m1]
 (unfold ib;try delta jV)
 rw[aa]
 have mc:¬cycB s.Motion=true:=by simp_all
 rw[qU (show ¬((s.Motion==81000)||((s.Motion==82000)||(s.Motion==83000)))=true from mc),qU mc]
 obtain⟨op,om⟩:=mvV_ok (s:=s) hv hp hf
 have hb1:=pO hv 73
 have hb2:=pO hv 74
 obtain⟨p1,p2,p3⟩:=hp
 have harc:inp_arc s b p (tgtW s b p)=some (if movV p (mvV s b p)=0 then ((arcL p (mvV s b p)).map λq=>⟨q,s.Feed⟩,0)else ([],movV p (mvV s b p))):=by
  (unfold inp_arc;try delta jB jC rF gF)
  rw[inp_value_eq b 73 hl,aa,inp_value_eq b 74 hl,aa]
  have hk:(if (s.Motion==3000)=true then some (4:Int)else some 3)=some (if s.Motion=3000 then 4 else 3):=by
   grind
  rw[hk,aa,aE (n:=p.X+(ji b 73).1) (by omega) (by omega),aE (n:=p.Y+(ji b 74).1) (by omega) (by omega)]
  show ac (ip_Arc p (mvV s b p)) _=_
  by_cases z:movV p (mvV s b p)=0
  ·have ok:=arc_ok (mvV_kind s b p) z
   rw[ip_Arc_eq ok op om z,aa,qV z,map_loop (λe:ag=>ar.mk e s.Feed) _ (Nat.le_trans (arcL_len ok) (by decide)),aa]
  ·rw[ip_Arc_bad (mvV_kind s b p) op om z,aa,qU z]
   rfl
 show ac (inp_arc s b p (tgtW s b p)) _=_
 rw[harc,aa]
 by_cases z:movV p (mvV s b p)=0
 ·rw[qV z,qV z];rfl
 ·rw[qU z,qU z];rfl
theorem inp_Step_nc   {b:ae}   (hb : okS b) (ht : t.Lengths.length ≤ 1000) (hF : i64P s.Feed) (hchk : eg t p = some 0) (hv0 : iK b) (hnc : cycB (b.Words.foldl putW s).Motion = false) :
    kH s c b t p=some (pY s c b t p):=by
  obtain⟨hu,hl,hc⟩:=hb
  have hok:okB b:=⟨hu,by omega⟩
  obtain⟨ew,hbk,hew⟩:=bk_Valid_vp b hl hc
  have hbad:(ac (kJ b) λ(y2:Int)=>if (y2 != 0)=true then some true else ac (nH b) λ(y3:Int)=>if (y3 != 0)=true then some true else ac (mV b) λ(y4:Bool)=>some (!y4))=some (!(decide (ew=0)&&(jx [] b.Words&&b.Words.all knW))):=by
    rw[hbk,aa]
    by_cases q:ew=0
    · rw[qU (by simpa using q),qY q,Bool.true_and,md_Check_eq b hu (by omega),aa]
      cases jx [] b.Words<;>simp_all[inp_known_eq]
    simp_all
  (unfold kH;try delta jB jC jR rF jV gF iF)
  simp only[unit_s]
  rw[hchk,aa,qU (show ¬(((0:Int) != 0)=true) by decide),hbad,aa]
  unfold pY
  by_cases hv:iK b
  · rw[qV hv]
    obtain⟨v1,v2,v3⟩:=hv
    have e0:ew=0:=by
      simp_all
    rw[e0,v2,v3,qY rfl,qU (show ¬((!(true&&(true&&true)))=true) by decide),md_Apply_eq s b hok,aa,qV v2]
    have hF1:=fold_feed b.Words s hF (λw hw=>by
      have:=v1.2.2.1 w hw
      grind[okW,i64P])
    generalize b.Words.foldl putW s=s1 at hF1 hnc
    dsimp only
    rw[qU (show ¬(((0:Int) != 0)=true) by decide)]
    have cI:∀k,ib k=some (cycB k):=λ_=>rfl
    simp only[cI,aa]
    obtain⟨c1,hc1⟩:∃c1,(if cycB s1.Motion=true then c else zC)=c1:=⟨_,rfl⟩
    have i1:(if (!cycB s1.Motion)=true then some (av.mk 0 0 0 0 0 0 false)else some (av.mk c.Code c.R c.Z c.Q c.Rate c.Initial c.High))=some c1:=by
      rw[←hc1]
      cases cycB s1.Motion<;>rfl
    have a1:kq b [88,89,90,73,74,81,82]=some (hasW b [88,89,90,73,74,81,82]):=inp_has_eq b _ hl (by decide)
    have a2:kq b [73,74]=some (hasW b [73,74]):=inp_has_eq b _ hl (by decide)
    have a3:kq b [81,82]=some (hasW b [81,82]):=inp_has_eq b _ hl (by decide)
    rw[i1,aa,hc1]
    simp only[a1,a2,a3,aa]
    cases hXYZ:hasW b [88,89,90,73,74,81,82]with
    | false=>rfl
    | true =>
      rw[qU (show ¬((!true)=true) by decide),qV rfl,ijqr,aa]
      unfold moveP
      cases hbad2:((hasW b [73,74]&&(s1.Motion != 2000)&&(s1.Motion != 3000))||(hasW b [81,82]&&!(cycB s1.Motion)))with
      | true=>rfl
      | false =>
        rw[qU (show ¬(false=true) by decide),qU (show ¬(false=true) by decide)]
        cases hst:((s1.Motion==80000)||((s1.Motion != 0)&&(decide (s1.Feed≤0))))with
        | true=>rfl
        | false =>
          rw[qU (show ¬(false=true) by decide),qU (show ¬(false=true) by decide)]
          have hn:(if (s1.Length==43000)=true then some (IntKind.i64.wrap (zW s1.Offset 1000))else some 0)=some (numP s1):=by
            unfold numP
            grind
          (first | rw[hn,aa,show aw.mk t.Work t.Lengths=t from rfl,workV_eq ht,aa] | rw[hn,aa,workV_eq ht,aa])
          have hin:=workV_in ht s1.Work (numP s1) p
          generalize ng t s1.Work (numP s1) p=wp at hin ⊢
          by_cases w0:wp.2=0
          · (first | rw[qU (show ¬((wp.2 != 0)=true) by simp_all),qU (show ¬(wp.2≠0) by omega),show ae.mk b.Skip b.Words b.Comment=b from rfl,n8 v1 hl (hin w0) hF1 hnc,aa] | rw[qU (show ¬((wp.2 != 0)=true) by simpa using w0),qU (show ¬(wp.2≠0) by simpa using w0),n8 v1 hl (hin w0) hF1 hnc,aa])
            have hlenV:=posV_len s1 c1 b wp.1
            generalize posV s1 c1 b wp.1=pv at hlenV ⊢
            obtain⟨fl,d,e⟩:=pv
            dsimp only at hlenV ⊢
            by_cases e0:e=0
            · rw[qU (show ¬((e != 0)=true) by simp_all),qU (show ¬(e≠0) by omega)]
              rw[run_fin t s1.Work (numP s1) (toolP s1) 0 (λe=>failP e) (by grind)]
              · cases runM t s1.Work (numP s1) (toolP s1) 0 fl ([],p)<;>rfl
              · intro j x v hv3
                rw[machV_eq ht,aa]
                by_cases z:(lq t s1.Work (numP s1) x.at_).2=0
                · rw[qU (show ¬(((lq t s1.Work (numP s1) x.at_).2 != 0)=true) by simpa using z),qU (show ¬((lq t s1.Work (numP s1) x.at_).2≠0) by simpa using z)]
                  unfold addM posEq
                  rw[br (by omega),aX]
                  cases (((lq t s1.Work (numP s1) x.at_).1.X==v.2.X)&&(((lq t s1.Work (numP s1) x.at_).1.Y==v.2.Y)&&((lq t s1.Work (numP s1) x.at_).1.Z==v.2.Z)))<;>rfl
                · rw[qV (show ((lq t s1.Work (numP s1) x.at_).2 != 0)=true by simpa using z),qV (show (lq t s1.Work (numP s1) x.at_).2≠0 by simpa using z)]
                  rfl
            · rw[qV (show (e != 0)=true by simp_all),qV e0]
              rfl
          · rw[qV (show (wp.2 != 0)=true by simp_all),qV w0]
            rfl
  simp_all
end Go.Proofs.YtphbhdoljnokkaaGreatDoor
