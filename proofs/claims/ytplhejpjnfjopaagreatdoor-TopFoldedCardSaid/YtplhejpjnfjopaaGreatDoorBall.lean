/-
  Bx, Bcg, Pmo, Pkn, Pqt, Puw, Pmp in one text.
-/
import Derived.Test.YtplhejpjnfjopaaGreatDoorAall
import Derived.Test.YtplhejpjnfjopaaGreatDoorMB
import Derived.Test.YtplhejpjnfjopaaGreatDoorPz
import Derived.Test.YtplhejpjnfjopaaGreatDoorGog
import Derived.Lib.IndexLaws
import Derived.Test.YtplhejpjnfjopaaGreatDoorMwe
open Bool renaming false_eq_true → zA,eq_iff_iff → zF,and_eq_true → zG,not_false → zR,not_true → zW,true_and → kX
open List renaming length_append → zB,length_cons → zD,append_nil → zE,all_cons → zI,cons_append → zK,flatMap_append → zL,length_singleton → zM,takeWhile_append_dropWhile → zN,flatMap_cons → zO,all_append → zP,drop_eq_getElem_cons → zQ,all_eq_true → zT,takeWhile_cons → zU,dropWhile_cons → zV,flatMap_nil → zZ,take_length → kN,nil_append → kP,length_nil → kR,replicate → kU,drop_drop → kV,append_assoc → kW
open Int renaming toNat_natCast → zH,tdiv_eq_ediv_of_nonneg → kO
open Nat renaming lt_or_ge → zJ,mul_le_mul_right → zX,pow_le_pow_right → zY,eq_or_lt_of_le → kT,lt_succ_self → kY
open Option renaming getD_some → kZ
namespace Go.Proofs.YtplhejpjnfjopaaGreatDoor
open Go.RowKit
def fewP(l:List aa)(n:Int):Prop:=(l.length:Int)≤n∧∀x∈l,x.Words.length≤20∧x.Comment.length≤120
theorem r41_Few_totB(l:List aa)(n:Int)(hn:n≤1000):Tot (r41_Few l n) (λb=>b=true→fewP l n):=by
 unfold r41_Few
 refine Tot.ite (λ_=>.ok (λq=>by cases q)) (λh=>?_)
 have hl:(l.length:Int)≤n:=by simpa using h
 refine Tot.bindX (E:=λ_=>fewP l n) (TotX.of (Tot.mono (E:=λx=>(x=.ret false)∨(x=.go ()∧fewP l n)) ?_ ?_)) (λx hx=>.ok (λ_=>hx))
 ·refine Tot.guard (aZ (by omega)) (Tot.range (λi _=>∀(k:Nat) x,k<i→l[k]? = some x→x.Words.length≤20∧x.Comment.length≤120) _ (λk x q=>by omega) (λi x v hx hr=>?_) (λv hr=>.ok (.inr ⟨rfl,hl,λx hx=>?_⟩)))
  ·refine TotX.ite (λ_=>.ret (.inl rfl)) (λh2=>.go (λk y hk hy=>?_))
   simp at h2
   rcases zJ k i with q | q
   ·exact hr k y q hy
   ·obtain rfl:k=i:=by omega
    rw[hx]at hy;injection hy with hy;subst hy
    omega
  ·obtain⟨k,hk⟩:=List.mem_iff_getElem?.1 hx
   exact hr k x (ao hk) hk
 ·rintro x (rfl | ⟨rfl,h3⟩)
  ·exact λq=>by cases q
  ·exact h3
set_option linter.unusedVariables false
set_option linter.unusedSimpArgs false
def fm(l:List aw)(c:Int):List Int:=(l.filter λw=>w.Letter==c).map (·.Value)
def findV(l:List aw)(c:Int):Int×Bool:=match l.find? (λw=>w.Letter==c)with | some w=>(w.Value,true) | none=>(0,false)
theorem bk_Find_eqB(b:aa)(c:Int)(hb:b.Words.length≤1000000):eN b c=some (findV b.Words c):=by
 unfold eN findV
 rw[aZ (by omega),aO,range_find (p:=λw:aw=>w.Letter==c) (e:=λw=>(w.Value,true)) _ _ (λi x=>rfl)]
 cases b.Words.find? (λw=>w.Letter==c)with
 | none=>rfl
 | some w=>rfl
theorem codes_foldB(c:Int):∀(l:List aw) (o:List Int),l.foldl (λ(v:List Int) (w:aw)=>if w.Letter==c then v++[w.Value]else v) o=o++fm l c
 | [],o=>by simp[fm]
 | w::l,o=>by
  rw[List.foldl_cons,codes_foldB c l]
  unfold fm
  cases h:(w.Letter==c)with
  | true=>simp[h]
  | false=>simp[h]
theorem codesV_len(l:List aw)(c:Int):(fm l c).length≤l.length:=by
 unfold fm
 rw[List.length_map]
 exact List.length_filter_le _ _
theorem fq(b:aa)(c:Int)(hb:b.Words.length≤1000000):dQ b c=some (fm b.Words c):=by
 unfold dQ
 rw[aZ (by omega),aO,gR (g:=λ(v:List Int) (w:aw)=>if w.Letter==c then v++[w.Value]else v) (R:=λi v=>v.length≤i) (L:=b.Words) ?_ b.Words 0 [] rfl (by simp),codes_foldB]
 ·rfl
 ·intro i x v hx hr
  have hlt:=ao hx
  cases h:(x.Letter==c)with
  | true=>simp only[if_true];rw[bd (by omega),aO,al];exact⟨rfl,by simp;omega⟩
  | false=>exact⟨rfl,by simp;omega⟩
theorem words_tot(l m:List aw)(hl:l.length≤1000000):Tot (bu l m) (λb=>b=decide (l=m)):=by
 unfold bu
 refine Tot.ite (λh=>.ok ?_) (λh=>?_)
 ·simp at h
  exact (decide_eq_false (λq=>h (by rw[q]))).symm
 ·have hlm:l.length=m.length:=by simp at h;omega
  refine Tot.bindX (E:=λ_=>l=m) (TotX.of (Tot.mono (E:=λx=>(x=.ret false∧l≠m)∨(x=.go ()∧l=m)) ?_ ?_)) (λx hx=>.ok (by rw[decide_eq_true hx]))
  ·refine Tot.guard (aZ (by omega)) (Tot.range (λi _=>∀(k:Nat),k<i→l[k]? = m[k]?) _ (λk q=>by omega) (λi x v hx hr=>?_) (λv hr=>.ok (.inr ⟨rfl,?_⟩)))
   ·have hlt:=ao hx
    obtain⟨y,hy,hy2⟩:=gt_ok' (l:=m) (i:=(i:Int)) (by omega) (by omega)
    rw[hy,al]
    simp only[zH]at hy2
    refine TotX.ite (λh2=>.ret (.inl ⟨rfl,λq=>?_⟩)) (λh2=>.go (λk hk=>?_))
    ·subst q
     rw[hx]at hy2;injection hy2 with hy2;subst hy2
     simp at h2
    ·rcases zJ k i with q | q
     ·exact hr k q
     ·obtain rfl:k=i:=by omega
      rw[hx,hy2]
      obtain⟨x1,x2⟩:=x;obtain⟨y1,y2⟩:=y
      simp at h2
      rw[h2.1,h2.2]
   ·apply List.ext_getElem?
    intro k
    rcases zJ k l.length with q | q
    ·exact hr k q
    ·rw[List.getElem?_eq_none q,List.getElem?_eq_none (by omega)]
  ·rintro x (⟨rfl,h3⟩|⟨rfl,h3⟩)
   ·exact (decide_eq_false h3).symm
   ·exact h3
theorem equal_eq(a b:aa)(ha:a.Words.length≤1000000):bk_Equal a b=some (decide (a=b)):=by
 unfold bk_Equal
 obtain⟨e,he,rfl⟩:=words_tot a.Words b.Words ha
 rw[he]
 obtain⟨a1,a2,a3⟩:=a
 obtain⟨b1,b2,b3⟩:=b
 simp only
 by_cases h1:a1=b1
 ·subst h1
  by_cases h3:a3=b3
  ·subst h3
   by_cases h2:a2=b2
   ·subst h2;simp
   ·simp[h2]
  ·simp[h3]
 ·simp[h1]
def isD(c:UInt8):Bool:=decide (48≤c.toNat)&&decide (c.toNat≤57)
def dv(c:UInt8):Nat:=c.toNat-48
def numA(a:Nat)(l:List UInt8):Nat:=l.foldl (λa c=>10*a+dv c) a
def num(l:List UInt8):Nat:=numA 0 l
theorem isD_iff{c:UInt8}:isD c=true↔48≤c.toNat∧c.toNat≤57:=by simp[isD]
theorem numA_cons(a:Nat)(c:UInt8)(l:List UInt8):numA a (c::l)=numA (10*a+dv c) l:=by unfold numA;rw[List.foldl_cons]
theorem numA_append(a:Nat)(l m:List UInt8):numA a (l++m)=numA (numA a l) m:=by simp[numA,List.foldl_append]
theorem pow10_pos(n:Nat):1≤10 ^ n:=Nat.pos_of_ne_zero (by simp)
theorem numA_eq(l:List UInt8):∀a:Nat,numA a l=a*10 ^ l.length+num l:=by
 induction l with
 | nil=>intro a;simp[numA,num]
 | cons c l ih =>
  intro a
  show numA (10*a+dv c) l=a*10 ^ (l.length+1)+numA (10*0+dv c) l
  rw[ih (10*a+dv c),ih (10*0+dv c),Nat.pow_succ,Nat.add_mul,Nat.mul_zero,Nat.zero_add,←Nat.mul_assoc,Nat.mul_assoc 10 a]
  omega
theorem numA_ge(l:List UInt8)(a:Nat):a≤numA a l:=by
 rw[numA_eq]
 have:=Nat.le_mul_of_pos_right a (pow10_pos l.length)
 omega
theorem num_snoc(l:List UInt8)(c:UInt8):num (l++[c])=10*num l+dv c:=by
 unfold num;rw[numA_append];rfl
theorem dv_lt{c:UInt8}(h:isD c=true):dv c<10:=by
 have:=isD_iff.1 h
 unfold dv;omega
theorem num_lt:∀(l:List UInt8),l.all isD=true→num l<10 ^ l.length
 | [],_=>by simp[num,numA]
 | c::l,h=>by
  simp only[zI,zG]at h
  have h1:=num_lt l h.2
  have h2:=dv_lt h.1
  rw[show num (c::l)=numA (10*0+dv c) l from rfl,numA_eq,zD,Nat.pow_succ]
  have:(10*0+dv c)*10 ^ l.length≤9*10 ^ l.length:=zX _ (by omega)
  omega
theorem ofNat_toNat{r:Nat}(h:r<208):(UInt8.ofNat (48+r)).toNat=48+r:=by
 rw[UInt8.toNat_ofNat']
 omega
theorem dv_of{r:Nat}(h:r<10):dv (UInt8.ofNat (48+r))=r:=by unfold dv;rw[ofNat_toNat (by omega)];omega
theorem isD_of{r:Nat}(h:r<10):isD (UInt8.ofNat (48+r))=true:=by rw[isD_iff,ofNat_toNat (by omega)];omega
theorem dd_small{u:Nat}(h:u<10):Lib.decDigits u=[UInt8.ofNat (48+u)]:=by rw[Lib.decDigits,dif_pos h]
theorem dd_big{u:Nat}(h:¬u<10):Lib.decDigits u=Lib.decDigits (u / 10)++[UInt8.ofNat (48+u % 10)]:=by conv=>lhs;rw[Lib.decDigits,dif_neg h]
theorem dd_facts:∀(n u:Nat),u<n→(Lib.decDigits u).all isD=true∧num (Lib.decDigits u)=u∧Lib.decDigits u≠[]∧(u≠0→(Lib.decDigits u).head?≠some 48)
 | 0,u,h=>by omega
 | n+1,u,h=>by
  by_cases hs:u<10
  ·rw[dd_small hs]
   refine⟨by simp only[zI,List.all_nil,isD_of hs,Bool.and_true],?_,by simp,λh0=>?_⟩
   ·show 10*0+dv _=u
    rw[dv_of hs];omega
   ·simp only[List.head?_cons,ne_eq,Option.some.injEq]
    intro e
    have:=congrArg UInt8.toNat e
    rw[ofNat_toNat (by omega)]at this
    have h48:(48:UInt8).toNat=48:=rfl
    omega
  ·rw[dd_big hs]
   obtain⟨h1,h2,h3,h4⟩:=dd_facts n (u / 10) (by omega)
   refine⟨by simp only[zP,zI,List.all_nil,h1,isD_of (Nat.mod_lt u (by omega:0<10)),Bool.and_true],?_,by simp,λ_=>?_⟩
   ·rw[num_snoc,h2,dv_of (Nat.mod_lt _ (by omega))];omega
   ·cases hd:Lib.decDigits (u / 10)with
    | nil=>exact absurd hd h3
    | cons c r =>
     have:=h4 (by omega)
     rw[hd]at this
     simpa using this
theorem dd_dig(u:Nat):(Lib.decDigits u).all isD=true:=(dd_facts _ u (kY u)).1
theorem dd_num(u:Nat):num (Lib.decDigits u)=u:=(dd_facts _ u (kY u)).2.1
theorem dd_ne(u:Nat):Lib.decDigits u≠[]:=(dd_facts _ u (kY u)).2.2.1
theorem dd_head{u:Nat}(h:u≠0):(Lib.decDigits u).head?≠some 48:=(dd_facts _ u (kY u)).2.2.2 h
def canW(l:List UInt8):Prop:=l.all isD=true∧l≠[]∧(1<l.length→l.head?≠some 48)
theorem dd_can(u:Nat):canW (Lib.decDigits u):=by
 refine⟨dd_dig u,dd_ne u,λh=>?_⟩
 by_cases h0:u=0
 ·subst h0
  rw[dd_small (by omega)]at h
  simp at h
 ·exact dd_head h0
theorem num_pos{l:List UInt8}(h:l.all isD=true)(hne:l≠[])(hh:l.head?≠some 48):10 ^ (l.length-1)≤num l:=by
 cases l with
 | nil=>exact absurd rfl hne
 | cons c l =>
  simp only[zI,zG]at h
  simp only[List.head?_cons,ne_eq,Option.some.injEq]at hh
  have h1:=isD_iff.1 h.1
  have h2:c.toNat≠48:=λe=>hh (UInt8.toNat_inj.1 e)
  rw[show num (c::l)=numA (10*0+dv c) l from rfl,numA_eq,zD,Nat.add_sub_cancel]
  have:1*10 ^ l.length≤(10*0+dv c)*10 ^ l.length:=zX _ (by unfold dv;omega)
  omega
def fr3(a b c:UInt8):List UInt8:=if c=48 then (if b=48 then (if a=48 then []else [a])else [a,b])else [a,b,c]
theorem trim3(a b c:UInt8):Lib.trimRightB [a,b,c] 48=fr3 a b c:=by
 unfold Lib.trimRightB fr3
 by_cases hc:c=48
 ·by_cases hb:b=48
  ·by_cases ha:a=48
   ·simp[hc,hb,ha]
   ·simp[hc,hb,ha]
  ·simp[hc,hb]
 ·simp[hc]
def d3(r:Nat):UInt8×UInt8×UInt8:=(UInt8.ofNat (48+r / 100),UInt8.ofNat (48+r / 10 % 10),UInt8.ofNat (48+r % 10))
theorem dd_1000{r:Nat}(h:r<1000):(Lib.decDigits (1000+r)).drop 1=[(d3 r).1,(d3 r).2.1,(d3 r).2.2]:=by
 rw[dd_big (by omega),dd_big (by omega),dd_big (by omega),dd_small (by omega)]
 simp only[kW,zK,kP,List.drop_succ_cons,List.drop_zero,d3]
 rw[show (1000+r) / 10 / 10 % 10=r / 100 by omega,show (1000+r) / 10 % 10=r / 10 % 10 by omega,show (1000+r) % 10=r % 10 by omega]
def frac(r:Nat):List UInt8:=fr3 (d3 r).1 (d3 r).2.1 (d3 r).2.2
def txtU(u:Nat):List UInt8:=Lib.decDigits (u / 1000)++(if u % 1000=0 then []else 46::frac (u % 1000))
def txtV(n:Int):List UInt8:=(if n<0 then [45]else [])++txtU n.natAbs
theorem fG{a b:List UInt8}(h:a.length+b.length≤9223372036854775807):okStr a b=true:=decide_eq_true h
theorem fmtU(u:Nat)(h:u<18446744073709551616):cw (u:Int) 10=some (Lib.decDigits u):=by
 unfold cw
 rw[show (decide ((0:Int)≤(u:Int)∧(u:Int)<18446744073709551616)&&((10:Int)==10))=true by simp;omega,aO,zH]
theorem dd_len(u:Nat)(h:u<18446744073709551616):(Lib.decDigits u).length≤20:=by
 rcases zJ (Lib.decDigits u).length 21 with q | q
 ·omega
 ·exfalso
  by_cases h0:u=0
  ·subst h0
   rw[dd_small (by omega)]at q
   simp at q
  ·have h1:=num_pos (dd_dig u) (dd_ne u) (dd_head h0)
   rw[dd_num]at h1
   have h2:10 ^ 20≤10 ^ ((Lib.decDigits u).length-1):=zY (by omega) (by omega)
   omega
theorem trimR(s:List UInt8)(h:s.length≤9223372036854775807):dD s [48]=some (Lib.trimRightB s 48):=by
 show aE (decide ((48:UInt8).toNat<128)&&decide (s.length≤9223372036854775807)) _=_
 rw[show (decide ((48:UInt8).toNat<128)&&decide (s.length≤9223372036854775807))=true by simp;omega,aO]
theorem fr3_len(a b c:UInt8):(fr3 a b c).length≤3:=by
 unfold fr3;split
 ·split
  ·split<;>simp
  ·simp
 ·simp
theorem abs_wrap (n : Int) (h1 : -9223372036854775808 ≤ n) (h2 : n ≤ 9223372036854775807) : (if (decide (n < 0)) = true then
        some (IntKind.u64.wrap (0-(IntKind.u64.wrap n)),([45]:List UInt8))
      else
        some (IntKind.u64.wrap n,[]))=some ((n.natAbs:Int),if n<0 then [45]else []):=by
  by_cases hn:n<0
  · rw[decide_eq_true hn,if_pos rfl,if_pos hn,wrap_u64,wrap_u64]
    congr 2
    omega
  · rw[decide_eq_false hn,if_neg (by simp),if_neg hn,wrap_u64]
    congr 2
    omega
theorem bk_Text_eq(n:Int)(h1:-9223372036854775808≤n)(h2:n≤9223372036854775807):bk_Text n=some (txtV n):=by
 unfold bk_Text
 rw[abs_wrap n h1 h2,al]
 obtain⟨u,hu⟩:∃u,u=n.natAbs:=⟨_,rfl⟩
 obtain⟨sg,hsg⟩:∃sg:List UInt8,sg=if n<0 then [45]else []:=⟨_,rfl⟩
 have hu2:u≤9223372036854775808:=by omega
 have hsl:sg.length≤1:=by rw[hsg];split<;>simp
 unfold txtV txtU
 rw[←hu,←hsg]
 simp only
 have e1:IntKind.u64.wrap (Int.tdiv (u:Int) 1000)=((u / 1000:Nat):Int):=by
  rw[wrap_u64,kO (by omega)];omega
 have e2:Int.tmod (u:Int) 1000=((u % 1000:Nat):Int):=by
  rw[Int.tmod_eq_emod_of_nonneg (by omega)];omega
 have hl:=dd_len (u / 1000) (by omega)
 rw[e1,fmtU (u / 1000) (by omega),al,fG (by omega),aO,e2]
 by_cases hr:u % 1000=0
 ·rw[hr];simp
 ·rw[decide_eq_true (show ((u % 1000:Nat):Int)>0 by omega),if_pos rfl,if_neg hr]
  have e3:IntKind.u64.wrap (1000+((u % 1000:Nat):Int))=((1000+u % 1000:Nat):Int):=by rw[wrap_u64];omega
  have hr2:u % 1000<1000:=Nat.mod_lt _ (by omega)
  have hd:=dd_1000 hr2
  have hl2:=dd_len (1000+u % 1000) (by omega)
  rw[e3,fmtU _ (by omega),al]
  have hc:cutF (Lib.decDigits (1000+u % 1000)) 1=some ((Lib.decDigits (1000+u % 1000)).drop 1):=by
   unfold cutF
   rw[if_neg]
   ·rfl
   ·have:=List.length_pos_iff.2 (dd_ne (1000+u % 1000))
    omega
  have hf:=fr3_len (d3 (u % 1000)).1 (d3 (u % 1000)).2.1 (d3 (u % 1000)).2.2
  rw[hc,al,trimR _ (by simp;omega),al,hd,trim3,fG (by simp;omega),aO,fG (by simp;omega),aO]
  simp[frac]
def strip:List UInt8→Bool×List UInt8
 | []=>(false,[])
 | c::r=>if c=45 then (true,r)else (false,c::r)
theorem strip_cons(c:UInt8)(r:List UInt8):strip (c::r)=if c=45 then (true,r)else (false,c::r):=rfl
theorem strip_len(s:List UInt8):(strip s).2.length≤s.length:=by
 cases s with
 | nil=>simp[strip]
 | cons c r=>rw[strip_cons];split<;>simp
def cutV(l:List UInt8):List UInt8×List UInt8×Bool:=(l.takeWhile (· != 46),(l.dropWhile (· != 46)).drop 1,l.contains 46)
def zer(k:Nat):List UInt8:=kU k 48
def digB(l:List UInt8):Bool:=l.all isD&&!l.isEmpty
def badP(neg:Bool)(body p:List UInt8)(pt:Bool):Bool:=(pt&&(!digB p||(decide (3<p.length)||p.getLast? == some 48)))||(neg&&body==[48])
def badV(neg:Bool)(body w p:List UInt8)(pt:Bool):Bool:=!digB w||((decide (1<w.length)&&w.head? == some 48)||badP neg body p pt)
def valN(neg:Bool)(w p:List UInt8):Int×Int:=if w.length>10 then (0,11)else if num (w++p++zer (3-p.length))>1000000000000 then (0,11)else (if neg=true then -(num (w++p++zer (3-p.length)):Int)else num (w++p++zer (3-p.length)),0)
def valV(s:List UInt8):Int×Int :=
 if badV (strip s).1 (strip s).2 (cutV (strip s).2).1 (cutV (strip s).2).2.1 (cutV (strip s).2).2.2=true then (0,2)else valN (strip s).1 (cutV (strip s).2).1 (cutV (strip s).2).2.1
theorem cutPre(s:List UInt8)(hs:s.length≤1000000):cT s [45]=some ((strip s).2,(strip s).1):=by
 unfold cT ct cr
 cases s with
 | nil=>rfl
 | cons c r =>
  have h1:decide (((c::r).length:Int)≥(([45]:List UInt8).length:Int))=true:=by simp;omega
  have h2:cutT (c::r) (([45]:List UInt8).length:Int)=some [c]:=by unfold cutT;rw[if_neg (by simp;omega)];rfl
  have h3:cutF (c::r) (([45]:List UInt8).length:Int)=some r:=by unfold cutF;rw[if_neg (by simp;omega)];rfl
  rw[h1,if_pos rfl,h2,al,al,al,h3]
  rw[strip_cons]
  by_cases hc:c=45
  ·subst hc;rfl
  ·rw[if_neg hc,show (([c]:List UInt8)==[45])=false by simpa using hc]
   rfl
theorem idx_facts:∀l:List UInt8,(Lib.indexByte l 46=-1∧l.takeWhile (· != 46)=l∧l.dropWhile (· != 46)=[]∧l.contains 46=false)∨(∃o:Nat,Lib.indexByte l 46=(o:Int)∧o<l.length∧l.take o=l.takeWhile (· != 46)∧l.drop o=l.dropWhile (· != 46)∧l.contains 46=true)
 | []=>.inl ⟨rfl,rfl,rfl,rfl⟩
 | b::l=>by
  unfold Lib.indexByte
  by_cases hb:b=46
  ·subst hb
   exact .inr ⟨0,rfl,by simp,rfl,by simp,by simp⟩
  ·have hb1:(b==46)=false:=by simpa using hb
   have hb2:(b != 46)=true:=by simp[hb]
   have hb3:((46:UInt8)==b)=false:=by simpa using fun e=>hb e.symm
   rw[hb1]
   simp only[zA,if_false,zU,zV,hb2,if_true,List.contains_cons,hb3,Bool.false_or]
   rcases idx_facts l with⟨h1,h2,h3,h4⟩|⟨o,h1,h2,h3,h4,h5⟩
   ·left
    rw[h1,h2]
    exact⟨rfl,rfl,h3,h4⟩
   ·right
    have hne:((o:Int)==-1)=false:=by simp
    rw[h1,hne]
    refine⟨o+1,by simp,by simpa using h2,?_,by simpa using h4,h5⟩
    rw[List.take_succ_cons,h3]
theorem cutEq(s:List UInt8)(hs:s.length≤1000000):dw s [46]=some (cutV s):=by
 have hi:b9 s [46]=some (Lib.indexByte s 46):=by
  unfold b9
  by_cases he:s=[46]
  ·subst he;rfl
  ·have:(((([46]:List UInt8).length:Int)==0)||(([46]:List UInt8)==s))=false:=by
    simp
    exact λe=>he e.symm
   rw[this]
   rfl
 unfold dw du
 rw[hi,al]
 unfold cutV
 rcases idx_facts s with⟨h1,h2,h3,h4⟩|⟨o,h1,h2,h3,h4,h5⟩
 ·rw[h1,h2,h3,h4];rfl
 ·rw[h1,h5,←h3,←h4]
  have hw:IntKind.i64.wrap ((o:Int)+(([46]:List UInt8).length:Int))=((o+1:Nat):Int):=by
   simp only[zD,kR]
   rw[wrap_i64 (by omega) (by omega)];omega
  have hc1:cutT s (o:Int)=some (s.take o):=by unfold cutT;rw[if_neg (by omega),zH]
  have hc2:cutF s ((o+1:Nat):Int)=some (s.drop (o+1)):=by unfold cutF;rw[if_neg (by omega),zH]
  rw[decide_eq_true (show (o:Int)≥0 by omega),if_pos rfl,hc1,al,hw,hc2,al,al,kV]
theorem digs_contains(c:UInt8):([48,49,50,51,52,53,54,55,56,57]:List UInt8).contains c=isD c:=by
 have key:∀k,k<256→([48,49,50,51,52,53,54,55,56,57]:List UInt8).contains (UInt8.ofNat k)=(decide (48≤k)&&decide (k≤57)):=of_decide_eq_true (by kernel_rfl)
 have:=key c.toNat (UInt8.toNat_lt c)
 rw[UInt8.ofNat_toNat]at this
 rw[this];rfl
theorem dw_nil{p:UInt8→Bool}:∀{l:List UInt8},l.dropWhile p=[]↔∀x∈l,p x=true
 | []=>by simp
 | c::l=>by
  rw[zV]
  cases h:p c with
  | true=>rw[if_pos rfl,dw_nil];simp[h]
  | false=>simp[h]
theorem trim_nil(l cs:List UInt8)(p:UInt8→Bool)(hp:∀c,cs.contains c=p c):(Lib.trimS l cs==[])=l.all p:=by
 have hfun:(cs.contains ·)=p:=funext hp
 unfold Lib.trimS Lib.trimLeftS Lib.trimRightS
 rw[hfun]
 cases hall:l.all p with
 | true =>
  have:l.reverse.dropWhile p=[]:=by
   rw[dw_nil]
   intro x hx
   exact List.all_eq_true.1 hall x (by simpa using hx)
  rw[this];rfl
 | false =>
  cases hd:l.reverse.dropWhile p with
  | nil =>
   rw[dw_nil]at hd
   have:l.all p=true:=List.all_eq_true.2 λx hx=>hd x (by simpa using hx)
   rw[this]at hall;cases hall
  | cons c r =>
   have hc:p c=false:=by
    have:=List.head?_dropWhile_not p l.reverse
    rw[hd]at this
    simpa using this
   have:(List.dropWhile p (c::r).reverse)≠[]:=by
    intro e
    rw[dw_nil]at e
    have:=e c (by simp)
    rw[hc]at this;cases this
   cases hx:List.dropWhile p (c::r).reverse with
   | nil=>exact absurd hx this
   | cons a b=>rfl
theorem bk_digits_eq(l:List UInt8)(hl:l.length≤1000000):dV l=some (digB l):=by
 unfold dV digB
 cases l with
 | nil=>rfl
 | cons c r =>
  have h1:((c::r)==([]:List UInt8))=false:=rfl
  rw[h1]
  unfold jl
  rw[show (([48,49,50,51,52,53,54,55,56,57]:List UInt8).all (λc=>decide (c.toNat<128))&&(decide ((c::r).length≤9223372036854775807)&&decide (([48,49,50,51,52,53,54,55,56,57]:List UInt8).length<4294967281)))=true by
   simp only[zD]at hl ⊢
   simp;omega]
  simp only[zA,if_false,aO,al,trim_nil _ _ _ digs_contains,List.isEmpty_cons,zR,Bool.and_true]
theorem parse_eq:∀(l:List UInt8) (a:Nat),l.all isD=true→numA a l<1000000000000000000→Lib.parseUintM 18446744073709551615 a l=.ok (numA a l)
 | [],a,_,_=>rfl
 | c::l,a,h,hn=>by
  simp only[zI,zG]at h
  have hc:=isD_iff.1 h.1
  rw[numA_cons]at hn ⊢
  have hge:=numA_ge l (10*a+dv c)
  have hd:dv c=c.toNat-48:=rfl
  unfold Lib.parseUintM
  rw[if_pos hc,if_neg (by omega),if_neg (by omega),show a*10+(c.toNat-48)=10*a+dv c by omega]
  exact parse_eq l _ h.2 hn
theorem parseInt_eq(l:List UInt8)(h:l.all isD=true)(hne:l≠[])(hl:l.length≤17):dX l 10 64=some (num l:Int):=by
 have hn:=num_lt l h
 have hp:(10:Nat) ^ l.length≤10 ^ 17:=zY (by omega) hl
 have hm:=parse_eq l 0 h (show num l<_ by omega)
 unfold dX
 rw[show ((10:Int)==10&&((64:Int)==64&&decide (l.length≤9223372036854775806)))=true by simp;omega,aO]
 have key:Lib.parseIntB 64 l=.ok (num l:Int):=by
  cases l with
  | nil=>exact absurd rfl hne
  | cons c r =>
   simp only[zI,zG]at h
   have hc:=isD_iff.1 h.1
   unfold Lib.parseIntB
   simp only
   rw[if_neg (by omega)]
   unfold Lib.parseUintB
   rw[if_neg (by simp),show (2 ^ 64-1:Nat)=18446744073709551615 by rfl,hm]
   simp only
   have hx:numA 0 (c::r)=num (c::r):=rfl
   rw[if_neg (by omega),if_neg (by omega),if_neg (by omega),hx]
 rw[key]
theorem last_gt(p:List UInt8)(hp:p≠[])(hl:p.length≤1000000):∃c,gt p (IntKind.i64.wrap ((p.length:Int)-1))=some c∧p.getLast? = some c:=by
 have hpos:=List.length_pos_iff.2 hp
 rw[wrap_i64 (by omega) (by omega)]
 obtain⟨c,h1,h2⟩:=gt_ok' (l:=p) (i:=(p.length:Int)-1) (by omega) (by omega)
 refine⟨c,h1,?_⟩
 rw[List.getLast?_eq_getElem?,←h2]
 congr 1
 omega
theorem c48(c:UInt8):((c.toNat:Int)==48)=(c==48):=by
 rw[zF]
 simp only[beq_iff_eq]
 constructor
 ·intro h;exact UInt8.toNat_inj.1 (by have:(48:UInt8).toNat=48:=rfl;omega)
 ·intro h;subst h;rfl
theorem badP_eq (neg : Bool) (body p : List UInt8) (pt : Bool) (hl : p.length ≤ 1000000) : (if pt = true then
              bindO (dV p) λ(y105:Bool) =>
              if y105=true then
                if (decide ((p.length:Int)>3))=true then
                  some true
                else
                  bindO (gt p (IntKind.i64.wrap ((p.length:Int)-1))) λ(c106:UInt8) =>
                  if ((c106.toNat:Int)==48)=true then
                    some true
                  else
                    if neg=true then
                      some (body==[48])
                    else
                      some false
              else
                some true
            else
              if neg=true then
                some (body==[48])
              else
                some false)=some (badP neg body p pt):=by
  unfold badP
  cases pt with
  | false=>cases neg<;>simp
  | true =>
    rw[if_pos rfl,bk_digits_eq p hl,al]
    cases hd:digB p with
    | false=>simp
    | true =>
      rw[if_pos rfl]
      have hne:p≠[]:=by intro e;subst e;cases hd
      obtain⟨c,h1,h2⟩:=last_gt p hne hl
      rw[h1,al,h2,c48]
      have e3:decide ((p.length:Int)>3)=decide (3<p.length):=by
        rw[zF];simp only[decide_eq_true_eq];omega
      rw[e3]
      cases decide (3<p.length)<;>cases hc:(c==48)<;>cases neg<;>simp_all
theorem tw_len(p:UInt8→Bool)(l:List UInt8):(l.takeWhile p).length≤l.length∧(l.dropWhile p).length≤l.length:=by
 have h:=congrArg List.length (zN (p:=p) (l:=l))
 rw[zB]at h
 omega
theorem zer_dig(k:Nat):(zer k).all isD=true:=by
 unfold zer
 rw[zT]
 intro x hx
 rw[List.eq_of_mem_replicate hx]
 rfl
theorem bk_Value_eq(s:List UInt8)(hs:s.length≤100000):bk_Value s=some (valV s):=by
  unfold bk_Value valV
  rw[cutPre s (by omega),al]
  have hb:=strip_len s
  generalize strip s=st at *
  obtain⟨neg,body⟩:=st
  simp only at hb ⊢
  rw[cutEq body (by omega),al]
  have hw:=(tw_len (· != 46) body).1
  have hp:(cutV body).2.1.length≤body.length:=by
    have:=(tw_len (· != 46) body).2
    show ((body.dropWhile (· != 46)).drop 1).length≤_
    simp;omega
  have hpt:(cutV body).2.2=false→(cutV body).2.1=[]:=by
    intro h
    rcases idx_facts body with⟨_,_,h3,_⟩|⟨_,_,_,_,_,h5⟩
    · show (body.dropWhile (· != 46)).drop 1=[]
      rw[h3];rfl
    · have:(cutV body).2.2=true:=h5
      rw[this]at h;cases h
  have hw:(cutV body).1.length≤body.length:=hw
  generalize cutV body=cv at *
  obtain⟨w,p,pt⟩:=cv
  simp only at hw hp hpt ⊢
  rw[bk_digits_eq w (by omega),al]
  have hbad : ∀ (k : Bool → Option (Int × Int)), (bindO (if digB w = true then
        if (decide ((w.length:Int)>1))=true then
          bindO (gt w 0) λ(c104:UInt8) =>
          if ((c104.toNat:Int)==48)=true then
            some true
          else
            if pt=true then
              bindO (dV p) λ(y105:Bool) =>
              if y105=true then
                if (decide ((p.length:Int)>3))=true then
                  some true
                else
                  bindO (gt p (IntKind.i64.wrap ((p.length:Int)-1))) λ(c106:UInt8) =>
                  if ((c106.toNat:Int)==48)=true then
                    some true
                  else
                    if neg=true then
                      some (body==[48])
                    else
                      some false
              else
                some true
            else
              if neg=true then
                some (body==[48])
              else
                some false
        else
          if pt=true then
            bindO (dV p) λ(y107:Bool) =>
            if y107=true then
              if (decide ((p.length:Int)>3))=true then
                some true
              else
                bindO (gt p (IntKind.i64.wrap ((p.length:Int)-1))) λ(c108:UInt8) =>
                if ((c108.toNat:Int)==48)=true then
                  some true
                else
                  if neg=true then
                    some (body==[48])
                  else
                    some false
            else
              some true
          else
            if neg=true then
              some (body==[48])
            else
              some false
      else
        some true) k)=k (badV neg body w p pt):=by
    intro k
    rw[badP_eq neg body p pt (by omega)]
    unfold badV
    cases hd:digB w with
    | false=>rfl
    | true =>
      cases w with
      | nil=>cases hd
      | cons c r =>
        rw[if_pos rfl,show gt (c::r) 0=some c from rfl,al,c48]
        have e3:decide (((c::r).length:Int)>1)=decide (1<(c::r).length):=by
          rw[zF];simp only[decide_eq_true_eq];omega
        rw[e3]
        have e4:((c::r).head? == some 48)=(c==48):=rfl
        rw[e4]
        cases decide (1<(c::r).length)<;>cases (c==48)<;>simp
  rw[hbad]
  cases hv:badV neg body w p pt with
  | true=>rfl
  | false =>
    simp only[zA,if_false]
    unfold badV badP at hv
    simp only[Bool.or_eq_false_iff,Bool.not_eq_false']at hv
    obtain⟨hd,_,hv,_⟩:=hv
    have hdw:w.all isD=true∧w≠[]:=by
      unfold digB at hd
      simp only[zG]at hd
      exact⟨hd.1,λe=>by subst e;exact absurd hd.2 (by simp)⟩
    have hp3:p.all isD=true∧p.length≤3:=by
      cases pt with
      | false=>rw[hpt rfl];simp
      | true =>
        simp only[kX,Bool.or_eq_false_iff,Bool.not_eq_false',decide_eq_false_iff_not]at hv
        unfold digB at hv
        simp only[zG]at hv
        exact⟨hv.1.1,by omega⟩
    unfold valN
    have e1:decide ((w.length:Int)>10)=decide (w.length>10):=by
      rw[zF];simp only[decide_eq_true_eq];omega
    rw[e1]
    by_cases h10:w.length>10
    · rw[decide_eq_true h10,if_pos rfl,if_pos h10]
    · rw[decide_eq_false h10,if_neg (by simp),if_neg h10]
      have hz:cutF ([48,48,48]:List UInt8) (p.length:Int)=some (zer (3-p.length)):=by
        have:p.length=0∨p.length=1∨p.length=2∨p.length=3:=by omega
        rcases this with e | e | e | e<;>rw[e]<;>rfl
      have hall:(w++p++zer (3-p.length)).all isD=true:=by
        simp only[zP,hdw.1,hp3.1,zer_dig,Bool.and_self]
      have hlen:(w++p++zer (3-p.length)).length=w.length+3:=by simp[zer];omega
      have hlen2:(zer (3-p.length)).length=3-p.length:=by simp[zer]
      rw[fG (by omega),aO,hz,al,fG (by simp only[zB];omega),aO,parseInt_eq _ hall (by intro e;rw[e]at hlen;simp at hlen) (by omega),al]
      have hlt:=num_lt _ hall
      have hle:(10:Nat) ^ (w++p++zer (3-p.length)).length≤10 ^ 13:=zY (by omega) (by omega)
      generalize num (w++p++zer (3-p.length))=N at *
      by_cases hN:N>1000000000000
      · rw[decide_eq_true (show (N:Int)>1000000000000 by omega),if_pos rfl,if_pos hN]
      · rw[decide_eq_false (show ¬(N:Int)>1000000000000 by omega),if_neg (by simp),if_neg hN]
        cases neg with
        | true=>simp only[if_true,al];rw[wrap_i64 (by omega) (by omega),Int.zero_sub]
        | false=>rfl
theorem d3_num{r:Nat}(h:r<1000)(l:List UInt8):num (l++[(d3 r).1,(d3 r).2.1,(d3 r).2.2])=1000*num l+r:=by
 unfold d3
 rw[show l++[UInt8.ofNat (48+r / 100),UInt8.ofNat (48+r / 10 % 10),UInt8.ofNat (48+r % 10)]=((l++[UInt8.ofNat (48+r / 100)])++[UInt8.ofNat (48+r / 10 % 10)])++[UInt8.ofNat (48+r % 10)] by simp]
 rw[num_snoc,num_snoc,num_snoc,dv_of (by omega),dv_of (by omega),dv_of (by omega)]
 omega
theorem d3_zero{r:Nat}(h:r<1000)(h0:r≠0):¬((d3 r).1=48∧(d3 r).2.1=48∧(d3 r).2.2=48):=by
 rintro⟨e1,e2,e3⟩
 have:=d3_num h []
 rw[e1,e2,e3]at this
 simp[num,numA,dv]at this
 omega
theorem fr3_pad(a b c:UInt8):fr3 a b c++zer (3-(fr3 a b c).length)=[a,b,c]:=by
 unfold fr3
 by_cases hc:c=48
 ·by_cases hb:b=48
  ·by_cases ha:a=48
   ·simp[hc,hb,ha,zer,kU]
   ·simp[hc,hb,ha,zer,kU]
  ·simp[hc,hb,zer,kU]
 ·simp[hc,zer,kU]
theorem fr3_last(a b c:UInt8):(fr3 a b c).getLast?≠some 48:=by
 unfold fr3
 by_cases hc:c=48
 ·by_cases hb:b=48
  ·by_cases ha:a=48
   ·simp[hc,hb,ha]
   ·simp[hc,hb,ha]
  ·simp[hc,hb]
 ·simp[hc]
theorem fr3_ne(a b c:UInt8)(h:¬(a=48∧b=48∧c=48)):fr3 a b c≠[]:=by
 unfold fr3
 by_cases hc:c=48
 ·by_cases hb:b=48
  ·by_cases ha:a=48
   ·exact absurd ⟨ha,hb,hc⟩ h
   ·simp[hc,hb,ha]
  ·simp[hc,hb]
 ·simp[hc]
theorem fr3_dig(a b c:UInt8)(ha:isD a=true)(hb:isD b=true)(hc:isD c=true):(fr3 a b c).all isD=true:=by
 unfold fr3
 split
 ·split
  ·split<;>simp[ha]
  ·simp[ha,hb]
 ·simp[ha,hb,hc]
theorem d3_dig{r:Nat}(h:r<1000):isD (d3 r).1=true∧isD (d3 r).2.1=true∧isD (d3 r).2.2=true:=⟨isD_of (by omega),isD_of (by omega),isD_of (by omega)⟩
theorem dig_ne{c:UInt8}(h:isD c=true):c≠46∧c≠45:=by
 have:=isD_iff.1 h
 refine⟨λe=>?_,λe=>?_⟩
 ·subst e;have:(46:UInt8).toNat=46:=rfl;omega
 ·subst e;have:(45:UInt8).toNat=45:=rfl;omega
theorem tw_all:∀(w r:List UInt8),w.all isD=true→(r=[]∨∃q,r=46::q)→(w++r).takeWhile (· != 46)=w∧(w++r).dropWhile (· != 46)=r
 | [],r,_,hr=>by rcases hr with rfl | ⟨q,rfl⟩<;>simp
 | c::w,r,h,hr=>by
  simp only[zI,zG]at h
  have hc:(c != 46)=true:=by simpa using (dig_ne h.1).1
  obtain⟨h1,h2⟩:=tw_all w r h.2 hr
  simp only[zK,zU,zV,hc,if_true,h1,h2,and_self]
theorem cont_dig:∀(w:List UInt8),w.all isD=true→w.contains 46=false
 | [],_=>rfl
 | c::w,h=>by
  simp only[zI,zG]at h
  rw[List.contains_cons,cont_dig w h.2,show ((46:UInt8)==c)=false by simpa using fun e=>(dig_ne h.1).1 e.symm];rfl
theorem cutV_of(w p:List UInt8)(pt:Bool)(hw:w.all isD=true)(hp:pt=false→p=[]):cutV (w++(if pt=true then 46::p else []))=(w,p,pt):=by
 unfold cutV
 cases pt with
 | true =>
  obtain⟨h1,h2⟩:=tw_all w (46::p) hw (.inr ⟨p,rfl⟩)
  rw[if_pos rfl,h1,h2]
  simp
 | false =>
  obtain⟨h1,h2⟩:=tw_all w [] hw (.inl rfl)
  rw[if_neg (by simp),h1,h2,hp rfl,zE,cont_dig w hw];rfl
theorem strip_of(neg:Bool)(b:List UInt8)(h:b.head?≠some 45):strip ((if neg=true then [45]else [])++b)=(neg,b):=by
 cases neg with
 | true=>rfl
 | false =>
  cases b with
  | nil=>rfl
  | cons c r =>
   show strip (c::r)=_
   rw[strip_cons,if_neg]
   intro e;subst e;exact h rfl
theorem digB_of{l:List UInt8}(h:l.all isD=true)(hne:l≠[]):digB l=true:=by
 unfold digB
 rw[h]
 cases l with
 | nil=>exact absurd rfl hne
 | cons c r=>rfl
theorem txtU_form(u:Nat):txtU u=Lib.decDigits (u / 1000)++(if (decide (u % 1000≠0))=true then 46::(if u % 1000=0 then []else frac (u % 1000))else []):=by
 unfold txtU
 by_cases h:u % 1000=0
 ·rw[if_pos h,if_neg (by simp[h])]
 ·rw[if_neg h,if_pos (by simpa using h),if_neg h]
theorem val_txt(n:Int):valV (txtV n)=if n.natAbs>1000000000000 then (0,11)else (n,0):=by
 obtain⟨u,hu⟩:∃u,u=n.natAbs:=⟨_,rfl⟩
 have hw:=dd_can (u / 1000)
 obtain⟨f,hf⟩:∃f,f=if u % 1000=0 then []else frac (u % 1000):=⟨_,rfl⟩
 have hr2:u % 1000<1000:=Nat.mod_lt _ (by omega)
 have hform:=txtU_form u
 rw[←hf]at hform
 have hhead:(txtU u).head?≠some 45:=by
  rw[hform]
  cases hd:Lib.decDigits (u / 1000)with
  | nil=>exact absurd hd hw.2.1
  | cons c r =>
   have hc:isD c=true:=by
    have:=hw.1
    rw[hd]at this
    simp only[zI,zG]at this
    exact this.1
   simp only[zK,List.head?_cons,ne_eq,Option.some.injEq]
   exact (dig_ne hc).2
 have hst:strip (txtV n)=(decide (n<0),txtU u):=by
  unfold txtV
  rw[←hu]
  have:=strip_of (decide (n<0)) (txtU u) hhead
  simpa using this
 have hcut:cutV (txtU u)=(Lib.decDigits (u / 1000),f,decide (u % 1000≠0)):=by
  rw[hform]
  exact cutV_of _ _ _ hw.1 (λh=>by rw[hf,if_pos (by simpa using h)])
 have hfr:u % 1000≠0→f.all isD=true∧f≠[]∧f.length≤3∧f.getLast?≠some 48:=by
  intro h
  rw[hf,if_neg h]
  obtain⟨q1,q2,q3⟩:=d3_dig hr2
  exact⟨fr3_dig _ _ _ q1 q2 q3,fr3_ne _ _ _ (d3_zero hr2 h),fr3_len _ _ _,fr3_last _ _ _⟩
 have hbad:badV (decide (n<0)) (txtU u) (Lib.decDigits (u / 1000)) f (decide (u % 1000≠0))=false:=by
  unfold badV badP
  rw[digB_of hw.1 hw.2.1]
  have h1:(decide (1<(Lib.decDigits (u / 1000)).length)&&(Lib.decDigits (u / 1000)).head? == some 48)=false:=by
   by_cases q:1<(Lib.decDigits (u / 1000)).length
   ·have:=hw.2.2 q
    simp[this]
   ·simp[q]
  have h2:(decide (u % 1000≠0)&&(!digB f||(decide (3<f.length)||f.getLast? == some 48)))=false:=by
   by_cases q:u % 1000=0
   ·simp[q]
   ·obtain⟨a1,a2,a3,a4⟩:=hfr q
    rw[digB_of a1 a2]
    have a3':decide (3<f.length)=false:=decide_eq_false (by omega)
    rw[a3']
    simp[a4]
  have h3:(decide (n<0)&&txtU u==[48])=false:=by
   by_cases q:n<0
   ·have hu0:u≠0:=by omega
    rw[decide_eq_true q,kX]
    refine beq_eq_false_iff_ne.2 λe=>?_
    rw[hform]at e
    by_cases q2:u % 1000=0
    ·rw[if_neg (by simp[q2]),zE]at e
     have:=dd_head (u:=u / 1000) (by omega)
     rw[e]at this
     exact this rfl
    ·rw[if_pos (by simpa using q2)]at e
     have h5:=congrArg List.length e
     have h6:=List.length_pos_iff.2 hw.2.1
     simp at h5
     omega
   ·simp[q]
  rw[h1,h2,h3];rfl
 unfold valV
 rw[hst]
 simp only
 rw[hcut]
 simp only
 rw[hbad,if_neg (by simp),←hu]
 unfold valN
 have hnum:num (Lib.decDigits (u / 1000)++f++zer (3-f.length))=u:=by
  by_cases q:u % 1000=0
  ·rw[hf,if_pos q]
   show num (Lib.decDigits (u / 1000)++[]++zer 3)=u
   have hz:(0:Nat)<1000:=by omega
   have:=d3_num hz (Lib.decDigits (u / 1000))
   rw[dd_num]at this
   rw[zE,show zer 3=[(d3 0).1,(d3 0).2.1,(d3 0).2.2] from rfl,this]
   omega
  ·rw[hf,if_neg q,kW]
   unfold frac
   rw[fr3_pad,d3_num hr2,dd_num]
   omega
 rw[hnum]
 by_cases h10:(Lib.decDigits (u / 1000)).length>10
 ·rw[if_pos h10,if_pos]
  have h0:u / 1000≠0:=by
   intro e
   rw[e,dd_small (by omega)]at h10
   simp at h10
  have h1:=num_pos hw.1 hw.2.1 (dd_head h0)
  rw[dd_num]at h1
  have h2:(10:Nat) ^ 10≤10 ^ ((Lib.decDigits (u / 1000)).length-1):=zY (by omega) (by omega)
  omega
 ·rw[if_neg h10]
  by_cases hb:u>1000000000000
  ·rw[if_pos hb,if_pos hb]
  ·rw[if_neg hb,if_neg hb]
   by_cases hn:n<0
   ·rw[decide_eq_true hn,if_pos rfl]
    congr 1;omega
   ·rw[decide_eq_false hn,if_neg (by simp)]
    congr 1;omega
theorem c46(c:UInt8):((c.toNat:Int)==46)=(c==46):=by
 rw[zF]
 simp only[beq_iff_eq]
 constructor
 ·intro h;exact UInt8.toNat_inj.1 (by have:(46:UInt8).toNat=46:=rfl;omega)
 ·intro h;subst h;rfl
theorem c45(c:UInt8):((c.toNat:Int)==45)=(c==45):=by
 rw[zF]
 simp only[beq_iff_eq]
 constructor
 ·intro h;exact UInt8.toNat_inj.1 (by have:(45:UInt8).toNat=45:=rfl;omega)
 ·intro h;subst h;rfl
def nch(c:UInt8):Bool:=isD c||(c==45||c==46)
abbrev PR:=aa×Int×Int
def badR(a:Nat)(e:Int):PR:=(aa.mk false [] [],(a:Int),e)
def prC(sk:Bool)(ws:List aw)(a:Nat)(r:List UInt8):PR :=
 if (r.takeWhile prn).length>100 then badR a 3
 else if r.takeWhile prn=[]∨(r.dropWhile prn).head?≠some 41 then badR (a+1+(r.takeWhile prn).length) 2
 else if (r.dropWhile prn).drop 1≠[]then badR (a+1+(r.takeWhile prn).length+1) 2
 else (aa.mk sk ws (r.takeWhile prn),0,0)
def wordV(c:UInt8)(t:List UInt8):aw:=aw.mk (c.toNat:Int) (valV t).1
def prN(sk:Bool)(a:Nat)(ws:List aw)(K:Nat→List UInt8→PR):List UInt8→PR
 | []=>(aa.mk sk ws [],0,0)
 | d::q=>if d≠32 then badR a 2 else K (a+1) q
theorem prN_eq(sk:Bool)(a:Nat)(ws:List aw)(K:Nat→List UInt8→PR)(q:List UInt8):prN sk a ws K (32::q)=K (a+1) q:=rfl
theorem prN_ne(sk:Bool)(a:Nat)(ws:List aw)(K:Nat→List UInt8→PR){d:UInt8}(q:List UInt8)(h:d≠32):prN sk a ws K (d::q)=badR a 2:=if_pos h
def prW(sk:Bool):Nat→Bool→Nat→List aw→List UInt8→PR
 | 0,_,a,_,_=>badR a 2
 | _+1,sp,a,ws,[]=>if sp=true then badR a 2 else (aa.mk sk ws [],0,0)
 | n+1,_,a,ws,c::r =>
  if c=40 then prC sk ws a r
  else if c.toNat<65∨c.toNat>90 then badR a 2
  else if ws.length=16 then badR a 3
  else if (valV (r.takeWhile nch)).2≠0 then badR a (valV (r.takeWhile nch)).2
  else prN sk (a+1+(r.takeWhile nch).length) (ws++[wordV c (r.takeWhile nch)]) (λb q=>prW sk n true b (ws++[wordV c (r.takeWhile nch)]) q) (r.dropWhile nch)
def prsV(s:List UInt8):PR:=if s.head? = some 47 then prW true (s.length+1) false 1 [] (s.drop 1)else prW false (s.length+1) false 0 [] s
theorem scan{s:List UInt8}{p:UInt8→Bool}{f:Int→Option (Ex Int Int)}(hs:s.length≤1000000)(h1:∀(i:Nat) c,s[i]? = some c→f (i:Int)=if p c=true then some (.go ((i+1:Nat):Int))else some (.ret (i:Int)))(h2:f (s.length:Int)=some (.ret (s.length:Int)))(a:Nat)(ha:a≤s.length) :
  loopX f fuel (a:Int)=some ((a+((s.drop a).takeWhile p).length:Nat):Int):=by
 have key:Tot (loopX f fuel (a:Int)) (λo=>o=((a+((s.drop a).takeWhile p).length:Nat):Int)):=by
  refine Tot.loop (λm v=>∃i:Nat,v=(i:Int)∧i≤s.length∧m=s.length-i∧i+((s.drop i).takeWhile p).length=a+((s.drop a).takeWhile p).length) _ (s.length-a) (eI (by omega)) ⟨a,rfl,ha,rfl,rfl⟩ (λm v hr=>?_)
  obtain⟨i,rfl,hi,hm,ht⟩:=hr
  rcases kT hi with e | q
  ·subst e
   rw[h2]
   refine .ret ?_
   rw[←ht];simp
  ·have hx:=List.getElem?_eq_getElem q
   rw[h1 i _ hx]
   rw[zQ q,zU]at ht
   cases hp:p s[i]with
   | true =>
    rw[hp,if_pos rfl,zD]at ht
    rw[if_pos rfl]
    exact .go ⟨s.length-(i+1),by omega,i+1,rfl,by omega,rfl,by omega⟩
   | false =>
    rw[hp,if_neg (by simp),kR]at ht
    rw[if_neg (by simp)]
    refine .ret ?_
    rw[←ht];rfl
 obtain⟨o,ho,rfl⟩:=key
 exact ho
theorem iB{s:List UInt8}{i:Nat}{c:UInt8}(h:s[i]? = some c):((i:Int)==(s.length:Int))=false:=by
 have:=ao h
 simp;omega
theorem cut_mid{s r t:List UInt8}{a:Nat}{p:UInt8→Bool}(hd:s.drop a=r)(ht:r.takeWhile p=t)(ha:a≤s.length)(hs:s.length≤1000000):cutL s (a:Int) ((a+t.length:Nat):Int)=some t:=by
 have hl:=(tw_len p r).1
 have hrl:r.length=s.length-a:=by rw[←hd];simp
 rw[ht]at hl
 unfold cutL
 rw[if_neg (by omega)]
 congr 1
 rw[zH,zH,hd,←ht]
 have:=zN (p:=p) (l:=r)
 conv=>lhs;arg 2;rw[←this]
 rw[List.take_left' (by omega)]
theorem drop_tw{s r:List UInt8}{a:Nat}{p:UInt8→Bool}(hd:s.drop a=r):s.drop (a+(r.takeWhile p).length)=r.dropWhile p:=by
 rw[←kV,hd]
 have:=zN (p:=p) (l:=r)
 conv=>lhs;arg 2;rw[←this]
 rw[List.drop_left' rfl]
theorem dw_at{s r:List UInt8}{a:Nat}{p:UInt8→Bool}(hd:s.drop a=r):s[a+(r.takeWhile p).length]? = (r.dropWhile p).head?:=by
 have:=drop_tw (p:=p) hd
 rw[←this,List.head?_drop]
theorem number_val(c:UInt8):(((decide ((c.toNat:Int)≥48))&&(decide ((c.toNat:Int)≤57)))||(((c.toNat:Int)==45)||((c.toNat:Int)==46)))=nch c:=by
 unfold nch
 rw[c45,c46]
 have h:isD c=(decide ((c.toNat:Int)≥48)&&decide ((c.toNat:Int)≤57)):=by
  unfold isD
  congr 1<;>(rw[zF];simp only[decide_eq_true_eq];omega)
 rw[h]
theorem c40(c:UInt8):((c.toNat:Int)==40)=decide (c=40):=by
 rw[zF]
 simp only[beq_iff_eq,decide_eq_true_eq]
 constructor
 ·intro h;exact UInt8.toNat_inj.1 (by have:(40:UInt8).toNat=40:=rfl;omega)
 ·intro h;subst h;rfl
theorem c41(c:UInt8):((c.toNat:Int) != 41)=decide (c≠41):=by
 rw[zF]
 simp only[bne_iff_ne,ne_eq,decide_eq_true_eq]
 constructor
 ·intro h e;subst e;exact h rfl
 ·intro h e;exact h (UInt8.toNat_inj.1 (by have:(41:UInt8).toNat=41:=rfl;omega))
theorem c32(c:UInt8):((c.toNat:Int) != 32)=decide (c≠32):=by
 rw[zF]
 simp only[bne_iff_ne,ne_eq,decide_eq_true_eq]
 constructor
 ·intro h e;subst e;exact h rfl
 ·intro h e;exact h (UInt8.toNat_inj.1 (by have:(32:UInt8).toNat=32:=rfl;omega))
theorem c47(c:UInt8):((c.toNat:Int) != 47)=decide (c≠47):=by
 rw[zF]
 simp only[bne_iff_ne,ne_eq,decide_eq_true_eq]
 constructor
 ·intro h e;subst e;exact h rfl
 ·intro h e;exact h (UInt8.toNat_inj.1 (by have:(47:UInt8).toNat=47:=rfl;omega))
def bkOut(r:Int×bD):PR:=if (r.1 != 0)=true then (aa.mk false [] [],r.2.at_,r.1)else (r.2.b,0,0)
set_option maxHeartbeats 4000000 in
theorem bk_Parse_tot(s:List UInt8)(hs:s.length≤65536):Tot (bk_Parse s) (λr=>r=prsV s):=by
 unfold bk_Parse
 refine Tot.ite (λh=>absurd (of_decide_eq_true h) (by omega)) (λ_=>?_)
 refine Tot.bind (E:=λr=>bkOut r=prsV s) ?_ (λr hr=>?_)
 ·refine Tot.bind (E:=λx:Bool×Int=>x=if s.head? = some 47 then (true,1)else (false,0)) ?_ (λx hx=>?_)
  ·cases s with
   | nil=>exact .ok rfl
   | cons c q =>
    have h0:((0:Int)==(((c::q).length:Nat):Int))=false:=by simp;omega
    rw[al,h0,if_neg (by simp),show gt (c::q) 0=some c from rfl,al,al,c47]
    by_cases hc:c=47
    ·subst hc;exact .ok rfl
    ·rw[decide_eq_true hc,if_pos rfl]
     refine .ok ?_
     rw[if_neg (by simpa using hc)]
  ·obtain⟨sk,a0,hx2,ha0,hT⟩:∃(sk:Bool) (a0:Nat),x=(sk,(a0:Int))∧a0≤s.length∧prsV s=prW sk (s.length+1) false a0 [] (s.drop a0):=by
    unfold prsV
    by_cases hc:s.head? = some 47
    ·rw[if_pos hc]at hx ⊢
     refine⟨true,1,hx,?_,rfl⟩
     cases s with
     | nil=>cases hc
     | cons c q=>simp
    ·rw[if_neg hc]at hx ⊢
     exact⟨false,0,hx,by omega,rfl⟩
   subst hx2
   rw[hT]
   generalize hTT:prW sk (s.length+1) false a0 [] (s.drop a0)=T
   refine Tot.loop (λm v=>∃(sp:Bool) (a:Nat) (ws:List aw),v=(sp,bD.mk s (a:Int) (aa.mk sk ws []))∧a≤s.length∧ws.length≤16∧s.length-a<m∧prW sk m sp a ws (s.drop a)=T) _ (s.length+1) (eI (by omega)) ⟨false,a0,[],rfl,ha0,by simp,by omega,hTT⟩ (λm v hr=>?_)
   obtain⟨sp,a,ws,rfl,ha,hws,hm,ht⟩:=hr
   obtain⟨n,rfl⟩:∃n,m=n+1:=⟨m-1,by omega⟩
   simp only[al]
   rcases kT ha with e | hlt
   ·have hnil:s.drop a=[]:=by rw[e];simp
    rw[hnil]at ht
    rw[show ((a:Int)==(s.length:Int))=true by simp;omega,if_pos rfl]
    cases sp with
    | true=>rw[if_pos rfl];exact .ret (by rw[←ht];rfl)
    | false=>rw[if_neg (by simp)];exact .ret (by rw[←ht];rfl)
   ·obtain⟨c,hc⟩:∃c,s[a]? = some c:=⟨_,List.getElem?_eq_getElem hlt⟩
    have hdr:s.drop a=c::s.drop (a+1):=by
     rw[zQ hlt]
     rw[List.getElem?_eq_getElem hlt]at hc;injection hc with hc;rw[hc]
    obtain⟨r,hr⟩:∃r,s.drop (a+1)=r:=⟨_,rfl⟩
    rw[hdr,hr]at ht
    have hw1:IntKind.i64.wrap ((a:Int)+1)=((a+1:Nat):Int):=by rw[wrap_i64 (by omega) (by omega)];omega
    have hrl:r.length=s.length-(a+1):=by rw[←hr];simp
    rw[iB hc,if_neg (by simp),gt_k hc,al,c40,hw1]
    unfold prW at ht
    by_cases h40:c=40
    ·-- a comment
     rw[if_pos h40]at ht
     rw[decide_eq_true h40,if_pos rfl]
     rw[scan (s:=s) (p:=prn) (by omega) (λi x hx=>by
      rw[iB hx,if_neg (by simp),gt_k hx,al]
      unfold er
      rw[al,al,wrap_i64 (by omega) (by have:=ao hx;omega)]
      rfl) (by rw[beq_self_eq_true,if_pos rfl];rfl) (a+1) (by omega),al,hr]
     have htl:=(tw_len prn r).1
     rw[cut_mid (p:=prn) hr rfl (by omega) (by omega),al]
     unfold prC at ht
     by_cases h100:(r.takeWhile prn).length>100
     ·rw[if_pos h100]at ht
      rw[decide_eq_true (show (((r.takeWhile prn).length:Nat):Int)>100 by omega),if_pos rfl,al]
      exact .ret (by rw[←ht];rfl)
     ·rw[if_neg h100]at ht
      rw[decide_eq_false (show ¬(((r.takeWhile prn).length:Nat):Int)>100 by omega),if_neg (by simp)]
      by_cases hnil:r.takeWhile prn=[]
      ·rw[if_pos (.inl hnil)]at ht
       rw[hnil]at ht ⊢
       exact .ret (by rw[←ht];rfl)
      ·have hbe:(r.takeWhile prn==[])=false:=by simpa using hnil
       rw[hbe,if_neg (by simp)]
       have hat:=dw_at (p:=prn) hr
       rcases kT (show a+1+(r.takeWhile prn).length≤s.length by omega)with e | hlt2
       ·have hh:(r.dropWhile prn).head? = none:=by rw[←hat,e];simp
        rw[if_pos (.inr (by rw[hh];simp))]at ht
        rw[show (((a+1+(r.takeWhile prn).length:Nat):Int)==(s.length:Int))=true by simp;omega,if_pos rfl]
        exact .ret (by rw[←ht];rfl)
       ·obtain⟨d,hd⟩:∃d,s[a+1+(r.takeWhile prn).length]? = some d:=⟨_,List.getElem?_eq_getElem hlt2⟩
        rw[hd]at hat
        rw[iB hd,if_neg (by simp),gt_k hd,al,al,c41]
        have hw2:IntKind.i64.wrap (((a+1+(r.takeWhile prn).length:Nat):Int)+1)=((a+1+(r.takeWhile prn).length+1:Nat):Int):=by rw[wrap_i64 (by omega) (by omega)];omega
        by_cases h41:d=41
        ·rw[decide_eq_false (by simpa using h41),if_neg (by simp),hw2,al,al,if_neg (by simp)]
         dsimp only
         rw[if_neg (by rw[←hat,h41];simpa using hnil)]at ht
         have hq:(r.dropWhile prn).drop 1=s.drop (a+1+(r.takeWhile prn).length+1):=by
          rw[←drop_tw (p:=prn) hr,kV]
         rw[hq]at ht
         by_cases hend:a+1+(r.takeWhile prn).length+1=s.length
         ·rw[if_neg (by rw[hend];simp)]at ht
          rw[show (((a+1+(r.takeWhile prn).length+1:Nat):Int)==(s.length:Int))=true by simp;omega]
          exact .ret (by rw[←ht];rfl)
         ·rw[if_pos (by
           intro e2
           have:=congrArg List.length e2
           simp at this;omega)]at ht
          rw[show (((a+1+(r.takeWhile prn).length+1:Nat):Int)==(s.length:Int))=false by simp;omega]
          exact .ret (by rw[←ht];rfl)
        ·rw[decide_eq_true h41,if_pos rfl,al,al]
         rw[if_pos (.inr (by rw[←hat];simpa using h41))]at ht
         exact .ret (by rw[←ht];rfl)
    ·-- a word
     rw[if_neg h40]at ht
     rw[decide_eq_false h40,if_neg (by simp),al]
     have hlet:(decide ((c.toNat:Int)<65)||decide ((c.toNat:Int)>90))=decide (c.toNat<65∨c.toNat>90):=by
      rw[zF];simp only[Bool.or_eq_true,decide_eq_true_eq];omega
     rw[hlet]
     by_cases hl:c.toNat<65∨c.toNat>90
     ·rw[if_pos hl]at ht
      rw[decide_eq_true hl,if_pos rfl]
      exact .ret (by rw[←ht];rfl)
     ·rw[if_neg hl]at ht
      rw[decide_eq_false hl,if_neg (by simp)]
      by_cases h16:ws.length=16
      ·rw[if_pos h16]at ht
       rw[show ((ws.length:Int)==16)=true by simp;omega,if_pos rfl]
       exact .ret (by rw[←ht];rfl)
      ·rw[if_neg h16]at ht
       rw[show ((ws.length:Int)==16)=false by simp;omega,if_neg (by simp)]
       rw[scan (s:=s) (p:=nch) (by omega) (λi x hx=>by
        have hlx:=ao hx
        rw[decide_eq_true (show (i:Int)<(s.length:Int) by omega),if_pos rfl,gt_k hx,al]
        rw[←number_val x,wrap_i64 (by omega) (by omega)]
        cases decide ((x.toNat:Int)≥48)<;>cases decide ((x.toNat:Int)≤57)<;>cases ((x.toNat:Int)==45)<;>rfl) (by rw[decide_eq_false (by omega)];rfl) (a+1) (by omega),al,hr]
       have htl:=(tw_len nch r).1
       rw[cut_mid (p:=nch) hr rfl (by omega) (by omega),al,bk_Value_eq _ (by omega),al]
       have hat:=dw_at (p:=nch) hr
       have hdw:=drop_tw (p:=nch) hr
       by_cases hv:(valV (r.takeWhile nch)).2=0
       ·rw[if_neg (by simpa using hv)]at ht
        rw[hv]
        simp only[bne_self_eq_false,zA,if_false]
        rw[bd (by omega),aO,al]
        simp only[bne_self_eq_false,zA,if_false]
        rcases kT (show a+1+(r.takeWhile nch).length≤s.length by omega)with e | hlt2
        ·have hnil:r.dropWhile nch=[]:=by rw[←hdw,e];simp
         rw[hnil]at ht
         rw[show (((a+1+(r.takeWhile nch).length:Nat):Int)==(s.length:Int))=true by simp;omega,if_pos rfl]
         exact .ret (by rw[←ht];rfl)
        ·obtain⟨d,hd⟩:∃d,s[a+1+(r.takeWhile nch).length]? = some d:=⟨_,List.getElem?_eq_getElem hlt2⟩
         have hcons:r.dropWhile nch=d::s.drop (a+1+(r.takeWhile nch).length+1):=by
          rw[←hdw,zQ hlt2]
          rw[List.getElem?_eq_getElem hlt2]at hd;injection hd with hd;rw[hd]
         rw[hcons]at ht
         rw[iB hd,if_neg (by simp),if_neg (by simp),gt_k hd,al,al,c32]
         have hw2:IntKind.i64.wrap (((a+1+(r.takeWhile nch).length:Nat):Int)+1)=((a+1+(r.takeWhile nch).length+1:Nat):Int):=by rw[wrap_i64 (by omega) (by omega)];omega
         by_cases h32:d=32
         ·subst h32
          rw[prN_eq]at ht
          rw[decide_eq_false (by simp),if_neg (by simp),hw2,al,if_neg (by simp)]
          exact .go ⟨n,by omega,true,_,_,rfl,by omega,by simp;omega,by omega,ht⟩
         ·rw[prN_ne _ _ _ _ _ h32]at ht
          rw[decide_eq_true h32,if_pos rfl,al]
          exact .ret (by rw[←ht];rfl)
       ·rw[if_pos hv]at ht
        rw[show ((valV (r.takeWhile nch)).2 != 0)=true by simpa using hv,if_pos rfl,al]
        simp only[show ((valV (r.takeWhile nch)).2 != 0)=true by simpa using hv,if_true]
        refine .ret ?_
        rw[←ht]
        unfold bkOut
        rw[show ((valV (r.takeWhile nch)).2 != 0)=true by simpa using hv]
        rfl
 ·rw[←hr]
  unfold bkOut
  cases (r.1 != 0)with
  | true=>exact .ok rfl
  | false=>exact .ok rfl
def jn:List (List UInt8)→List UInt8
 | []=>[]
 | x::l=>x++(l.map (32::·)).flatten
theorem jn_cons(x y:List UInt8)(l:List (List UInt8)):jn (x::y::l)=x++32::jn (y::l):=by simp[jn]
theorem join_jn:∀l:List (List UInt8),Lib.join l [32]=jn l
 | []=>rfl
 | [x]=>by simp[Lib.join,jn,List.intercalate]
 | x::y::l=>by
  have ih:=join_jn (y::l)
  rw[jn_cons,←ih]
  simp[Lib.join,List.intercalate]
theorem jn_len(M:Nat):∀l:List (List UInt8),(∀x∈l,x.length≤M)→(jn l).length≤l.length*(M+1)
 | [],_=>by simp[jn]
 | [x],h=>by
  have:=h x (by simp)
  simp[jn];omega
 | x::y::l,h=>by
  have ih:=jn_len M (y::l) (λz hz=>h z (by simp[hz]))
  have:=h x (by simp)
  rw[jn_cons,zB,zD,zD (a:=x),Nat.add_mul]
  omega
def wt(w:aw):List UInt8:=UInt8.ofNat w.Letter.toNat::txtV w.Value
def cmT(c:List UInt8):List (List UInt8):=if c=[]then []else [40::(c++[41])]
def fmtV(b:aa):List UInt8:=(if b.Skip=true then [47]else [])++jn (b.Words.map wt++cmT b.Comment)
theorem rune_letter(n:Int)(h1:65≤n)(h2:n≤90):runeS (IntKind.i32.wrap n)=[UInt8.ofNat n.toNat]:=by
 have:∀k,k<128→runeS (IntKind.i32.wrap ((k:Nat):Int))=[UInt8.ofNat k]:=of_decide_eq_true (by kernel_rfl)
 have h:=this n.toNat (by omega)
 rwa [show ((n.toNat:Nat):Int)=n by omega]at h
theorem txt_len100(n:Int)(h1:-9223372036854775808≤n)(h2:n≤9223372036854775807):(txtV n).length≤100:=by
 unfold txtV txtU
 have hl:=dd_len (n.natAbs / 1000) (by omega)
 have hf':(frac (n.natAbs % 1000)).length≤3:=fr3_len _ _ _
 rw[zB,zB]
 have e1:(if n<0 then ([45]:List UInt8)else []).length≤1:=by split<;>simp
 have e2:(if n.natAbs % 1000=0 then []else 46::frac (n.natAbs % 1000)).length≤4:=by split<;>simp;omega
 omega
theorem bk_Valid_totB(b:aa)(h1:b.Words.length≤1000)(h2:b.Comment.length≤1000):Tot (fM b) (λe=>(e=0∧df b)∨(e=1∧¬df b)):=by
 unfold fM
 have hsz:(decide ((b.Words.length:Int)>16)||decide ((b.Comment.length:Int)>100))=decide (¬(b.Words.length≤16∧b.Comment.length≤100)):=by
  rw[zF];simp only[Bool.or_eq_true,decide_eq_true_eq];omega
 rw[hsz]
 refine Tot.ite (λh=>.ok (.inr ⟨rfl,λq=>of_decide_eq_true h ⟨q.1,q.2.1⟩⟩)) (λh=>?_)
 have hle:b.Words.length≤16∧b.Comment.length≤100:=by simpa using h
 refine Tot.bindX (E:=λ_=>∀w∈b.Words,okW w) (TotX.of (Tot.mono (E:=λx=>(x=.ret 1∧¬df b)∨(x=.go ()∧∀w∈b.Words,okW w)) ?_ ?_)) (λx hx=>?_)
 ·refine Tot.guard (aZ (by omega)) (Tot.range (λi _=>∀(k:Nat) w,k<i→b.Words[k]? = some w→okW w) _ (λk w q=>by omega) (λi x v hx hr=>?_) (λv hr=>.ok (.inr ⟨rfl,λw hw=>?_⟩)))
  ·have hc:(decide (x.Letter<65)||(decide (x.Letter>90)||(decide (x.Value>1000000000000)||decide (x.Value < -1000000000000))))=decide (¬(65≤x.Letter∧x.Letter≤90∧-1000000000000≤x.Value∧x.Value≤1000000000000)):=by
    rw[zF];simp only[Bool.or_eq_true,decide_eq_true_eq];omega
   rw[hc]
   refine TotX.ite (λh2=>.ret (.inl ⟨rfl,λq=>of_decide_eq_true h2 (q.2.2.1 x (List.mem_of_getElem? hx))⟩)) (λh2=>.go (λk w hk hw=>?_))
   rcases zJ k i with q | q
   ·exact hr k w q hw
   ·obtain rfl:k=i:=by omega
    rw[hx]at hw;injection hw with hw;subst hw
    have h3:65≤x.Letter∧x.Letter≤90∧-1000000000000≤x.Value∧x.Value≤1000000000000:=Decidable.not_not.1 (of_decide_eq_false h2)
    exact h3
  ·obtain⟨k,hk⟩:=List.mem_iff_getElem?.1 hw
   exact hr k w (ao hk) hk
 ·rintro x (⟨rfl,h3⟩|⟨rfl,h3⟩)
  ·exact .inr ⟨rfl,h3⟩
  ·exact h3
 ·refine Tot.bindX (E:=λ_=>df b) (TotX.of (Tot.mono (E:=λx=>(x=.ret 1∧¬df b)∨(x=.go ()∧df b)) ?_ ?_)) (λ_ hv=>.ok (.inl ⟨rfl,hv⟩))
  ·refine Tot.guard (aZ (by simp[kB];omega)) (Tot.range (λi _=>∀(k:Nat) c,k<i→b.Comment[k]? = some c→prn c=true) _ (λk w q=>by omega) (λi y v hy hr=>?_) (λv hr=>.ok (.inr ⟨rfl,hle.1,hle.2,hx,λc hc=>?_⟩)))
   ·unfold kB at hy
    rw[List.getElem?_map]at hy
    cases hq:b.Comment[i]? with
    | none=>rw[hq]at hy;cases hy
    | some c =>
     rw[hq]at hy;injection hy with hy;subst hy
     have hp:er (c.toNat:Int)=some (prn c):=rfl
     rw[hp,al]
     refine TotX.ite (λh2=>.ret (.inl ⟨rfl,λq=>?_⟩)) (λh2=>.go (λk w hk hw=>?_))
     ·have:=q.2.2.2 c (List.mem_of_getElem? hq)
      rw[this]at h2;cases h2
     ·rcases zJ k i with q | q
      ·exact hr k w q hw
      ·obtain rfl:k=i:=by omega
       rw[hq]at hw;injection hw with hw;subst hw
       simpa using h2
   ·obtain⟨k,hk⟩:=List.mem_iff_getElem?.1 hc
    exact hr k c (by have:=ao hk;simpa [kB] using this) hk
  ·rintro x (⟨rfl,h3⟩|⟨rfl,h3⟩)
   ·exact .inr ⟨rfl,h3⟩
   ·exact h3
theorem fold_map{α β:Type}(g:α→β):∀(l:List α) (o:List β),l.foldl (λo x=>o++[g x]) o=o++l.map g
 | [],o=>by simp
 | x::l,o=>by rw[List.foldl_cons,fold_map g l];simp
theorem wt_len(w:aw)(h:okW w):(wt w).length≤101:=by
 have:=txt_len100 w.Value (by have:=h.2.2.1;omega) (by have:=h.2.2.2;omega)
 unfold wt;simp;omega
theorem parts_len{b:aa}(h:df b):∀x∈b.Words.map wt++cmT b.Comment,x.length≤102:=by
 intro x hx
 rcases List.mem_append.1 hx with hx | hx
 ·obtain⟨w,hw,rfl⟩:=List.mem_map.1 hx
  have:=wt_len w (h.2.2.1 w hw);omega
 ·unfold cmT at hx
  split at hx
  ·cases hx
  ·simp at hx
   subst hx
   have:=h.2.1
   simp;omega
theorem bk_Format_ok(b:aa)(h:df b):jH b=some (fmtV b,0):=by
  unfold jH
  obtain⟨e,he,hv⟩:=bk_Valid_totB b (by have:=h.1;omega) (by have:=h.2.1;omega)
  have he0:e=0:=by rcases hv with hv | hv;exact hv.1;exact absurd h hv.2
  subst he0
  have hwl:=h.1
  have hcl:=h.2.1
  rw[he,al,if_neg (by simp),aZ (by omega),aO,gR (g:=λ(v:List (List UInt8)) w=>v++[wt w]) (R:=λi v=>v.length=i) (L:=b.Words) ?_ b.Words 0 [] rfl (by simp),fold_map,al]
  · have hpl:=parts_len h
    have hjl:=jn_len 102 _ hpl
    have hpn:(b.Words.map wt++cmT b.Comment).length≤17:=by
      unfold cmT;rw[zB,List.length_map];split<;>simp<;>omega
    have hcm : (if (!(b.Comment == [])) = true then
          aE (okStr [40] b.Comment) (
          aE (okStr ([40]++b.Comment) [41]) (
          aE (okLen (([]++b.Words.map wt).length+1)) (
          some (([]++b.Words.map wt)++[([40]++b.Comment)++[41]]))))
        else
          some ([]++b.Words.map wt))=some (b.Words.map wt++cmT b.Comment):=by
      unfold cmT
      by_cases hc:b.Comment=[]
      · rw[hc];simp
      · rw[if_neg hc,show (b.Comment==[])=false by simpa using hc,zR,if_pos rfl,fG (by simp;omega),aO,fG (by simp;omega),aO,bd (by simp;omega),aO]
        simp
    rw[hcm,al]
    have hj:strings_Join (b.Words.map wt++cmT b.Comment) [32]=some (jn (b.Words.map wt++cmT b.Comment)):=by
      unfold strings_Join
      rw[join_jn,decide_eq_true (by have:=zX (102+1) hpn;omega),decide_eq_true (by omega)]
      rfl
    rw[hj,al]
    unfold fmtV
    have hjl2:=zX (102+1) hpn
    cases b.Skip with
    | true=>rw[if_pos rfl,fG (by simp;omega),aO,al];rfl
    | false=>rw[if_neg (by simp),al];rfl
  · intro i x v hx hr
    have hlt:=ao hx
    obtain⟨h1,h2,h3,h4⟩:=h.2.2.1 x (List.mem_of_getElem? hx)
    have hl:=txt_len100 x.Value (by omega) (by omega)
    rw[bk_Text_eq _ (by omega) (by omega),al,rune_letter _ h1 h2,fG (by simp;omega),aO,bd (by omega),aO]
    exact⟨rfl,by simp[hr]⟩
theorem tw_gen{p:UInt8→Bool}:∀(w r:List UInt8),w.all p=true→(r=[]∨∃d q,r=d::q∧p d=false)→(w++r).takeWhile p=w∧(w++r).dropWhile p=r
 | [],r,_,hr=>by rcases hr with rfl | ⟨d,q,rfl,hd⟩<;>simp_all
 | c::w,r,h,hr=>by
  simp only[zI,zG]at h
  obtain⟨h1,h2⟩:=tw_gen w r h.2 hr
  simp only[zK,zU,zV,h.1,if_true,h1,h2,and_self]
theorem nch_dig{l:List UInt8}(h:l.all isD=true):l.all nch=true:=by
 rw[zT]at h ⊢
 intro x hx
 unfold nch
 rw[h x hx];rfl
theorem nch_txt(n:Int):(txtV n).all nch=true:=by
 unfold txtV txtU
 rw[zP,zP,nch_dig (dd_dig _)]
 have h1:(if n<0 then ([45]:List UInt8)else []).all nch=true:=by split<;>rfl
 have h2:(if n.natAbs % 1000=0 then []else 46::frac (n.natAbs % 1000)).all nch=true:=by
  split
  ·rfl
  ·obtain⟨q1,q2,q3⟩:=d3_dig (r:=n.natAbs % 1000) (Nat.mod_lt _ (by omega))
   rw[zI,nch_dig (show (frac (n.natAbs % 1000)).all isD=true from fr3_dig _ _ _ q1 q2 q3)]
   rfl
 rw[h1,h2];rfl
theorem jx{n:Int}(h1:65≤n)(h2:n≤90):(UInt8.ofNat n.toNat).toNat=n.toNat:=by
 rw[UInt8.toNat_ofNat'];omega
theorem val_ok{v:Int}(h1:-1000000000000≤v)(h2:v≤1000000000000):valV (txtV v)=(v,0):=by
 rw[val_txt,if_neg (by omega)]
theorem prC_ok(sk:Bool)(ws:List aw)(a:Nat)(c:List UInt8)(hc:c.all prn=true)(hl:c.length≤100)(hne:c≠[]):prC sk ws a (c++[41])=(aa.mk sk ws c,0,0):=by
 obtain⟨h1,h2⟩:=tw_gen (p:=prn) c [41] hc (.inr ⟨41,[],rfl,rfl⟩)
 unfold prC
 rw[h1,h2,if_neg (by omega),if_neg (by simpa using hne),if_neg (by simp)]
theorem prW_cons(sk:Bool)(n:Nat)(sp:Bool)(a:Nat)(ws:List aw)(c:UInt8)(r:List UInt8):prW sk (n+1) sp a ws (c::r) =
  if c=40 then prC sk ws a r
  else if c.toNat<65∨c.toNat>90 then badR a 2
  else if ws.length=16 then badR a 3
  else if (valV (r.takeWhile nch)).2≠0 then badR a (valV (r.takeWhile nch)).2
  else prN sk (a+1+(r.takeWhile nch).length) (ws++[wordV c (r.takeWhile nch)]) (λb q=>prW sk n true b (ws++[wordV c (r.takeWhile nch)]) q) (r.dropWhile nch):=rfl
theorem cons_ne{α:Type}{l:List α}(h:l≠[]):∃x r,l=x::r:=by
 cases l with
 | nil=>exact absurd rfl h
 | cons x r=>exact⟨x,r,rfl⟩
theorem jn_ne(x:List UInt8){l:List (List UInt8)}(h:l≠[]):jn (x::l)=x++32::jn l:=by
 obtain⟨y,r,rfl⟩:=cons_ne h
 exact jn_cons x y r
theorem prW_fmt(sk:Bool)(c:List UInt8)(hc:c.all prn=true)(hcl:c.length≤100):∀(W:List aw) (n:Nat) (sp:Bool) (a:Nat) (ws:List aw),(∀w∈W,okW w)→ws.length+W.length≤16→W.length<n→(sp=true→W≠[]∨c≠[])→prW sk n sp a ws (jn (W.map wt++cmT c))=(aa.mk sk (ws++W) c,0,0)
 | [],n,sp,a,ws,_,_,hn,hsp=>by
  obtain⟨n,rfl⟩:∃q,n=q+1:=⟨n-1,by simp at hn;omega⟩
  by_cases h0:c=[]
  ·subst h0
   have:sp=false:=by
    cases sp with
    | false=>rfl
    | true=>rcases hsp rfl with h | h<;>exact absurd rfl h
   subst this
   rw[zE];rfl
  ·have hj:jn (List.map wt []++cmT c)=40::(c++[41]):=by
    unfold cmT
    rw[if_neg h0]
    simp[jn]
   rw[hj,zE]
   show (if (40:UInt8)=40 then prC sk ws a (c++[41])else _)=_
   rw[if_pos rfl,prC_ok sk ws a c hc hcl h0]
 | w::W,n,sp,a,ws,hW,hlen,hn,hsp=>by
  obtain⟨n,rfl⟩:∃q,n=q+1:=⟨n-1,by simp at hn;omega⟩
  simp only[zD]at hlen hn
  obtain⟨o1,o2,o3,o4⟩:=hW w (by simp)
  have hL:=jx o1 o2
  have h40:¬(UInt8.ofNat w.Letter.toNat=40):=by
   intro e
   rw[e]at hL
   have:(40:UInt8).toNat=40:=rfl
   omega
  have hw:wordV (UInt8.ofNat w.Letter.toNat) (txtV w.Value)=w:=by
   unfold wordV
   rw[val_ok o3 o4,hL]
   obtain⟨l,v⟩:=w
   simp only at o1 ⊢
   congr 1
   omega
  have step:∀q,(q=[]∨∃d r,q=d::r∧nch d=false)→prW sk (n+1) sp a ws (wt w++q)=prN sk (a+1+(txtV w.Value).length) (ws++[w]) (λb r=>prW sk n true b (ws++[w]) r) q:=by
   intro q hq
   obtain⟨t1,t2⟩:=tw_gen (p:=nch) (txtV w.Value) q (nch_txt _) hq
   rw[show wt w++q=UInt8.ofNat w.Letter.toNat::(txtV w.Value++q) from rfl,prW_cons,if_neg h40,if_neg (by omega),if_neg (by omega),t1,t2,val_ok o3 o4,if_neg (by simp),hw]
  have ha:ws++w::W=(ws++[w])++W:=by simp
  rw[ha,List.map_cons,zK]
  by_cases hrest:W.map wt++cmT c=[]
  ·have hW0:W=[]:=by
    have:=(List.append_eq_nil_iff.1 hrest).1
    simpa using this
   have hc0:c=[]:=by
    have:=(List.append_eq_nil_iff.1 hrest).2
    unfold cmT at this
    by_cases q:c=[]
    ·exact q
    ·rw[if_neg q]at this;cases this
   rw[hrest]
   have:=step [] (.inl rfl)
   rw[zE]at this
   rw[show jn [wt w]=wt w by simp[jn],this,hW0,hc0,zE]
   rfl
  ·rw[jn_ne _ hrest,step _ (.inr ⟨32,_,rfl,rfl⟩),prN_eq]
   refine prW_fmt sk c hc hcl W n true _ (ws++[w]) (λx hx=>hW x (by simp[hx])) (by simp;omega) (by omega) (λ_=>?_)
   by_cases q:W=[]
   ·right
    intro e
    apply hrest
    rw[q,e];rfl
   ·exact .inl q
theorem flat_len:∀l:List (List UInt8),l.length≤((l.map (32::·)).flatten).length
 | []=>by simp
 | x::l=>by
  have:=flat_len l
  simp only[List.map_cons,List.flatten_cons,zB,zD]
  omega
theorem jn_ge(W:List aw)(l:List (List UInt8)):W.length≤(jn (W.map wt++l)).length:=by
 cases W with
 | nil=>simp
 | cons w W =>
  have:=flat_len (W.map wt++l)
  rw[List.map_cons,zK]
  show _≤(wt w++((W.map wt++l).map (32::·)).flatten).length
  rw[zB]at this ⊢
  rw[List.length_map]at this
  simp only[zD,wt]
  omega
theorem jn_head{W:List aw}{c:List UInt8}(hW:∀w∈W,okW w):(jn (W.map wt++cmT c)).head?≠some 47:=by
 cases W with
 | nil =>
  unfold cmT
  split
  ·simp[jn]
  ·simp[jn]
 | cons w W =>
  obtain⟨o1,o2,_⟩:=hW w (by simp)
  have hL:=jx o1 o2
  rw[List.map_cons,zK]
  show (UInt8.ofNat w.Letter.toNat::(txtV w.Value++_)).head?≠some 47
  rw[List.head?_cons]
  intro e
  injection e with e
  rw[e]at hL
  have:(47:UInt8).toNat=47:=rfl
  omega
theorem parse_fmt(b:aa)(h:df b):prsV (fmtV b)=(b,0,0):=by
 obtain⟨h1,h2,h3,h4⟩:=h
 obtain⟨sk,W,c⟩:=b
 simp only at h1 h2 h3 h4
 have hc:c.all prn=true:=List.all_eq_true.2 h4
 have hge:=jn_ge W (cmT c)
 unfold prsV fmtV
 simp only
 cases sk with
 | true =>
  rw[if_pos rfl,show (([47]:List UInt8)++jn (W.map wt++cmT c)).head? = some 47 from rfl,if_pos rfl,show (([47]:List UInt8)++jn (W.map wt++cmT c)).drop 1=jn (W.map wt++cmT c) from rfl]
  exact prW_fmt true c hc h2 W _ false 1 [] h3 (by simpa using h1) (by simp;omega) (λq=>by cases q)
 | false =>
  rw[show ((if false=true then ([47]:List UInt8)else [])++jn (W.map wt++cmT c))=jn (W.map wt++cmT c) from rfl,if_neg (jn_head h3)]
  exact prW_fmt false c hc h2 W _ false 0 [] h3 (by simpa using h1) (by omega) (λq=>by cases q)
theorem idxd_facts(d:UInt8):∀l:List UInt8,(Lib.indexByte l d=-1∧l.takeWhile (· != d)=l∧l.dropWhile (· != d)=[]∧l.contains d=false)∨(∃o:Nat,Lib.indexByte l d=(o:Int)∧o<l.length∧l.take o=l.takeWhile (· != d)∧l.drop o=l.dropWhile (· != d)∧l.contains d=true)
 | []=>.inl ⟨rfl,rfl,rfl,rfl⟩
 | b::l=>by
  unfold Lib.indexByte
  by_cases hb:b=d
  ·subst hb
   refine .inr ⟨0,?_,by simp,by simp,by simp,by simp⟩
   rw[if_pos (by simp)];rfl
  ·have hb1:(b==d)=false:=by simpa using hb
   have hb2:(b != d)=true:=by simp[hb]
   have hb3:(d==b)=false:=by simpa using fun e=>hb e.symm
   rw[hb1]
   simp only[zA,if_false,zU,zV,hb2,if_true,List.contains_cons,hb3,Bool.false_or]
   rcases idxd_facts d l with⟨h1,h2,h3,h4⟩|⟨o,h1,h2,h3,h4,h5⟩
   ·left
    rw[h1,h2]
    exact⟨rfl,rfl,h3,h4⟩
   ·right
    have hne:((o:Int)==-1)=false:=by simp
    rw[h1,hne]
    refine⟨o+1,by simp,by simpa using h2,?_,by simpa using h4,h5⟩
    rw[List.take_succ_cons,h3]
theorem cutd(d:UInt8)(s:List UInt8)(hs:s.length≤1000000):dw s [d]=some (s.takeWhile (· != d),(s.dropWhile (· != d)).drop 1,s.contains d):=by
 have hi:b9 s [d]=some (Lib.indexByte s d):=by
  unfold b9
  by_cases he:s=[d]
  ·subst he
   rw[show (((([d]:List UInt8).length:Int)==0)||(([d]:List UInt8)==[d]))=true by simp,if_pos rfl]
   unfold Lib.indexByte
   rw[if_pos (by simp)]
  ·have:(((([d]:List UInt8).length:Int)==0)||(([d]:List UInt8)==s))=false:=by
    simp
    exact λe=>he e.symm
   rw[this]
   show bindO (stringslite_IndexByte s (d.toNat:Int)) _=_
   unfold stringslite_IndexByte
   have hd:((d.toNat:Int)).toNat.toUInt8=d:=by
    rw[zH]
    exact UInt8.ofNat_toNat
   rw[hd];rfl
 unfold dw du
 rw[hi,al]
 rcases idxd_facts d s with⟨h1,h2,h3,h4⟩|⟨o,h1,h2,h3,h4,h5⟩
 ·rw[h1,h2,h3,h4];rfl
 ·rw[h1,h5,←h3,←h4]
  have hw:IntKind.i64.wrap ((o:Int)+(([d]:List UInt8).length:Int))=((o+1:Nat):Int):=by
   simp only[zD,kR]
   rw[wrap_i64 (by omega) (by omega)];omega
  have hc1:cutT s (o:Int)=some (s.take o):=by unfold cutT;rw[if_neg (by omega),zH]
  have hc2:cutF s ((o+1:Nat):Int)=some (s.drop (o+1)):=by unfold cutF;rw[if_neg (by omega),zH]
  rw[decide_eq_true (show (o:Int)≥0 by omega),if_pos rfl,hc1,al,hw,hc2,al,al,kV]
theorem cont_drop(d:UInt8)(s:List UInt8):(s.contains d=false∧s.dropWhile (· != d)=[]∧s.takeWhile (· != d)=s)∨(s.contains d=true∧∃q,s.dropWhile (· != d)=d::q):=by
 rcases idxd_facts d s with⟨_,h2,h3,h4⟩|⟨o,_,h2,h3,h4,h5⟩
 ·exact .inl ⟨h4,h3,h2⟩
 ·right
  refine⟨h5,?_⟩
  cases hd:s.dropWhile (· != d)with
  | nil =>
   rw[hd]at h4
   have:=congrArg List.length h4
   simp at this;omega
  | cons c r =>
   have hc:=List.head?_dropWhile_not (· != d) s
   rw[hd]at hc
   simp at hc
   rw[hc]
   exact⟨r,rfl⟩
abbrev GR:=List aa×Int×Int
def pgN(out:List aa)(line:List UInt8)(K:List UInt8→GR):List UInt8→GR
 | []=>([],(out.length:Int)+1,2)
 | _::q=>if (prsV line).2.2≠0 then ([],(out.length:Int)+1,(prsV line).2.2)else K q
theorem pgN_cons(out:List aa)(line:List UInt8)(K:List UInt8→GR)(c:UInt8)(q:List UInt8):pgN out line K (c::q)=if (prsV line).2.2≠0 then ([],(out.length:Int)+1,(prsV line).2.2)else K q:=rfl
def pgV:Nat→List UInt8→List aa→GR
 | 0,_,out=>(out,0,0)
 | n+1,s,out=>if s=[]then (out,0,0)else pgN out (s.takeWhile (· != 10)) (λq=>pgV n q (out++[(prsV (s.takeWhile (· != 10))).1])) (s.dropWhile (· != 10))
theorem bk_Program_tot(s:List UInt8)(hs:s.length≤65536)(hc:(Lib.countByte s 10:Int)<20000):Tot (fR s) (λr=>r=pgV (s.length+1) s []):=by
  unfold fR
  have h1 : (if (decide ((s.length : Int) > 65536)) = true then
        some true
      else
        bindO (cZ s [10]) λ(y101:Int) =>
        if (decide (y101>20000))=true then
          some true
        else
          bindO (cZ s [10]) λ(y102:Int) =>
          if (y102==20000)=true then
            bindO (dE s [10]) λ(y103:Bool) =>
            some (!y103)
          else
            some false)=some false:=by
    have hcnt:cZ s [10]=some (Lib.countByte s 10:Int):=rfl
    rw[decide_eq_false (by omega),if_neg (by simp),hcnt,al,decide_eq_false (by omega),if_neg (by simp),al,show ((Lib.countByte s 10:Int)==20000)=false by simp;omega,if_neg (by simp)]
  rw[h1,al,if_neg (by simp)]
  generalize hT:pgV (s.length+1) s []=T
  refine Tot.bindX (E:=λout:List aa=>((out,0,0):GR)=T) (TotX.of (Tot.mono (E:=λx=>match x with | .ret e=>e=T | .go out=>((out,0,0):GR)=T) ?_ (λx h=>by cases x<;>exact h))) (λout h=>.ok h)
  refine Tot.loop (λm v=>∃(r:List UInt8) (out:List aa),v=(r,out,(out.length:Int)+1)∧pgV m r out=T∧r.length<m∧out.length+r.length≤s.length) _ (s.length+1) (eI (by omega)) ⟨s,[],by simp,hT,by omega,by simp⟩ (λm v hr=>?_)
  obtain⟨r,out,rfl,ht,hm,hlen⟩:=hr
  obtain⟨n,rfl⟩:∃n,m=n+1:=⟨m-1,by omega⟩
  unfold pgV at ht
  dsimp only
  by_cases hnil:r=[]
  · rw[if_pos hnil]at ht
    rw[show (!(r==([]:List UInt8)))=false by rw[hnil];rfl,if_neg (by simp)]
    exact .ret ht
  · rw[if_neg hnil]at ht
    have hb:(r==([]:List UInt8))=false:=by simpa using hnil
    rw[hb,zR,if_pos rfl,cutd 10 r (by omega),al]
    have htw:=(tw_len (· != 10) r).1
    obtain⟨y,hy,rfl⟩:=bk_Parse_tot (r.takeWhile (· != 10)) (by omega)
    rw[hy,al]
    rcases cont_drop 10 r with⟨c1,c2,_⟩|⟨c1,q,c2⟩
    · rw[c2]at ht
      rw[c1]
      exact .ret (by rw[←ht];rfl)
    · rw[c2]at ht
      rw[c1,c2]
      dsimp only
      rw[pgN_cons]at ht
      rw[if_neg (by simp),al]
      have hql:q.length<r.length:=by
        have:=congrArg List.length (zN (p:=(· != 10)) (l:=r))
        rw[zB,c2,zD]at this
        omega
      by_cases he:(prsV (r.takeWhile (· != 10))).2.2=0
      · rw[if_neg (by simpa using he)]at ht
        rw[he,if_neg (by simp),bd (by omega),aO]
        refine .go ⟨n,by omega,q,_,?_,ht,by omega,by simp;omega⟩
        rw[wrap_i64 (by omega) (by omega)]
        simp
      · rw[if_pos he]at ht
        rw[show ((prsV (r.takeWhile (· != 10))).2.2 != 0)=true by simpa using he,if_pos rfl]
        exact .ret ht
def prt(l:List aa):List UInt8:=(l.map λb=>fmtV b++[10]).flatten
theorem no10{b:aa}(h:df b):(fmtV b).all (· != 10)=true:=by
 have hn:∀l:List UInt8,l.all nch=true→l.all (· != 10)=true:=by
  intro l hl
  rw[zT]at hl ⊢
  intro x hx
  have:=hl x hx
  by_cases e:x=10
  ·subst e;cases this
  ·simpa using e
 have hw:∀w∈b.Words,(wt w).all (· != 10)=true:=by
  intro w hw
  obtain⟨o1,o2,_⟩:=h.2.2.1 w hw
  have hL:=jx o1 o2
  unfold wt
  rw[zI,hn _ (nch_txt _)]
  have:(UInt8.ofNat w.Letter.toNat != 10)=true:=by
   rw[bne_iff_ne]
   intro e
   rw[e]at hL
   have:(10:UInt8).toNat=10:=rfl
   omega
  rw[this];rfl
 have hc:∀x∈b.Words.map wt++cmT b.Comment,x.all (· != 10)=true:=by
  intro x hx
  rcases List.mem_append.1 hx with hx | hx
  ·obtain⟨w,hw',rfl⟩:=List.mem_map.1 hx
   exact hw w hw'
  ·unfold cmT at hx
   split at hx
   ·cases hx
   ·simp at hx
    subst hx
    rw[zI,zP]
    have:b.Comment.all (· != 10)=true:=by
     rw[zT]
     intro c hc
     have:=h.2.2.2 c hc
     by_cases e:c=10
     ·subst e;cases this
     ·simpa using e
    rw[this];rfl
 have hj:∀l:List (List UInt8),(∀x∈l,x.all (· != 10)=true)→(jn l).all (· != 10)=true:=by
  intro l hl
  cases l with
  | nil=>rfl
  | cons x l =>
   show (x++(l.map (32::·)).flatten).all (· != 10)=true
   rw[zP,hl x (by simp),kX,zT]
   intro c hc
   obtain⟨y,hy,hcy⟩:=List.mem_flatten.1 hc
   obtain⟨z,hz,rfl⟩:=List.mem_map.1 hy
   rcases List.mem_cons.1 hcy with rfl | hcz
   ·rfl
   ·exact List.all_eq_true.1 (hl z (by simp[hz])) c hcz
 unfold fmtV
 rw[zP,hj _ hc]
 cases b.Skip<;>rfl
theorem tw10{b:aa}(h:df b)(q:List UInt8):((fmtV b++[10])++q).takeWhile (· != 10)=fmtV b∧((fmtV b++[10])++q).dropWhile (· != 10)=10::q:=by
 have:=tw_gen (p:=(· != 10)) (fmtV b) (10::q) (no10 h) (.inr ⟨10,q,rfl,by simp⟩)
 rw[kW]
 exact this
theorem pgV_prt:∀(l:List aa) (n:Nat) (out:List aa),(∀b∈l,df b)→l.length<n→pgV n (prt l) out=(out++l,0,0)
 | [],n,out,_,hn=>by
  obtain⟨n,rfl⟩:∃q,n=q+1:=⟨n-1,by simp at hn;omega⟩
  rw[zE];rfl
 | b::l,n,out,h,hn=>by
  obtain⟨n,rfl⟩:∃q,n=q+1:=⟨n-1,by simp at hn;omega⟩
  obtain⟨t1,t2⟩:=tw10 (h b (by simp)) (prt l)
  have hp:prt (b::l)=(fmtV b++[10])++prt l:=by simp[prt]
  unfold pgV
  rw[if_neg (by rw[hp];simp),hp,t1,t2]
  rw[pgN_cons,parse_fmt b (h b (by simp)),if_neg (by simp),pgV_prt l n _ (λx hx=>h x (by simp[hx])) (by simpa using hn)]
  simp
theorem count_prt:∀l:List aa,(∀b∈l,df b)→Lib.countByte (prt l) 10=l.length
 | [],_=>rfl
 | b::l,h=>by
  have hp:prt (b::l)=(fmtV b++[10])++prt l:=by simp[prt]
  have ih:=count_prt l (λx hx=>h x (by simp[hx]))
  unfold Lib.countByte at ih ⊢
  rw[hp,List.count_append,List.count_append,ih]
  have h0:List.count 10 (fmtV b)=0:=by
   rw[List.count_eq_zero]
   intro hm
   have:=List.all_eq_true.1 (no10 (h b (by simp))) 10 hm
   cases this
  rw[h0]
  simp
  omega
section
variable {ε : Type}
end
def hasV(b:aa)(c n:Int):Bool:=b.Words.any λw=>(w.Letter==c)&&(w.Value==n)
def letV(b:aa)(c:Int):Bool:=b.Words.any λw=>w.Letter==c
theorem codes_has(l:List aw)(c n:Int):(fm l c).any (λk=>n==k)=l.any λw=>(w.Letter==c)&&(w.Value==n):=by
 induction l with
 | nil=>rfl
 | cons w l ih =>
  unfold fm at ih ⊢
  rw[List.any_cons,←ih,List.filter_cons]
  have hc:(n==w.Value)=(w.Value==n):=by
   rw[zF];simp only[beq_iff_eq];exact⟨λh=>h.symm,λh=>h.symm⟩
  cases (w.Letter==c)with
  | true=>simp[hc]
  | false=>simp
theorem codes_let(l:List aw)(c:Int):decide (((fm l c).length:Int)>0)=l.any λw=>w.Letter==c:=by
 induction l with
 | nil=>rfl
 | cons w l ih =>
  unfold fm at ih ⊢
  rw[List.any_cons,←ih,List.filter_cons]
  cases (w.Letter==c)with
  | true=>simp
  | false=>simp
def fewB(b:aa):Prop:=b.Words.length≤1000
theorem fh{b:aa}{c n:Int}(hb:fewB b):iX b c n=some (hasV b c n):=by
 unfold fewB at hb
 unfold iX aY bq hasV
 have hl:=codesV_len b.Words c
 rw[fq b c (by omega),al,aZ (by omega),aO,←codes_has]
 have key:∀(l:List Int) (i:Nat),∃z:Ex Int Unit,aU (λ(i127:Nat) (e129:Int) (v128:Unit)=>if (n==e129)=true then some (.ret (.ret (i127:Int)))else some (.go ())) (λ(v128:Unit)=>some (.go ())) l i ()=some z∧(match z with | .ret k=>0≤k∧l.any (λk=>n==k)=true | .go _=>l.any (λk=>n==k)=false):=by
  intro l
  induction l with
  | nil=>intro i;exact⟨_,rfl,rfl⟩
  | cons x l ih =>
   intro i
   simp only[aU,List.any_cons]
   cases h:(n==x)with
   | true=>exact⟨.ret (i:Int),by simp,by omega,rfl⟩
   | false =>
    obtain⟨z,h1,h2⟩:=ih (i+1)
    exact⟨z,by simpa using h1,by simpa using h2⟩
 obtain⟨z,h1,h2⟩:=key (fm b.Words c) 0
 rw[h1]
 cases z with
 | ret k=>simp only[bindX_r,al,h2.2];simp[h2.1]
 | go u=>simp only[bindX_g,al,h2];rfl
def foldB(b:aa):Bool:=!letV b 79&&(!hasV b 77 30000&&(!hasV b 77 99000&&(!letV b 78&&!hasV b 77 98000)))
theorem sp_foldable_eq{b:aa}(hb:fewB b):f7 b=some (foldB b):=by
 have hb':b.Words.length≤1000000:=by unfold fewB at hb;omega
 have h78:((((fm b.Words 78).length:Int)==0))=!letV b 78:=by
  unfold letV;rw[←codes_let]
  rw[zF];simp
 unfold f7 dU foldB
 simp only[fq b _ hb',fh hb,al,codes_let,h78]
 rw[show (b.Words.any λw=>w.Letter==79)=letV b 79 from rfl]
 cases letV b 79<;>cases hasV b 77 30000<;>cases hasV b 77 99000<;>cases letV b 78<;>cases hasV b 77 98000<;>rfl
def runBB(l:List aa)(n i k:Nat):Bool:=(List.range n).all λj=>match l[i+j]?,l[k+j]? with | some a,some b=>foldB a&&decide (a=b) | _,_=>false
theorem runB_iff{l:List aa}{n i k:Nat}:runBB l n i k=true↔∀j,j<n→∃a,l[i+j]? = some a∧l[k+j]? = some a∧foldB a=true:=by
 unfold runBB
 rw[zT]
 constructor
 ·intro h j hj
  have:=h j (List.mem_range.2 hj)
  cases h1:l[i+j]? with
  | none=>rw[h1]at this;simp at this
  | some a =>
   cases h2:l[k+j]? with
   | none=>rw[h1,h2]at this;simp at this
   | some b =>
    rw[h1,h2]at this
    simp at this
    exact⟨a,rfl,by rw[this.2],this.1⟩
 ·intro h j hj
  obtain⟨a,h1,h2,h3⟩:=h j (List.mem_range.1 hj)
  simp[h1,h2,h3]
theorem run_tot {l : List aa} {n i k : Nat} {eq fo : aa → Option Bool} {eqf : aa → aa → Option Bool} (hn : n ≤ 1000000) (hl : l.length ≤ 1000000) (hi : i + n ≤ l.length) (hk : k + n ≤ l.length) (hf : ∀ b ∈ l, fewB b)
    (hfo:∀b,fewB b→fo b=some (foldB b)) (heq:∀a b,fewB a→eqf a b=some (decide (a=b))) :
    bindX (loopX (λ(v163 : Int) =>
        if (decide (v163<(n:Int)))=true then
          bindO (bindO (gt l (IntKind.i64.wrap ((i : Int) + v163))) λ(e169 : aa) =>
              bindO (fo e169) λ(y170:Bool) =>
              if y170=true then
                bindO (gt l (IntKind.i64.wrap ((k:Int)+v163))) λ(e171:aa) =>
                bindO (eqf e169 e171) λ(y172:Bool) =>
                some (!y172)
              else
                some true) λ(v173:Bool) =>
          if v173=true then
            some (.ret (.ret false))
          else
            some (.go (IntKind.i64.wrap (v163+1)))
        else
          some (.ret (.go ()))) fuel 0) (λ(v137:Unit)=>some true)=some (runBB l n i k):=by
  have key : Tot (loopX (λ(v163 : Int) =>
        if (decide (v163<(n:Int)))=true then
          bindO (bindO (gt l (IntKind.i64.wrap ((i : Int) + v163))) λ(e169 : aa) =>
              bindO (fo e169) λ(y170:Bool) =>
              if y170=true then
                bindO (gt l (IntKind.i64.wrap ((k:Int)+v163))) λ(e171:aa) =>
                bindO (eqf e169 e171) λ(y172:Bool) =>
                some (!y172)
              else
                some true) λ(v173:Bool) =>
          if v173=true then
            some (.ret (.ret false))
          else
            some (.go (IntKind.i64.wrap (v163+1)))
        else
          some (.ret (.go ()))) fuel 0) (λ(e:Ex Bool Unit)=>(e=.ret false∧runBB l n i k=false)∨(e=.go ()∧runBB l n i k=true)):=by
    refine Tot.loop (λm (v:Int)=>∃j:Nat,v=(j:Int)∧j≤n∧m=n-j∧∀t,t<j→∃a,l[i+t]? = some a∧l[k+t]? = some a∧foldB a=true) _ n (eI (by omega)) ⟨0,rfl,by omega,rfl,λt ht=>by omega⟩ (λm v hv=>?_)
    obtain⟨j,rfl,h1,h2,h3⟩:=hv
    by_cases hj:j<n
    · have ha:l[i+j]? = some l[i+j]:=List.getElem?_eq_getElem (by omega)
      have hb:l[k+j]? = some l[k+j]:=List.getElem?_eq_getElem (by omega)
      generalize l[i+j]=a at ha
      generalize l[k+j]=b at hb
      have fa:=hf a (List.mem_of_getElem? ha)
      refine TotX.ite (λ_=>?_) (λq=>by simp at q<;>omega)
      rw[wrap_i64 (by omega) (by omega),show (i:Int)+(j:Int)=((i+j:Nat):Int) by omega,gt_k ha,al,hfo a fa,al]
      rw[wrap_i64 (n:=(k:Int)+(j:Int)) (by omega) (by omega),show (k:Int)+(j:Int)=((k+j:Nat):Int) by omega,gt_k hb,al,heq a b fa,al]
      have hno:(foldB a=false∨a≠b)→runBB l n i k=false:=by
        intro q
        cases hr:runBB l n i k with
        | false=>rfl
        | true =>
          obtain⟨c,c1,c2,c3⟩:=runB_iff.1 hr j hj
          rw[ha]at c1;injection c1 with c1
          rw[hb]at c2;injection c2 with c2
          rcases q with q | q
          · rw[c1,c3]at q;cases q
          · exact absurd (c1.trans c2.symm) q
      cases hfa:foldB a with
      | false =>
        simp only[zA,if_false,al,if_true]
        exact .ret (.inl ⟨rfl,hno (.inl hfa)⟩)
      | true =>
        simp only[if_true,al]
        by_cases hab:a=b
        · rw[decide_eq_true hab]
          simp only[zW,zA,if_false]
          refine .go ⟨n-(j+1),by omega,j+1,by rw[wrap_i64 (by omega) (by omega)];simp,by omega,rfl,λt ht=>?_⟩
          rcases zJ t j with z | z
          · exact h3 t z
          · obtain rfl:t=j:=by omega
            exact⟨a,ha,by rw[hb,hab],hfa⟩
        · rw[decide_eq_false hab]
          simp only[zR,if_true]
          exact .ret (.inl ⟨rfl,hno (.inr hab)⟩)
    · refine TotX.ite (λq=>by simp at q<;>omega) (λ_=>.ret (.inr ⟨rfl,?_⟩))
      have:j=n:=by omega
      subst this
      exact runB_iff.2 h3
  obtain⟨e,he,h⟩:=key
  rw[he]
  rcases h with⟨rfl,h⟩|⟨rfl,h⟩<;>rw[h]<;>rfl
theorem sp_run_eq{l:List aa}{n i k:Nat}(hn:n≤1000000)(hl:l.length≤1000000)(hi:i+n≤l.length)(hk:k+n≤l.length)(hf:∀b∈l,fewB b):sp_run l (i:Int) (k:Int) (n:Int)=some (runBB l n i k) :=
 run_tot (eq:=λ_=>none) hn hl hi hk hf (λb h=>sp_foldable_eq h) (λa b h=>equal_eq a b (by unfold fewB at h;omega))
def ie(l:List aa)(n i:Nat):Bool:=(List.range (l.length+1)).any λk=>decide (i+n≤k)&&(decide (k+n≤l.length)&&runBB l n i k)
theorem ic{l:List aa}{n i:Nat}:ie l n i=true↔∃k,i+n≤k∧k+n≤l.length∧runBB l n i k=true:=by
 unfold ie
 rw[List.any_eq_true]
 constructor
 ·rintro⟨k,_,h⟩
  simp at h
  exact⟨k,h⟩
 ·rintro⟨k,h1,h2,h3⟩
  exact⟨k,List.mem_range.2 (by omega),by simp[h1,h2,h3]⟩
theorem jC{l:List aa}{n i:Nat}(h:∀k,i+n≤k→k+n≤l.length→runBB l n i k=false):ie l n i=false:=by
 cases hb:ie l n i with
 | false=>rfl
 | true =>
  obtain⟨k,h1,h2,h3⟩:=ic.1 hb
  rw[h k h1 h2]at h3;cases h3
def atV(l:List aa)(n:Nat):Option Nat:=(List.range (l.length+1)).find? (ie l n)
theorem find_range{p:Nat→Bool}:∀{m i:Nat},i<m→p i=true→(∀j,j<i→p j=false)→(List.range m).find? p=some i
 | 0,i,h,_,_=>by omega
 | m+1,i,h,hp,hn=>by
  rw[List.range_succ,List.find?_append]
  rcases zJ i m with q | q
  ·rw[find_range q hp hn];rfl
  ·obtain rfl:i=m:=by omega
   have:(List.range i).find? p=none:=List.find?_eq_none.2 λx hx=>by simp[hn x (List.mem_range.1 hx)]
   rw[this]
   simp[hp]
theorem atV_some{l:List aa}{n i:Nat}(h:ie l n i=true)(hn:∀j,j<i→ie l n j=false):atV l n=some i:=by
 obtain⟨k,h1,h2,_⟩:=ic.1 h
 exact find_range (by omega) h hn
theorem atV_none{l:List aa}{n:Nat}(hn:∀j,ie l n j=false):atV l n=none:=List.find?_eq_none.2 λx _=>by simp[hn x]
theorem sp_first_tot{l:List aa}{n:Nat}(h1:1≤n)(h2:2*n≤l.length)(hl:l.length≤1000000)(hf:∀b∈l,fewB b):Tot (sp_first l (n:Int)) (λr=>match atV l n with | none=>r=-1 | some i=>r=(i:Int)):=by
 unfold sp_first
 refine Tot.bindX (E:=λ_=>∀j,ie l n j=false) (TotX.of (Tot.loop (λm (v:Int)=>∃i:Nat,v=(i:Int)∧i≤l.length∧m=l.length-i∧∀j,j<i→ie l n j=false) _ l.length (eI (by omega)) ⟨0,rfl,by omega,rfl,λj hj=>by omega⟩ (λm v hv=>?_))) (λv hv=>.ok ?_)
 ·obtain⟨i,rfl,a1,a2,a3⟩:=hv
  rw[wrap_i64 (n:=(i:Int)+(n:Int)) (by omega) (by omega),wrap_i64 (n:=(l.length:Int)-(n:Int)) (by omega) (by omega)]
  by_cases hi:i+n+n≤l.length
  ·refine TotX.ite (λ_=>?_) (λq=>by simp at q<;>omega)
   refine TotX.bindX (E:=λ_=>ie l n i=false) (TotX.of (Tot.loop (λm (v:Int)=>∃k:Nat,v=(k:Int)∧i+n≤k∧k≤l.length∧m=l.length-k∧∀j,i+n≤j→j<k→runBB l n i j=false) _ (l.length-(i+n)) (eI (by omega)) ⟨i+n,by omega,by omega,by omega,rfl,λj q1 q2=>by omega⟩ (λm v hv=>?_))) (λ_ hb=>.go ?_)
   ·obtain⟨k,rfl,b1,b2,b3,b4⟩:=hv
    rw[wrap_i64 (n:=(k:Int)+(n:Int)) (by omega) (by omega)]
    by_cases hk:k+n≤l.length
    ·refine TotX.ite (λ_=>?_) (λq=>by simp at q<;>omega)
     rw[sp_run_eq (by omega) hl (by omega) hk hf,al]
     refine TotX.ite (λq=>.ret ?_) (λq=>.go ⟨l.length-(k+1),by omega,k+1,by rw[wrap_i64 (by omega) (by omega)];simp,by omega,by omega,rfl,λj q1 q2=>?_⟩)
     ·show match atV l n with | none=>(i:Int)=-1 | some j=>(i:Int)=(j:Int)
      rw[atV_some (ic.2 ⟨k,b1,hk,q⟩) a3]
     ·rcases zJ j k with z | z
      ·exact b4 j q1 z
      ·obtain rfl:j=k:=by omega
       exact q
    ·refine TotX.ite (λq=>by simp at q<;>omega) (λ_=>.ret ?_)
     exact jC λj q1 q2=>b4 j q1 (by omega)
   ·refine⟨l.length-(i+1),by omega,i+1,by rw[wrap_i64 (by omega) (by omega)];simp,by omega,rfl,λj hj=>?_⟩
    rcases zJ j i with z | z
    ·exact a3 j z
    ·obtain rfl:j=i:=by omega
     exact hb
  ·refine TotX.ite (λq=>by simp at q<;>omega) (λ_=>.ret ?_)
   intro j
   rcases zJ j i with z | z
   ·exact a3 j z
   ·exact jC λk q1 q2=>by omega
 ·rw[atV_none hv]
def callB:aa:=⟨false,[⟨77,98000⟩,⟨80,1000000⟩],[]⟩
def markB(c n:Int):aa:=⟨false,[⟨c,n⟩],[]⟩
theorem cutL_at{α:Type}{l:List α}{a n:Nat}(h:a+n≤l.length):cutL l (a:Int) ((a+n:Nat):Int)=some ((l.drop a).take n):=by
 unfold cutL
 rw[if_neg (by omega)]
 simp only[zH]
 rw[show a+n-a=n by omega]
theorem atV_run{l:List aa}{n a:Nat}(h:atV l n=some a):a+n+n≤l.length:=by
 have hfa:ie l n a=true:=List.find?_some h
 obtain⟨k,h1,h2,_⟩:=ic.1 hfa
 omega
def numB(n k:Int)(b:aa):aa×Int:=if (!letV b 79&&!hasV b 77 99000)=true then (⟨b.Skip,[⟨78,IntKind.i64.wrap (1000*IntKind.i64.wrap (k+n))⟩]++b.Words,b.Comment⟩,IntKind.i64.wrap (k+n))else (b,k)
def numV(n:Int):Int→List aa→List aa
 | _,[]=>[]
 | k,b::r=>(numB n k b).1::numV n (numB n k b).2 r
theorem find_let(b:aa)(c:Int):(findV b.Words c).2=letV b c:=by
 unfold findV letV
 cases h:b.Words.find? (λw=>w.Letter==c)with
 | none =>
  rw[List.find?_eq_none]at h
  symm
  rw[List.any_eq_false]
  exact h
 | some w =>
  have h1:=List.find?_some h
  have h2:=List.mem_of_find?_eq_some h
  symm
  exact List.any_eq_true.2 ⟨w,h2,h1⟩
def fxA{α:Type}(p:α→Bool):List α→Nat→Int
 | [],_=>-1
 | x::l,i=>if p x=true then (i:Int)else fxA p l (i+1)
theorem ix_eq{α β:Type}{p:α→Bool}{f:α→Option Bool}(k:Int→Option β)(l:List α)(hl:l.length≤9223372036854775807)(hf:∀x∈l,f x=some (p x)) :
  bindO (bindX (aE (okIdx l) (aU (λ(i:Nat) (e:α) (v:Unit)=>bindO (f e) λ(y:Bool)=>if y=true then some (.ret (.ret (i:Int)))else some (.go ())) (λ(v:Unit)=>some (.go ())) l 0 ())) λ(_:Unit)=>some (-1)) k=k (fxA p l 0):=by
 rw[aZ hl,aO]
 have key:∀(l:List α) (i:Nat),(∀x∈l,f x=some (p x))→bindX (aU (λ(i:Nat) (e:α) (v:Unit)=>bindO (f e) λ(y:Bool)=>if y=true then some (.ret (.ret (i:Int)))else some (.go ())) (λ(v:Unit)=>some (.go ())) l i ()) (λ(_:Unit)=>some (-1))=some (fxA p l i):=by
  intro l
  induction l with
  | nil=>intro i _;rfl
  | cons x l ih =>
   intro i hf
   simp only[aU,hf x (by simp),al,fxA]
   cases p x with
   | true=>rfl
   | false=>exact ih (i+1) (λy hy=>hf y (by simp[hy]))
 rw[key l 0 hf,al]
theorem fxA_none{α:Type}{p:α→Bool}:∀(l:List α) (i:Nat),(∀x∈l,p x=false)→fxA p l i=-1
 | [],_,_=>rfl
 | x::l,i,h=>by rw[fxA,h x (by simp),if_neg (by simp)];exact fxA_none l (i+1) (λy hy=>h y (by simp[hy]))
theorem fxA_app{α:Type}{p:α→Bool}{x:α}{r:List α}(hx:p x=true):∀(l:List α) (i:Nat),(∀y∈l,p y=false)→fxA p (l++x::r) i=((i+l.length:Nat):Int)
 | [],i,_=>by simp[fxA,hx]
 | y::l,i,h=>by
  rw[zK,fxA,h y (by simp),if_neg (by simp),fxA_app hx l (i+1) (λz hz=>h z (by simp[hz])),zD]
  congr 1;omega
def mkV(b:aa):Bool:=letV b 79||(hasV b 77 30000||hasV b 77 99000)
theorem sp_marked_eq{b:aa}(hb:fewB b):dU b=some (mkV b):=by
 have hb':b.Words.length≤1000000:=by unfold fewB at hb;omega
 unfold dU mkV
 simp only[fq b _ hb',fh hb,al,codes_let]
 rw[show (b.Words.any λw=>w.Letter==79)=letV b 79 from rfl]
 cases letV b 79<;>cases hasV b 77 30000<;>cases hasV b 77 99000<;>rfl
structure EndB (b:aa):Prop where
 few:fewB b
 o:letV b 79=false
 m:hasV b 77 30000=true
 r:hasV b 77 99000=false
structure FreeB (b:aa):Prop where
 few:fewB b
 o:letV b 79=false
 m:hasV b 77 30000=false
 r:hasV b 77 99000=false
theorem FreeB.mk'{b:aa}(h:FreeB b):mkV b=false:=by simp[mkV,h.o,h.m,h.r]
theorem ordered_c1{s:aG}(h:∀b∈s.Blocks,FreeB b)(hl:s.Blocks.length≤9223372036854775807):dG s=some false:=by
 unfold dG
 rw[ix_eq (p:=mkV) (f:=dU) _ s.Blocks hl (λb hb=>sp_marked_eq (h b hb).few),fxA_none _ _ (λb hb=>(h b hb).mk')]
 rfl
theorem cutT_app{α:Type}{l r:List α}:cutT (l++r) (l.length:Int)=some l:=by
 unfold cutT
 rw[if_neg (by simp;omega)];simp
theorem cutF_app{α:Type}{l r:List α}:cutF (l++r) (l.length:Int)=some r:=by
 unfold cutF
 rw[if_neg (by simp;omega)];simp
theorem gt_app{α:Type}{l r:List α}{x:α}:gt (l++x::r) (l.length:Int)=some x:=by
 unfold gt
 rw[if_neg (by omega)];simp
theorem ordered_eq{X:List aa}{E:aa}{S:List aG}(hX:∀b∈X,FreeB b)(hE:EndB E)(hS:∀s∈S,s.Blocks.length≤100000∧∀b∈s.Blocks,FreeB b)(hl:X.length≤100000)(hs:S.length≤100000):fP ⟨X++[E],S⟩=some true:=by
 have hw:IntKind.i64.wrap (((X++[E]).length:Int)-1)=(X.length:Int):=by rw[wrap_i64 (by simp only[zB,zM];omega) (by simp only[zB,zM];omega)];simp
 have hE':E.Words.length≤1000000:=by have:=hE.few;unfold fewB at this;omega
 have hco:decide (((fm E.Words 79).length:Int)>0)=false:=by rw[codes_let];exact hE.o
 unfold fP
 simp only[hw,decide_eq_false (show ¬(X.length:Int)<0 by omega),gt_app,al,fh hE.few,hE.m,hE.r,fq E _ hE',hco,cutT_app,if_true,zA,if_false]
 rw[ix_eq (p:=mkV) (f:=dU) _ X (by omega) (λb hb=>sp_marked_eq (hX b hb).few),fxA_none _ _ (λb hb=>(hX b hb).mk')]
 simp only[al,show decide ((-1:Int)≥0)=false from rfl,zA,if_false]
 rw[ix_eq (p:=λ_=>false) (f:=dG) _ S (by omega) (λs hs'=>ordered_c1 (hS s hs').2 (by have:=(hS s hs').1;omega)),fxA_none _ _ (λ_ _=>rfl)]
 rfl
theorem repeated_nil:d5 []=some false:=rfl
theorem repeated_one(s:aG):d5 [s]=some false:=rfl
theorem clone_eq{l:List aa}(h:l.length≤100000):aD l=some l:=by unfold aD;rw[bd (by omega),aO]
theorem split_c1{b:aa}(h:fewB b):d6 b=some (hasV b 77 30000):=by unfold d6;rw[fh h,al]
theorem split_plain{X:List aa}{E:aa}(hX:∀b∈X,FreeB b)(hE:EndB E)(hl:X.length≤1000):gB (X++[E])=some (⟨X++[E],[]⟩,0):=by
  unfold gB
  rw[ix_eq (p:=λb=>hasV b 77 30000) (f:=d6) _ (X++[E]) (by simp;omega) (λb hb=>by
    rcases List.mem_append.1 hb with hb | hb
    · exact split_c1 (hX b hb).few
    · simp at hb;subst hb;exact split_c1 hE.few),fxA_app (p:=λb=>hasV b 77 30000) hE.m X 0 (λb hb=>(hX b hb).m),Nat.zero_add]
  have hw:IntKind.i64.wrap ((X.length:Int)+1)=((X++[E]).length:Int):=by rw[wrap_i64 (by omega) (by omega)];simp
  have h1:cutT (X++[E]) ((X++[E]).length:Int)=some (X++[E]):=by have:=cutT_app (l:=X++[E]) (r:=[]);rwa [zE]at this
  have h2:cutF (X++[E]) ((X++[E]).length:Int)=some []:=by have:=cutF_app (l:=X++[E]) (r:=[]);rwa [zE]at this
  simp only[decide_eq_false (show ¬(X.length:Int)<0 by omega),zA,if_false,hw,h1,h2,al,clone_eq (show (X++[E]).length≤100000 by simp;omega)]
  have hlp:∀{f:(List aa)×(List aG)→Option (Ex (Ex (aA×Int) (List aG)) ((List aa)×(List aG)))},f ([],[])=some (.ret (.go []))→loopX f fuel ([],[])=some (.go []):=by
    intro f hf
    unfold fuel
    rw[loopX,hf]
  rw[hlp rfl]
  simp only[bindX_g]
  rw[ordered_eq hX hE (λs hs=>by simp at hs) (by omega) (by simp),al,repeated_nil]
  rfl
def plnB(b:aa):Bool:=((b.Words.length:Int)==1)&&(!b.Skip&&(b.Comment==[]))
theorem split_c2{b:aa}(h:fewB b):eV b=some (plnB b&&hasV b 77 99000):=by
 unfold eV jQ
 rw[al,show ((((b.Words.length:Int)==1)&&(!b.Skip&&(b.Comment==[]))))=plnB b from rfl]
 cases plnB b with
 | true=>simp only[if_true,fh h,al,kX]
 | false=>rfl
theorem begin_mark{q:Int}(h1:1≤q)(h2:q≤9999):fi (markB 79 (1000*q))=some (q,true):=by
 have e1:Int.tdiv (1000*q) 1000=q:=by rw[kO (by omega)];omega
 have e2:Int.tmod (1000*q) 1000=0:=by rw[Int.tmod_eq_emod_of_nonneg (by omega)];omega
 unfold fi jQ sp_whole
 simp only[markB,al,show gt [aw.mk 79 (1000*q)] 0=some ⟨79,1000*q⟩ from rfl,e1,e2,wrap_i64 (show -9223372036854775808≤q by omega) (show q≤9223372036854775807 by omega),decide_eq_true (show q≥1 by omega),decide_eq_true (show q≤9999 by omega)]
 rfl
theorem split_fold {q : Int} (hq1 : 1 ≤ q) (hq2 : q ≤ 9999) {X Y : List aa} {E : aa} (hX : ∀ b ∈ X, FreeB b) (hE : EndB E) (hY : ∀ b ∈ Y, FreeB b) (hl : X.length ≤ 1000) (hl2 : Y.length ≤ 1000) :
    gB ((X++[E])++markB 79 (1000*q)::(Y++[markB 77 99000]))=some (⟨X++[E],[⟨q,Y⟩]⟩,0):=by
  have hO:fewB (markB 79 (1000*q)):=by simp[fewB,markB]
  have hR:fewB (markB 77 99000):=by simp[fewB,markB]
  unfold gB
  have hfew:∀b∈(X++[E])++markB 79 (1000*q)::(Y++[markB 77 99000]),fewB b:=by
    intro b hb
    simp only[List.mem_append,List.mem_cons,List.not_mem_nil,or_false]at hb
    rcases hb with (hb | rfl) | rfl | hb | rfl
    · exact (hX b hb).few
    · exact hE.few
    · exact hO
    · exact (hY b hb).few
    · exact hR
  rw[ix_eq (p:=λb=>hasV b 77 30000) (f:=d6) _ _ (by simp;omega) (λb hb=>split_c1 (hfew b hb)),kW X [E],List.singleton_append,fxA_app (p:=λb=>hasV b 77 30000) hE.m X 0 (λb hb=>(hX b hb).m),Nat.zero_add]
  have hw:IntKind.i64.wrap ((X.length:Int)+1)=((X++[E]).length:Int):=by rw[wrap_i64 (by omega) (by omega)];simp
  have ha:X++E::markB 79 (1000*q)::(Y++[markB 77 99000])=(X++[E])++(markB 79 (1000*q)::(Y++[markB 77 99000])):=by simp
  rw[ha]
  simp only[decide_eq_false (show ¬(X.length:Int)<0 by omega),zA,if_false,hw,cutT_app,cutF_app,al,clone_eq (show (X++[E]).length≤100000 by simp;omega)]
  have hlp:∀{f:(List aa)×(List aG)→Option (Ex (Ex (aA×Int) (List aG)) ((List aa)×(List aG)))} {a b:List aa×List aG},f a=some (.go b)→f b=some (.ret (.go b.2))→loopX f fuel a=some (.go b.2):=by
    intro f a b h1 h2
    unfold fuel
    rw[loopX,h1]
    simp only
    rw[loopX,h2]
  rw[hlp (b:=([],[⟨q,Y⟩])) ?_ rfl]
  · simp only[bindX_g]
    rw[ordered_eq hX hE (λs hs=>by simp at hs;subst hs;exact⟨by simp only;omega,hY⟩) (by omega) (by simp),al,repeated_one]
    rfl
  · simp only[decide_eq_true (show (((markB 79 (1000*q)::(Y++[markB 77 99000])).length:Int)>0) by simp;omega),if_true]
    rw[show gt (markB 79 (1000*q)::(Y++[markB 77 99000])) 0=some (markB 79 (1000*q)) from rfl,al,begin_mark hq1 hq2,al]
    rw[ix_eq (p:=λb=>plnB b&&hasV b 77 99000) (f:=eV) _ _ (by simp;omega) (λb hb=>split_c2 (hfew b (List.mem_append.2 (.inr hb))))]
    rw[show markB 79 (1000*q)::(Y++[markB 77 99000])=(markB 79 (1000*q)::Y)++markB 77 99000::[] by simp,fxA_app (p:=λb=>plnB b&&hasV b 77 99000) (by rfl) _ 0 (λb hb=>by
      rcases List.mem_cons.1 hb with rfl | hb
      · rfl
      · simp[(hY b hb).r])]
    have hw2:IntKind.i64.wrap (((0+(markB 79 (1000*q)::Y).length:Nat):Int)+1)=(((markB 79 (1000*q)::Y)++[markB 77 99000]).length:Int):=by rw[wrap_i64 (by simp;omega) (by simp;omega)];simp
    have hc:cutL ((markB 79 (1000*q)::Y)++[markB 77 99000]) 1 ((0+(markB 79 (1000*q)::Y).length:Nat):Int)=some Y:=by
      unfold cutL
      rw[if_neg (by simp;omega)]
      simp
    have hc2:cutF ((markB 79 (1000*q)::Y)++[markB 77 99000]) (((markB 79 (1000*q)::Y)++[markB 77 99000]).length:Int)=some []:=by have:=cutF_app (l:=(markB 79 (1000*q)::Y)++[markB 77 99000]) (r:=[]);rwa [zE]at this
    simp only[decide_eq_false (show ¬((0+(markB 79 (1000*q)::Y).length:Nat):Int)<0 by omega),zW,Bool.or_self,zA,if_false,hc,al,clone_eq (show Y.length≤100000 by omega),hw2,hc2,kP]
    rfl
def callR(q:Int)(c:Bool):Int×Int×Bool×Int:=if c=true then (q,1,true,0)else (0,0,false,0)
theorem concat1{M:List aa}(h:M.length≤1000):aW [M]=some M:=by
 unfold aW
 have h1:IntKind.i64.wrap (0+(M.length:Int))=(M.length:Int):=by rw[Int.zero_add,wrap_i64 (by omega) (by omega)]
 rw[aZ (by simp),aO]
 simp only[aU,h1,decide_eq_false (show ¬((M.length:Int)<0) by omega),zA,if_false,al,aO,decide_eq_true (show 0≤(M.length:Int)∧(M.length:Int)≤16777216 by omega),kP,kR,Nat.zero_add,bd (show M.length≤_ by omega)]
theorem concat2{M Y:List aa}(h:M.length≤1000)(h2:Y.length≤1000):aW [M,Y]=some (M++Y):=by
 unfold aW
 have h1:IntKind.i64.wrap (0+(M.length:Int))=(M.length:Int):=by rw[Int.zero_add,wrap_i64 (by omega) (by omega)]
 have h3:IntKind.i64.wrap ((M.length:Int)+(Y.length:Int))=(M.length:Int)+(Y.length:Int):=by rw[wrap_i64 (by omega) (by omega)]
 rw[aZ (by simp),aO]
 simp only[aU,h1,h3,decide_eq_false (show ¬((M.length:Int)<0) by omega),decide_eq_false (show ¬((M.length:Int)+(Y.length:Int)<0) by omega),zA,if_false,al,aO,decide_eq_true (show 0≤(M.length:Int)+(Y.length:Int)∧(M.length:Int)+(Y.length:Int)≤16777216 by omega),kP,kR,Nat.zero_add,bd (show M.length≤_ by omega),bd (show M.length+Y.length≤_ by omega)]
theorem iu{α:Type}{l:List α}{i:Nat}{x:α}(h:l[i]? = some x):l.take (i+1)=l.take i++[x]:=by rw[List.take_add_one,h];rfl
theorem mmI_maxB(a b:Int):mmI true a b=max a b:=by simp only[mmI];split<;>omega
theorem mmI_min(a b:Int):mmI false a b=min a b:=by simp only[mmI];split<;>omega
theorem expand_eq{q:Int}{M Y:List aa}{S:List aG}{cl:aa→Bool}(hp:gO ⟨M,S⟩=some true)(hS:(S=[]∧∀b∈M,cl b=false)∨S=[⟨q,Y⟩])
  (hM:∀b∈M,dl b=some (callR q (cl b))) (hY:∀b∈Y,dl b=some (callR q false)) (hl:M.length≤1000) (hl2:Y.length≤1000) (ht:(M.flatMap λb=>if cl b=true then Y else [b]).length≤10000)
  (hw:∀b∈M++Y,fewB b):f8 ⟨M,S⟩=some (M.flatMap (λb=>if cl b=true then Y else [b]),0):=by
 obtain⟨SM,hSM⟩:∃SM:List (Int×List aa),(S=[]∧(∀b∈M,cl b=false)∧SM=[])∨(S=[⟨q,Y⟩]∧SM=[(q,Y)]):=by
  rcases hS with⟨h,h2⟩ | h
  ·exact⟨[],.inl ⟨h,h2,rfl⟩⟩
  ·exact⟨[(q,Y)],.inr ⟨h,rfl⟩⟩
 have hcl:∀b∈M,cl b=true→SM=[(q,Y)]:=by
  intro b hb h
  rcases hSM with⟨_,h2,_⟩|⟨_,h2⟩
  ·rw[h2 b hb]at h;cases h
  ·exact h2
 have htk:∀i,((M.take i).flatMap λb=>if cl b=true then Y else [b]).length≤10000:=by
  intro i
  have:=List.take_append_drop i M
  have h2:((M.take i).flatMap (λb=>if cl b=true then Y else [b])++(M.drop i).flatMap (λb=>if cl b=true then Y else [b])).length≤10000:=by rw[←zL,this];exact ht
  rw[zB]at h2;omega
 suffices h:Tot (f8 ⟨M,S⟩) (λe=>e=(M.flatMap (λb=>if cl b=true then Y else [b]),0)) by
  obtain⟨e,h1,h2⟩:=h
  rw[h1,h2]
 unfold f8
 refine Tot.bind (E:=λv=>v.2.1=SM) (Tot.bind (E:=λv=>v.1=SM∧(mget v.2.2.1 q).getD 0=0∧(mget v.2.2.2 q).getD 0=((((mget SM q).getD []).length:Nat):Int)) ?_ (λv hv=>?_)) (λv hv=>?_)
 ·rw[hp,al]
  simp only[zW,zA,if_false]
  refine Tot.bind (E:=λv=>v.2=SM∧∃W,aW v.1=some W∧W.length≤2000∧∀b∈W,∃c,dl b=some (callR q c)∧(c=true→SM=[(q,Y)])) ?_ (λv2 h2=>?_)
  ·rcases hSM with⟨rfl,hn,rfl⟩|⟨rfl,rfl⟩
   ·exact⟨_,rfl,rfl,M,concat1 hl,by omega,λb hb=>⟨_,hM b hb,hcl b hb⟩⟩
   ·refine⟨_,rfl,rfl,M++Y,concat2 hl hl2,by simp;omega,λb hb=>?_⟩
    rcases List.mem_append.1 hb with hb | hb
    ·exact⟨_,hM b hb,hcl b hb⟩
    ·exact⟨false,hY b hb,λh=>by cases h⟩
  ·obtain⟨e2,W,hW,hWl,hWc⟩:=h2
   rw[hW,al,e2]
   refine Tot.bindX (E:=λv=>v.length≤2000∧∀n∈v,n=q∧SM=[(q,Y)]) (TotX.guard (aZ (by omega)) (TotX.of (Tot.range (λi v=>v.length≤i∧∀n∈v,n=q∧SM=[(q,Y)]) _ ⟨by simp,by simp⟩ (λi b v hb hv=>?_) (λv hv=>.ok ⟨by have:=hv.1;omega,hv.2⟩)))) (λv5 h5=>?_)
   ·obtain⟨c,hc,hc2⟩:=hWc b (List.mem_of_getElem? hb)
    have hi:=ao hb
    rw[hc,al]
    cases c with
    | false=>exact TotX.go ⟨by omega,hv.2⟩
    | true =>
     refine TotX.bindX (E:=λu=>u=v++[q]) (TotX.guard (bd (by omega)) (TotX.go rfl)) (λu hu=>TotX.go ?_)
     subst hu
     refine⟨by simp;omega,λn hn=>?_⟩
     rcases List.mem_append.1 hn with hn | hn
     ·exact hv.2 n hn
     ·simp at hn;exact⟨hn,hc2 rfl⟩
   ·refine Tot.bindX (E:=λ_=>True) (TotX.guard (aZ (by omega)) (TotX.of (Tot.range (λ_ _=>True) _ trivial (λi n v hn _=>?_) (λv _=>.ok trivial)))) (λv7 _=>?_)
    ·obtain⟨h1,h2⟩:=h5.2 n (List.mem_of_getElem? hn)
     rw[h1,h2]
     simp only[mget,beq_self_eq_true,if_true,Option.isSome_some,zW,zA,if_false]
     exact TotX.go trivial
    ·rcases hSM with⟨rfl,hn,rfl⟩|⟨rfl,rfl⟩
     ·exact⟨_,rfl,rfl,rfl,rfl⟩
     ·refine Tot.bindX (E:=λv=>(mget v.2.1 q).getD 0=0∧(mget v.2.2 q).getD 0=(Y.length:Int)) (TotX.guard rfl (TotX.of (Tot.range (λi v=>(i=0→v=([],[],[]))∧(1≤i→(mget v.2.1 q).getD 0=0∧(mget v.2.2 q).getD 0=(Y.length:Int))) _ ⟨λ_=>rfl,λh=>by omega⟩ (λi s v hs hv=>?_) (λv hv=>.ok (hv.2 (by simp)))))) (λv hv=>⟨_,rfl,rfl,hv.1,by show _=((((mget [(q,Y)] q).getD []).length:Nat):Int);rw[show mget [(q,Y)] q=some Y by simp[mget]];exact hv.2⟩)
      have hi:=ao hs
      simp only[zM]at hi
      have h0:i=0:=by omega
      subst h0
      have hv0:=hv.1 rfl
      subst hv0
      simp only[List.getElem?_cons_zero,Option.some.injEq]at hs
      subst hs
      simp only[mget,Option.getD_none,show ((0:Int)==1)=false from rfl,show ((0:Int)==2)=false from rfl,zA,if_false,show (q==q)=true from beq_self_eq_true q,if_true,kZ]
      refine TotX.bind (E:=λv=>v.1=true∧(mget v.2.2.1 q).getD 0=0∧(mget v.2.2.2 q).getD 0=(Y.length:Int)) ?_ (λv hv=>?_)
      ·refine Tot.bind (E:=λ_=>True) (Tot.guard (aZ (by omega)) (Tot.range (λ_ _=>True) _ trivial (λi b v hb _=>?_) (λv _=>.ok trivial))) (λ_ _=>?_)
       ·rw[hY b (List.mem_of_getElem? hb),al]
        exact TotX.go trivial
       ·refine Tot.bind (E:=λv=>v=(0,(Y.length:Int))) (Tot.bind (E:=λv=>v=(0,(Y.length:Int))) (Tot.guard (aZ (by omega)) (Tot.range (λi v=>v=(0,(i:Int))) _ rfl (λi b v hb hv=>?_) (λv hv=>.ok hv))) (λv hv=>.ok (by rw[hv]))) (λv hv=>.ok ?_)
        ·subst hv
         have hi:=ao hb
         rw[hY b (List.mem_of_getElem? hb),al]
         have e1:IntKind.i64.wrap ((i:Int)+1)=(i:Int)+1:=by rw[wrap_i64 (by omega) (by omega)]
         refine TotX.go ?_
         simp only[callR,zA,if_false,e1,mmI_min,Prod.mk.injEq,true_and]
         omega
        ·subst hv
         exact⟨rfl,by simp[mput,mget],by simp[mput,mget]⟩
      ·rw[hv.1]
       exact TotX.go ⟨λh=>by omega,λ_=>hv.2⟩
 ·obtain⟨h1,h2,h3⟩:=hv
  refine Tot.bind (E:=λv=>v.1≤1∧v.2≤10000) (Tot.bind (E:=λv=>v.1≤1∧v.2≤10000) (Tot.guard (aZ (by simp only;omega)) (Tot.range (λi v=>(0≤v.1∧v.1≤1)∧v.2=((((M.take i).flatMap λb=>if cl b=true then Y else [b]).length:Nat):Int)) _ ⟨⟨by simp,by simp⟩,by simp⟩ (λi b v hb hv=>?_) (λv hv=>.ok ?_))) (λv hv=>.ok hv)) (λv hv=>?_)
  ·have hbm:=List.mem_of_getElem? hb
   have hti:=htk (i+1)
   have hti0:=htk i
   rw[iu hb,zL]at hti
   simp only[zO,zZ,zE,zB]at hti
   rw[hM b hbm,al]
   cases hc:cl b with
   | false =>
    refine TotX.go ⟨hv.1,?_⟩
    rw[iu hb,zL,hv.2]
    simp only[callR,hc,zA,if_false,mmI_min,zO,zZ,zE,zB,zM]
    rw[wrap_i64 (by omega) (by omega),Int.min_eq_left (by omega)]
    omega
   | true =>
    have hsm:=hcl b hbm hc
    rw[hsm]at h3
    simp only[mget,show (q==q)=true from beq_self_eq_true q,if_true,kZ]at h3
    rw[hc,if_pos rfl]at hti
    refine TotX.go ?_
    simp only[callR,if_true,zW,zA,if_false,h2,h3,mmI_min,mmI_maxB]
    rw[iu hb,zL,hv.2]
    simp only[hc,if_true,zO,zZ,zE,zB]
    rw[wrap_i64 (n:=1+0) (by omega) (by omega),wrap_i64 (n:=1*(Y.length:Int)) (by omega) (by omega),wrap_i64 (by omega) (by omega)]
    have:=hv.1
    refine⟨⟨by omega,by omega⟩,by omega⟩
  ·rw[kN]at hv
   simp only at hv
   exact⟨hv.1.2,by rw[hv.2];omega⟩
  ·refine Tot.ite (λq=>?_) (λ_=>.ok h1)
   exfalso
   simp at q
   omega
 ·refine Tot.bind (E:=λv=>v.1=M.flatMap λb=>if cl b=true then Y else [b]) (Tot.bind (E:=λv=>v.1=M.flatMap λb=>if cl b=true then Y else [b]) (Tot.guard (aZ (by simp only;omega)) (Tot.range (λi v=>(v.1=(M.take i).flatMap λb=>if cl b=true then Y else [b])∧(v.2=[]∨v.2=[(q,Y)])) _ ⟨by simp,.inl rfl⟩ (λi b v2 hb hv2=>?_) (λv hv=>.ok (by rw[hv.1,kN])))) (λv hv=>.ok hv)) (λv2 hv2=>?_)
  ·have hbm:=List.mem_of_getElem? hb
   have hti:=htk (i+1)
   have hti0:=htk i
   rw[iu hb,zL]at hti
   simp only[zO,zZ,zE,zB]at hti
   rw[hM b hbm,al]
   obtain⟨e1,e2⟩:=hv2
   rw[iu hb,zL]
   simp only[zO,zZ,zE]
   cases hc:cl b with
   | false =>
    simp only[callR,zR,if_true,zA,if_false]
    rw[←e1]at hti0 ⊢
    rw[bd (by omega),aO,al]
    exact TotX.go ⟨rfl,e2⟩
   | true =>
    have hsm:=hcl b hbm hc
    simp only[callR,zW,if_true,zA,if_false,hv,hsm]
    rw[hc,if_pos rfl,←e1]at hti
    rw[←e1]
    refine TotX.bind (E:=λu=>u.1=v2.1++Y∧u.2=[(q,Y)]) (Tot.bind (E:=λu=>u.1=Y∧u.2=[(q,Y)]) ?_ (λu hu=>?_)) (λu hu=>TotX.go ⟨hu.1,.inr hu.2⟩)
    ·rcases e2 with e2 | e2
     ·rw[e2]
      simp only[mget,Option.isSome_none,zR,if_true,show (q==q)=true from beq_self_eq_true q,kZ]
      refine Tot.bind (E:=λu=>u=Y) (Tot.bind (E:=λu=>u=Y) (Tot.guard (aZ (by omega)) (Tot.range (λj u=>u=Y.take j) _ rfl (λj c u hj hu=>?_) (λu hu=>.ok (by rw[hu,kN])))) (λu hu=>.ok hu)) (λu hu=>.ok ⟨hu,by rw[hu];rfl⟩)
      subst hu
      rw[hY c (List.mem_of_getElem? hj),al]
      simp only[callR,zA,if_false,zR,if_true]
      rw[bd (by simp;omega),aO,al,iu hj]
      exact TotX.go rfl
     ·rw[e2]
      simp only[mget,beq_self_eq_true,if_true,Option.isSome_some,kZ,zW,zA,if_false]
      exact .ok ⟨rfl,rfl⟩
    ·obtain⟨u1,u2⟩:=hu
     rw[u1,u2]
     refine Tot.ite (λq=>.ok ⟨?_,rfl⟩) (λ_=>?_)
     ·have:Y.length=0:=by simpa using q
      rw[List.length_eq_zero_iff.1 this,zE]
     ·have hlp:∀{f:(List aa)×Int→Option (Ex ((List aa)×(List (Int×(List aa)))) ((List aa)×Int))} {a b:List aa×Int} {r:(List aa)×(List (Int×(List aa)))},f a=some (.go b)→f b=some (.ret r)→loopX f fuel a=some r:=by
       intro f a b r h1 h2
       unfold fuel
       rw[loopX,h1]
       simp only
       rw[loopX,h2]
      refine⟨(v2.1++Y,[(q,Y)]),hlp (b:=(v2.1++Y,1)) ?_ ?_,rfl,rfl⟩
      ·simp only[show decide ((0:Int)<1)=true from rfl,if_true]
       rw[bd (by omega),aO]
       rfl
      ·rfl
  ·rw[hv2]
   refine Tot.bind (E:=λu=>u=M.flatMap λb=>if cl b=true then Y else [b]) (Tot.guard (aZ (by omega)) (Tot.range (λi u=>u=(M.flatMap λb=>if cl b=true then Y else [b]).take i) _ rfl (λi b u hb hu=>?_) (λu hu=>.ok (by rw[hu,kN])))) (λu hu=>.ok (by rw[hu]))
   subst hu
   have hi:=ao hb
   have hbf:fewB b:=by
    obtain⟨c,hc1,hc2⟩:=List.mem_flatMap.1 (List.mem_of_getElem? hb)
    split at hc2
    ·exact hw b (List.mem_append.2 (.inr hc2))
    ·simp at hc2;subst hc2;exact hw _ (List.mem_append.2 (.inl hc1))
   unfold fewB at hbf
   unfold ce
   rw[bd (by omega),aO,al,bd (by simp;omega),aO,iu hb]
   exact TotX.go rfl
def StdB(b:aa):Prop:=b.Words.length≤7∧∀w∈b.Words,w.Letter≠78∧w.Letter≠79∧(w.Letter=77→w.Value=6000)
def endBB:aa:=markB 77 30000
theorem any_not{l:List aw}{q:aw→Bool}(h:∀w∈l,q w=false):l.any q=false:=by
 rw[List.any_eq_false]
 intro w hw
 simp[h w hw]
theorem StdB.has{b:aa}(h:StdB b){n:Int}(hn:n≠6000):hasV b 77 n=false:=any_not λw hw=>by
 by_cases e:w.Letter=77
 ·have:=(h.2 w hw).2.2 e
  simp[e,this];omega
 ·simp[e]
theorem StdB.let{b:aa}(h:StdB b):letV b 79=false∧letV b 78=false:=⟨any_not λw hw=>by simp[(h.2 w hw).2.1],any_not λw hw=>by simp[(h.2 w hw).1]⟩
def Num(b' b:aa):Prop:=b'=b∨((letV b 79=false∧hasV b 77 99000=false)∧∃v,b'=⟨b.Skip,[⟨78,v⟩]++b.Words,b.Comment⟩)
inductive NumL:List aa→List aa→Prop
 | nil:NumL [] []
 | cons {b' b:aa} {A X:List aa} (h:Num b' b) (t:NumL A X):NumL (b'::A) (b::X)
theorem NumL.refl:∀X:List aa,NumL X X
 | []=>.nil
 | _::X=>.cons (.inl rfl) (NumL.refl X)
theorem NumL.of(n:Int):∀(l:List aa) (k:Int),NumL (numV n k l) l
 | [],_=>.nil
 | b::r,k=>by
  rw[numV]
  refine .cons ?_ (NumL.of n r _)
  unfold numB
  split
  ·rename_i h
   simp only[zG,Bool.not_eq_true']at h
   exact .inr ⟨h,_,rfl⟩
  ·exact .inl rfl
theorem NumL.split:∀(X:List aa) {A Y:List aa},NumL A (X++Y)→∃A1 A2,A=A1++A2∧NumL A1 X∧NumL A2 Y
 | [],A,Y,h=>⟨[],A,rfl,.nil,h⟩
 | x::X,A,Y,h=>by
  cases h with
  | cons h1 t =>
   obtain⟨A1,A2,e,g1,g2⟩:=NumL.split X t
   exact⟨_::A1,A2,by rw[e];rfl,.cons h1 g1,g2⟩
theorem NumL.one{A:List aa}{x:aa}(h:NumL A [x]):∃y,A=[y]∧Num y x:=by
 cases h with
 | cons h1 t=>cases t with | nil=>exact⟨_,rfl,h1⟩
theorem NumL.len{A X:List aa}(h:NumL A X):A.length=X.length:=by
 induction h with
 | nil=>rfl
 | cons h1 t ih=>simp[ih]
theorem Num.has{b' b:aa}(h:Num b' b){x:Int}:hasV b' 77 x=hasV b 77 x:=by
 rcases h with rfl | ⟨_,v,rfl⟩
 ·rfl
 ·simp[hasV]
theorem Num.let{b' b:aa}(h:Num b' b):letV b' 79=letV b 79:=by
 rcases h with rfl | ⟨_,v,rfl⟩
 ·rfl
 ·simp[letV]
theorem Num.len{b' b:aa}(h:Num b' b)(hl:b.Words.length≤7):b'.Words.length≤8:=by
 rcases h with rfl | ⟨_,v,rfl⟩
 ·omega
 ·simp;omega
def bareB(b:aa):aa:=⟨b.Skip,b.Words.filter (λw=>w.Letter != 78),b.Comment⟩
theorem Num.bare{b' b:aa}(h:Num b' b):bareB b'=bareB b:=by
 rcases h with rfl | ⟨_,v,rfl⟩
 ·rfl
 ·simp[bareB]
theorem Num.free{b' b:aa}(h:Num b' b)(hs:StdB b∨b=callB):FreeB b':=by
 rcases hs with hs | rfl
 ·exact⟨by have:=h.len hs.1;unfold fewB;omega,by rw[h.let];exact hs.let.1,by rw[h.has];exact hs.has (by omega),by rw[h.has];exact hs.has (by omega)⟩
 ·exact⟨by have:=h.len (by simp[callB]);unfold fewB;omega,by rw[h.let];rfl,by rw[h.has];rfl,by rw[h.has];rfl⟩
theorem Num.end{b':aa}(h:Num b' endBB):EndB b':=⟨by have:=h.len (by simp[endBB,markB]);unfold fewB;omega,by rw[h.let];rfl,by rw[h.has];rfl,by rw[h.has];rfl⟩
theorem call_no{q:Int}{b:aa}(hf:fewB b)(h:hasV b 77 98000=false):dl b=some (callR q false):=by
 unfold dl
 rw[fh hf,al,h];rfl
def callC:aa:=⟨false,[⟨77,98000⟩,⟨80,77000⟩],[]⟩
def foldC(l:List aa)(n a:Nat):Nat→Nat→List aa
 | 0,_=>[]
 | f+1,i=>match l[i]? with
  | none=>[]
  | some b=>if (decide (i+n≤l.length)&&runBB l n a i)=true then callC::foldC l n a f (i+n)else b::foldC l n a f (i+1)
theorem foldC_end{l:List aa}{n a f i:Nat}(h:l.length≤i):foldC l n a f i=[]:=by
 cases f with
 | zero=>rfl
 | succ f=>rw[foldC,List.getElem?_eq_none h]
theorem foldC_len(l:List aa)(n a:Nat)(hn:1≤n):∀(f i:Nat),i+(foldC l n a f i).length≤max i l.length
 | 0,i=>by simp[foldC];omega
 | f+1,i=>by
  rw[foldC]
  cases hx:l[i]? with
  | none=>simp;omega
  | some b =>
   have hlt:=ao hx
   simp only
   split
   ·rename_i q
    simp at q
    have:=foldC_len l n a hn f (i+n)
    simp only[zD];omega
   ·have:=foldC_len l n a hn f (i+1)
    simp only[zD];omega
def foldK(l:List aa)(n:Nat):List aa:=match atV l n with
 | none=>l
 | some a=>foldC l n a l.length 0++[markB 79 (1000*77)]++(l.drop a).take n++[markB 77 99000]
theorem sp_Fold_tot77{l:List aa}{n:Nat}(h1:1≤n)(hn:n≤100)(hl:l.length≤1000)(hf:∀b∈l,fewB b):Tot (jp l 77 (n:Int)) (λr=>r.2=0∧match atV l n with | none=>r.1=⟨l,[]⟩ | some a=>r.1=⟨foldC l n a l.length 0,[⟨77,(l.drop a).take n⟩]⟩):=by
 unfold jp
 refine Tot.ite (λq=>by simp at q<;>omega) (λ_=>?_)
 refine Tot.bind (E:=λr=>match atV l n with | none=>r=-1 | some i=>r=(i:Int)) ?_ (λr hr=>?_)
 ·have hq:Int.tdiv (l.length:Int) 2=((l.length / 2:Nat):Int):=by
   rw[kO (by omega)];omega
  rw[hq,wrap_i64 (by omega) (by omega)]
  refine Tot.ite (λq=>?_) (λq=>.ok ?_)
  ·simp at q
   refine Tot.bind (sp_first_tot h1 (by omega) (by omega) hf) (λx hx=>.ok hx)
  ·simp at q
   rw[atV_none λj=>jC λk q1 q2=>by omega]
 ·cases ha:atV l n with
  | none =>
   rw[ha]at hr
   subst hr
   refine Tot.ite (λ_=>?_) (λq=>by simp at q)
   unfold aD
   rw[bd (by omega),aO,al]
   exact .ok ⟨rfl,rfl⟩
  | some a =>
   rw[ha]at hr
   simp only at hr
   subst hr
   have hfa:ie l n a=true:=List.find?_some ha
   obtain⟨k0,c1,c2,c3⟩:=ic.1 hfa
   refine Tot.ite (λq=>by simp at q<;>omega) (λ_=>?_)
   refine Tot.bind (E:=λv=>v=foldC l n a l.length 0) (Tot.loop (λm (v:List aa×Int)=>∃(i f:Nat),v.2=(i:Int)∧i≤l.length∧v.1.length≤i∧l.length≤i+f∧m=f∧v.1++foldC l n a f i=foldC l n a l.length 0) _ l.length (eI (by omega)) ⟨0,l.length,rfl,by omega,by simp,by omega,rfl,by simp⟩ (λm v hv=>?_)) (λv hv=>?_)
   ·obtain⟨i,f,v2,d1,d2,d3,rfl,d4⟩:=hv
    obtain⟨acc,j⟩:=v
    simp only at v2 d2 d4 ⊢
    subst v2
    by_cases hi:i<l.length
    ·have hx:l[i]? = some l[i]:=List.getElem?_eq_getElem hi
     generalize l[i]=b at hx
     refine TotX.ite (λ_=>?_) (λq=>by simp at q<;>omega)
     cases m with
     | zero=>omega
     | succ m =>
      rw[foldC,hx]at d4
      simp only at d4
      rw[wrap_i64 (n:=(i:Int)+(n:Int)) (by omega) (by omega)]
      refine TotX.bind (E:=λr=>r=(decide (i+n≤l.length)&&runBB l n a i)) (Tot.ite (λq=>?_) (λq=>.ok ?_)) (λr hr=>?_)
      ·simp at q
       rw[sp_run_eq (by omega) (by omega) (by omega) (by omega) hf,al]
       exact .ok (by rw[decide_eq_true (show i+n≤l.length by omega),kX])
      ·simp at q
       rw[decide_eq_false (show ¬(i+n≤l.length) by omega),Bool.false_and]
      ·subst hr
       refine TotX.ite (λq=>?_) (λq=>?_)
       ·rw[if_pos q]at d4
        simp at q
        refine TotX.guard (bd (by omega)) (.go ⟨m,by omega,i+n,m,by simp,by omega,by simp;omega,by omega,rfl,?_⟩)
        rw[←d4]
        simp[callC]
        rfl
       ·rw[if_neg (by rw[q];simp)]at d4
        rw[gt_k hx,al]
        refine TotX.guard (bd (by omega)) (.go ⟨m,by omega,i+1,m,by rw[wrap_i64 (by omega) (by omega)];simp,by omega,by simp;omega,by omega,rfl,?_⟩)
        rw[←d4];simp
    ·refine TotX.ite (λq=>by simp at q<;>omega) (λ_=>.ret ?_)
     rw[foldC_end (by omega),zE]at d4
     exact d4
   ·subst hv
    rw[wrap_i64 (n:=(a:Int)+(n:Int)) (by omega) (by omega),show (a:Int)+(n:Int)=((a+n:Nat):Int) by omega,cutL_at (by omega),al]
    unfold aD
    rw[bd (by simp;omega),aO,al]
    exact .ok ⟨rfl,rfl⟩
theorem sp_folded77{l:List aa}{n:Nat}(h1:1≤n)(hn:n≤100)(hl:l.length≤1000)(hf:∀b∈l,fewB b):∃p,jp l 77 (n:Int)=some (p,0)∧kG p=some (foldK l n):=by
 obtain⟨⟨p,e⟩,hp,h0,h2⟩:=sp_Fold_tot77 h1 hn hl hf
 simp only at h0 h2
 subst h0
 refine⟨p,hp,?_⟩
 unfold foldK kG aD
 cases ha:atV l n with
 | none =>
  rw[ha]at h2
  simp only at h2
  subst h2
  simp only
  rw[bd (by omega),aO,al,aZ (by simp),aO]
  rfl
 | some a =>
  rw[ha]at h2
  simp only at h2
  subst h2
  simp only
  have h3:=foldC_len l n a h1 l.length 0
  have h4:=atV_run ha
  have h5:((l.drop a).take n).length=n:=by simp;omega
  rw[bd (by omega),aO,al,aZ (by simp),aO]
  simp only[aU]
  rw[bd (by omega),aO,h5,bd (by omega),aO,bd (by omega),aO,wrap_i64 (by omega) (by omega)]
  rfl
theorem run_atC{X:List aa}{E:aa}{n a i:Nat}(hE:foldB E=false)(hr:runBB (X++[E]) n a i=true)(hn:1≤n)(hi:i+n≤X.length+1):i+n≤X.length∧((X++[E]).drop a).take n=(X.drop i).take n:=by
 have h:=runB_iff.1 hr
 have hi2:i+n≤X.length:=by
  rcases zJ X.length (i+n)with q | q
  ·exfalso
   obtain⟨b,_,h2,h3⟩:=h (n-1) (by omega)
   rw[show i+(n-1)=X.length by omega]at h2
   simp at h2
   subst h2
   rw[hE]at h3;cases h3
  ·exact q
 refine⟨hi2,?_⟩
 apply List.ext_getElem?
 intro j
 rw[List.getElem?_take,List.getElem?_take]
 by_cases hj:j<n
 ·rw[if_pos hj,if_pos hj,List.getElem?_drop,List.getElem?_drop]
  obtain⟨b,h1,h2,_⟩:=h j hj
  rw[h1,←h2,List.getElem?_append_left (by omega)]
 ·rw[if_neg hj,if_neg hj]
theorem callC_has:hasV callC 77 98000=true:=by rfl
theorem foldC_std{X Y:List aa}{E:aa}{n a:Nat}(hE:foldB E=false)(hX:∀b∈X,hasV b 77 98000=false)(hn:1≤n)(hY:Y=((X++[E]).drop a).take n):∀(f i:Nat),i≤X.length→X.length+1-i≤f→∃Z,foldC (X++[E]) n a f i=Z++[E]∧(∀b∈Z,b∈X∨b=callC)∧(Z.flatMap λb=>if hasV b 77 98000=true then Y else [b])=X.drop i
 | 0,i,hi,hf=>by omega
 | f+1,i,hi,hf=>by
  rw[foldC]
  have hsome:(X++[E])[i]? = some ((X++[E])[i]'(by simp;omega)):=List.getElem?_eq_getElem _
  obtain⟨x,hx⟩:∃x,(X++[E])[i]? = some x:=⟨_,hsome⟩
  rw[hx]
  simp only
  by_cases hr:(decide (i+n≤(X++[E]).length)&&runBB (X++[E]) n a i)=true
  ·rw[if_pos hr]
   simp only[zG,decide_eq_true_eq]at hr
   obtain⟨h1,h2⟩:=run_atC hE hr.2 hn (by have:=hr.1;simp at this;omega)
   obtain⟨Z,g1,g2,g3⟩:=foldC_std hE hX hn hY f (i+n) h1 (by omega)
   refine⟨callC::Z,by rw[g1];rfl,λb hb=>?_,?_⟩
   ·rcases List.mem_cons.1 hb with rfl | hb
    ·exact .inr rfl
    ·exact g2 b hb
   ·rw[zO,g3,callC_has,if_pos rfl,hY,h2,←kV,List.take_append_drop]
  ·rw[if_neg hr]
   rcases zJ i X.length with q | q
   ·obtain⟨Z,g1,g2,g3⟩:=foldC_std hE hX hn hY f (i+1) q (by omega)
    rw[List.getElem?_append_left q]at hx
    have hxm:=hX x (List.mem_of_getElem? hx)
    refine⟨x::Z,by rw[g1];rfl,λb hb=>?_,?_⟩
    ·rcases List.mem_cons.1 hb with rfl | hb
     ·exact .inl (List.mem_of_getElem? hx)
     ·exact g2 b hb
    ·rw[zO,g3,hxm,if_neg (by simp),zQ q]
     rw[List.getElem?_eq_getElem q]at hx
     injection hx with hx
     rw[hx];rfl
   ·obtain rfl:i=X.length:=by omega
    simp at hx
    subst hx
    refine⟨[],by rw[foldC_end (by simp)];rfl,by simp,by simp⟩
theorem foldK_std{X:List aa}{E:aa}{n:Nat}(hE:foldB E=false)(hX:∀b∈X,hasV b 77 98000=false)(hn:1≤n):(atV (X++[E]) n=none∧foldK (X++[E]) n=X++[E]) ∨
  ∃Z Y,foldK (X++[E]) n=(Z++[E])++markB 79 (1000*77)::(Y++[markB 77 99000])∧(∀b∈Z,b∈X∨b=callC)∧(∀b∈Y,b∈X)∧(Z.flatMap λb=>if hasV b 77 98000=true then Y else [b])=X∧Y.length≤X.length∧Z.length≤X.length:=by
 unfold foldK
 cases ha:atV (X++[E]) n with
 | none=>exact .inl ⟨rfl,rfl⟩
 | some a =>
  right
  have h4:=atV_run ha
  simp at h4
  have hYX:((X++[E]).drop a).take n=(X.drop a).take n:=by
   rw[List.drop_append_of_le_length (by omega),List.take_append_of_le_length (by simp;omega)]
  obtain⟨Z,g1,g2,g3⟩:=foldC_std hE hX hn (Y:=((X++[E]).drop a).take n) (a:=a) rfl (X++[E]).length 0 (by omega) (by simp)
  refine⟨Z,((X++[E]).drop a).take n,by simp only[g1];simp,g2,λb hb=>?_,by simpa using g3,by rw[hYX];simp;omega,by have h5:=foldC_len (X++[E]) n a hn (X++[E]).length 0;rw[g1]at h5;simp at h5;omega⟩
  rw[hYX]at hb
  exact List.mem_of_mem_drop (List.mem_of_mem_take hb)
theorem callC_free:FreeB callC:=⟨by simp[fewB,callC],rfl,rfl,rfl⟩
theorem callC_call:dl callC=some (callR 77 true):=by
 have hf:fewB callC:=by simp[fewB,callC]
 unfold dl
 rw[fh hf,al,callC_has]
 rfl
theorem proper_q{q:Int}(h1:1≤q)(h2:q≤9999){X:List aa}{E:aa}{S:List aG}(hX:∀b∈X,FreeB b)(hE:EndB E)(hl:X.length≤1000)(hS:S=[]∨∃Y:List aa,S=[⟨q,Y⟩]∧Y.length≤1000∧∀b∈Y,FreeB b):gO ⟨X++[E],S⟩=some true:=by
 have hS2:S.length≤1∧∀s∈S,s.Blocks.length≤1000∧(∀b∈s.Blocks,FreeB b)∧s.Number=q:=by
  rcases hS with rfl | ⟨Y,rfl,a,b⟩
  ·exact⟨by simp,λs hs=>by simp at hs⟩
  ·refine⟨by simp,λs hs=>?_⟩
   simp at hs;subst hs
   exact⟨a,b,rfl⟩
 unfold gO
 have ho:=ordered_eq hX hE (S:=S) (λs hs=>⟨by have:=(hS2.2 s hs).1;omega,(hS2.2 s hs).2.1⟩) (by omega) (by omega)
 have hr:∀{f:Nat→aG→Unit→Option (Ex (Ex Bool Unit) Unit)} (l:List aG) (i:Nat),(∀i s,s∈l→f i s ()=some (.go ()))→aU f (λ_=>some (.go ())) l i ()=some (.go ()):=by
  intro f l
  induction l with
  | nil=>intro i _;rfl
  | cons x l ih =>
   intro i hf
   simp only[aU,hf i x (by simp)]
   exact ih (i+1) (λj s hs=>hf j s (by simp[hs]))
 dsimp only
 have hrep:d5 S=some false:=by
  rcases hS with rfl | ⟨Y,rfl,_,_⟩
  ·exact repeated_nil
  ·exact repeated_one _
 rw[aZ (by omega),aO,hr S 0 (λi s hs=>by
  have:=(hS2.2 s hs).2.2
  rw[this,decide_eq_false (by omega),decide_eq_false (by omega)];rfl)]
 rw[bindX_go,ho,al,if_pos rfl,hrep]
 rfl
theorem fold_round {X : List aa} {E : aa} {n : Nat} (hX : ∀ b ∈ X, FreeB b ∧ hasV b 77 98000 = false) (hE : EndB E) (hEc : hasV E 77 98000 = false) (h1 : 1 ≤ n) (hn : n ≤ 100) (hl : X.length ≤ 100) :
    ∃p A p',jp (X++[E]) 77 (n:Int)=some (p,0)∧kG p=some A∧A.length≤2*X.length+4∧(∀b∈A,b∈X++[E]∨b=callC∨b=markB 79 77000∨b=markB 77 99000)∧gB A=some (p',0)∧f8 p'=some (X++[E],0):=by
  have hfew:∀b∈X++[E],fewB b:=λb hb=>by
    rcases List.mem_append.1 hb with hb | hb
    · exact (hX b hb).1.few
    · simp at hb;subst hb;exact hE.few
  obtain⟨p,e1,e2⟩:=sp_folded77 (l:=X++[E]) h1 hn (by simp;omega) hfew
  have hEf:foldB E=false:=by simp[foldB,hE.m]
  have hfr:∀b∈X,FreeB b:=λb hb=>(hX b hb).1
  have hno:∀b∈X,hasV b 77 98000=false:=λb hb=>(hX b hb).2
  rcases foldK_std hEf hno h1 with⟨_,h2⟩|⟨Z,Y,h2,hZ,hY,hflat,hYl,hZl⟩
  · rw[h2]at e2
    have hex:=expand_eq (q:=77) (M:=X++[E]) (Y:=[]) (S:=[]) (cl:=λ_=>false) (proper_q (q:=77) (by omega) (by omega) hfr hE (by omega) (.inl rfl)) (.inl ⟨rfl,λ_ _=>rfl⟩) (λb hb=>call_no (hfew b hb) (by
      rcases List.mem_append.1 hb with hb | hb
      · exact hno b hb
      · simp at hb;subst hb;exact hEc)) (λb hb=>by simp at hb) (by simp;omega) (by simp) (by simp;omega) (λb hb=>hfew b (by simpa using hb))
    have hfm:((X++[E]).flatMap λb=>if false=true then []else [b])=X++[E]:=by simp
    rw[hfm]at hex
    exact⟨p,X++[E],_,e1,e2,by simp;omega,λb hb=>.inl hb,split_plain hfr hE (by omega),hex⟩
  · rw[h2]at e2
    have hfZ:∀b∈Z,FreeB b:=λb hb=>by
      rcases hZ b hb with q | q
      · exact hfr b q
      · subst q;exact callC_free
    have hfY:∀b∈Y,FreeB b:=λb hb=>hfr b (hY b hb)
    have hfm:((Z++[E]).flatMap λb=>if hasV b 77 98000=true then Y else [b])=X++[E]:=by
      rw[zL,hflat];simp[hEc]
    have hex:=expand_eq (q:=77) (M:=Z++[E]) (Y:=Y) (S:=[⟨77,Y⟩]) (cl:=λb=>hasV b 77 98000) (proper_q (q:=77) (by omega) (by omega) hfZ hE (by omega) (.inr ⟨Y,rfl,by omega,hfY⟩)) (.inr rfl) (λb hb=>?_) (λb hb=>call_no (hfY b hb).few (hno b (hY b hb))) (by simp;omega) (by omega) (by rw[hfm];simp;omega) (λb hb=>?_)
    · rw[hfm]at hex
      refine⟨p,_,_,e1,e2,by simp;omega,λb hb=>?_,split_fold (q:=77) (by omega) (by omega) hfZ hE hfY (by omega) (by omega),hex⟩
      simp only[List.mem_append,List.mem_cons,List.not_mem_nil,or_false]at hb ⊢
      rcases hb with (hb | hb) | hb | hb | hb
      · rcases hZ b hb with q | q
        · exact .inl (.inl q)
        · exact .inr (.inl q)
      · exact .inl (.inr hb)
      · exact .inr (.inr (.inl hb))
      · exact .inl (.inl (hY b hb))
      · exact .inr (.inr (.inr hb))
    · rcases List.mem_append.1 hb with hb' | hb'
      · rcases hZ b hb' with q | q
        · rw[hno b q];exact call_no (hfr b q).few (hno b q)
        · subst q;exact callC_call
      · simp at hb';subst hb'
        rw[hEc];exact call_no hE.few hEc
    · rcases List.mem_append.1 hb with hb | hb
      · rcases List.mem_append.1 hb with hb | hb
        · exact (hfZ b hb).few
        · simp at hb;subst hb;exact hE.few
      · exact (hfY b hb).few
theorem dd_len9:∀(k n:Nat),n<10 ^ (k+1)→(Lib.decDigits n).length≤k+1:=by
 intro k
 induction k with
 | zero =>
  intro n h
  unfold Lib.decDigits
  rw[dif_pos (by simpa using h)];simp
 | succ k ih =>
  intro n h
  unfold Lib.decDigits
  split
  ·simp
  ·rw[zB,zM]
   have:=ih (n / 10) (by rw[Nat.pow_succ]at h;omega)
   omega
theorem txt_len16(n:Int)(h1:-1000000000000≤n)(h2:n≤1000000000000):(txtV n).length≤16:=by
 unfold txtV txtU
 have hl:=dd_len9 9 (n.natAbs / 1000) (by omega)
 have hf':(frac (n.natAbs % 1000)).length≤3:=fr3_len _ _ _
 rw[zB,zB]
 have e1:(if n<0 then ([45]:List UInt8)else []).length≤1:=by split<;>simp
 have e2:(if n.natAbs % 1000=0 then []else 46::frac (n.natAbs % 1000)).length≤4:=by split<;>simp;omega
 omega
theorem fmt_len400(b:aa)(h:df b):(fmtV b).length≤400:=by
  have hjA:∀(l:List (List UInt8)) (c:List (List UInt8)),c.length≤1→(∀x∈l,x.length≤17)→(∀x∈c,x.length≤102)→(jn (l++c)).length≤l.length*18+102:=by
    intro l
    induction l with
    | nil =>
      intro c hc _ h2
      match c,hc,h2 with
      | [],_,_=>simp[jn]
      | [x],_,h2=>have:=h2 x (by simp);simp[jn];omega
    | cons x l ih =>
      intro c hc h1 h2
      have hx:=h1 x (by simp)
      have:=ih c hc (λy hy=>h1 y (by simp[hy])) h2
      rw[zK]
      cases hlc:l++c with
      | nil=>simp[jn];omega
      | cons y r =>
        rw[jn_cons,←hlc]
        simp only[zB,zD];omega
  have hc1:(cmT b.Comment).length≤1:=by unfold cmT;split<;>simp
  have:=hjA (b.Words.map wt) (cmT b.Comment) hc1 (λx hx=>by
    obtain⟨w,hw,rfl⟩:=List.mem_map.1 hx
    obtain⟨_,_,h3,h4⟩:=h.2.2.1 w hw
    have:=txt_len16 w.Value h3 h4
    unfold wt;simp;omega) (λx hx=>parts_len h x (List.mem_append.2 (.inr hx)))
  have hwl:=h.1
  unfold fmtV
  rw[zB]
  have e1:(if b.Skip=true then ([47]:List UInt8)else []).length≤1:=by split<;>simp
  rw[List.length_map]at this
  omega
theorem prt_len4:∀l:List aa,(∀b∈l,df b)→l.length≤(prt l).length∧(prt l).length≤l.length*401
 | [],_=>by simp[prt]
 | b::l,h=>by
  have hp:prt (b::l)=(fmtV b++[10])++prt l:=by simp[prt]
  have ih:=prt_len4 l (λx hx=>h x (by simp[hx]))
  have:=fmt_len400 b (h b (by simp))
  rw[hp,zB,zB,zM,zD,Nat.add_mul]
  omega
theorem prt_snoc4(l:List aa)(i:Nat)(x:aa)(h:l[i]? = some x):prt (l.take (i+1))=(prt (l.take i)++fmtV x)++[10]:=by
 have hlt:=ao h
 rw[List.take_add_one,h]
 simp[prt]
theorem print_ok(l:List aa)(hl:l.length≤10000)(hv:∀b∈l,df b):iQ l=some (prt l,0):=by
 suffices h:Tot (iQ l) (λe=>e=(prt l,0)) by
  obtain⟨e,h1,h2⟩:=h
  rw[h1,h2]
 unfold iQ
 refine Tot.bindX (E:=λv:List UInt8=>v=prt l) (TotX.of (Tot.mono (E:=λx=>match x with | .ret e=>e=(prt l,(0:Int)) | .go v=>v=prt l) ?_ (λx h=>by cases x<;>exact h))) (λv hv=>.ok (by rw[hv]))
 refine Tot.guard (aZ (by omega)) (Tot.range (λi v=>v=prt (l.take i)) _ rfl (λi x v hx hr=>?_) (λv hr=>.ok (by rw[hr,kN])))
 have hlt:=ao hx
 have hval:=hv x (List.mem_of_getElem? hx)
 have hfl:=fmt_len400 x hval
 have hpl:=(prt_len4 (l.take i) (λb hb=>hv b (List.mem_of_mem_take hb))).2
 have hil:(l.take i).length≤10000:=by simp;omega
 rw[bk_Format_ok x hval,al,if_neg (by simp),hr,bd (by simp only;omega),aO,bd (by simp only[zB];omega),aO]
 exact .go (by rw[prt_snoc4 l i x hx])
theorem program_ok(l:List aa)(hl:l.length≤160)(hv:∀b∈l,df b):fR (prt l)=some (l,0,0):=by
 obtain⟨h1,h2⟩:=prt_len4 l hv
 obtain⟨w,hw,rfl⟩:=bk_Program_tot (prt l) (by omega) (by rw[count_prt l hv];omega)
 rw[hw,pgV_prt l _ [] hv (by omega),kP]
theorem r47_Few_tot30(l:List aa)(hl:l.length≤9223372036854775807):Tot (r47_Few l 30) (λb=>b=true→fewP l 30):=by
 unfold r47_Few
 refine Tot.bind (r41_Few_totB l 30 (by omega)) λb hb=>Tot.ite (λ_=>.ok (by simp)) (λh=>?_)
 have hf:=hb (by simpa using h)
 refine Tot.bindX (E:=λ_=>True) (TotX.guard (aZ hl) (TotX.of (Tot.range (λ_ _=>True) _ trivial (λi x v hx _=>?_) (λv _=>.ok trivial)))) (λ_ _=>.ok λ_=>hf)
 have hx20:=(hf.2 x (List.mem_of_getElem? hx)).1
 refine TotX.bindX (E:=λ_=>True) (TotX.of (Tot.loop (λm v=>0≤v∧v≤(x.Words.length:Int)∧m=((x.Words.length:Int)-v).toNat) _ x.Words.length (eI (by omega)) ⟨by simp,by simp,by simp⟩ (λm v hr=>?_))) (λ_ _=>.go trivial)
 refine TotX.ite (λh=>?_) (λ_=>.ret trivial)
 simp at h
 obtain⟨y,hy,_⟩:=gt_ok' (l:=x.Words) (i:=v) hr.1 h
 rw[hy,al]
 refine TotX.ite (λ_=>.ret (by simp)) (λ_=>.go ?_)
 rw[wrap_i64 (by omega) (by omega)]
 exact⟨_,by omega,by omega,by omega,rfl⟩
def motEq9(a b:ax):Bool:=(a.From.X==b.From.X)&&((a.From.Y==b.From.Y)&&((a.From.Z==b.From.Z)&&((a.To.X==b.To.X)&&((a.To.Y==b.To.Y)&&((a.To.Z==b.To.Z)&&((a.Rate==b.Rate)&&((a.Tool==b.Tool)&&(a.Block==b.Block))))))))
theorem equal_self(l:List ax)(hl:l.length≤9223372036854775807):bh l l=some true:=by
  unfold bh
  simp only[bne_self_eq_false,zA,if_false]
  obtain ⟨e, h1, h2⟩ := Tot.bindX (E := λ_ => True) (F := λb => b = true) (f := λ(_ : Unit) => some true) (TotX.guard (b := okIdx l) (aZ hl) (TotX.of (Tot.range (f := λ(i141 : Nat) (e143 : ax) (_ : Unit) =>
          bindO (gt l (i141:Int)) λ(e145:ax) =>
          if (!(motEq9 e143 e145))=true then
            some (.ret (.ret false))
          else
            some (.go ())) (d:=λ_=>some (.go ())) (λ_ _=>True) _ trivial (λi x v hx _=>by
    rw[gt_k hx,al]
    have:motEq9 x x=true:=by simp[motEq9]
    rw[this]
    exact .go trivial) (λv _=>.ok trivial)))) (λ_ _=>.ok rfl)
  rw[h2]at h1
  exact h1
theorem findV_codes(c:Int):∀l:List aw,findV l c=match fm l c with | []=>(0,false) | x::_=>(x,true)
 | []=>rfl
 | w::l=>by
  have ih:=findV_codes c l
  unfold findV fm at ih ⊢
  rw[List.find?_cons,List.filter_cons]
  cases h:(w.Letter==c)with
  | true=>simp
  | false=>simpa using ih
theorem call_tot{b:aa}(hb:fewB b):Tot (dl b) (λr=>hasV b 77 98000=false→r=(0,0,false,0)):=by
 unfold dl
 have hl:b.Words.length≤1000:=hb
 rw[fh hb,al]
 refine Tot.ite (λq=>.ok (λ_=>rfl)) (λq=>?_)
 have hq:hasV b 77 98000=true:=by simpa using q
 refine Tot.bind (E:=λ_=>True) (Tot.guard (aZ (by omega)) (Tot.range (λ_ _=>True) _ trivial (λi w v hw _=>?_) (λv _=>.ok trivial))) (λv _=>?_)
 ·refine TotX.bind (E:=λ_=>True) (Tot.bind (E:=λ_=>True) ⟨_,rfl,trivial⟩ (λy _=>Tot.ite (λ_=>.ok trivial) (λ_=>Tot.ite (λ_=>.ok trivial) (λ_=>Tot.bind (E:=λ_=>True) (Tot.ite (λ_=>.ok trivial) (λ_=>.ok trivial)) (λz _=>Tot.ite (λ_=>.ok trivial) (λ_=>.ok trivial)))))) (λz _=>.go trivial)
 ·refine Tot.bind (E:=λ_=>True) ?_ (λz _=>Tot.ite (λ_=>.ok (λh=>by rw[hq]at h;cases h)) (λ_=>.ok (λh=>by rw[hq]at h;cases h)))
  repeat' (first | exact .ok trivial | refine Tot.ite (λ_=>?_) (λ_=>?_))
theorem okS_valid{b:aa}(h:df b):okS b:=⟨λw hw=>by
 obtain⟨a1,a2,_⟩:=h.2.2.1 w hw
 unfold u8W;omega,by have:=h.1;omega,by have:=h.2.1;omega⟩
end Go.Proofs.YtplhejpjnfjopaaGreatDoor
