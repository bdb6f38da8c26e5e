/-
  Bx, Bcg, Pmo, Pkn, Pqt, Puw, Pmp in one text.
-/
import Derived.Test.YtgojngpeaknbnaaGreatDoorAall
import Derived.Test.YtgojngpeaknbnaaGreatDoorMB
import Derived.Test.YtgojngpeaknbnaaGreatDoorPz
import Derived.Test.YtgojngpeaknbnaaGreatDoorGog
import Derived.Lib.IndexLaws
import Derived.Test.YtgojngpeaknbnaaGreatDoorMwe
open Bool renaming false_eq_true → zA,eq_iff_iff → zG,and_eq_true → zH,not_true → zV,not_false → zX
open List renaming length_append → zB,length_cons → zD,not_mem_nil → zE,append_nil → zF,mem_cons → zI,all_cons → zK,cons_append → zL,append_assoc → zN,flatMap_cons → zO,drop_eq_getElem_cons → zQ,length_singleton → zR,takeWhile_append_dropWhile → zT,mem_append → zU,flatMap_append → zW,all_append → zY,all_eq_true → zZ,take_length → kK,takeWhile_cons → kL,dropWhile_cons → kM,flatMap_nil → kP,foldl_cons → kT,length_nil → kU,replicate → kX,drop_drop → kY,take_add_one → kZ
open Int renaming toNat_natCast → zJ,tdiv_eq_ediv_of_nonneg → kR
open Nat renaming lt_or_ge → zM,mul_le_mul_right → kN,pow_le_pow_right → kO,zero_add → kV,eq_or_lt_of_le → kW
namespace Go.Proofs.YtgojngpeaknbnaaGreatDoor
open Go.RowKit
set_option linter.unusedVariables false
set_option linter.unusedSimpArgs false
def fu(l:List ap)(c:Int):List Int:=(l.filter λw=>w.Letter==c).map (·.Value)
def findV(l:List ap)(c:Int):Int×Bool:=match l.find? (λw=>w.Letter==c)with | some w=>(w.Value,true) | none=>(0,false)
theorem bk_Find_eqB(b:aa)(c:Int)(hb:b.Words.length≤1000000):eP b c=some (findV b.Words c):=by
 unfold eP findV
 rw[aR (by omega),aD,range_find (p:=λw:ap=>w.Letter==c) (e:=λw=>(w.Value,true)) _ _ (λi x=>rfl)]
 cases b.Words.find? (λw=>w.Letter==c)with
 | none=>rfl
 | some w=>rfl
theorem codes_foldB(c:Int):∀(l:List ap) (o:List Int),l.foldl (λ(v:List Int) (w:ap)=>if w.Letter==c then v++[w.Value]else v) o=o++fu l c
 | [],o=>by simp[fu]
 | w::l,o=>by
  rw[kT,codes_foldB c l]
  unfold fu
  cases h:(w.Letter==c)with
  | true=>simp[h]
  | false=>simp[h]
theorem codesV_len(l:List ap)(c:Int):(fu l c).length≤l.length:=by
 unfold fu
 rw[List.length_map]
 exact List.length_filter_le _ _
theorem fg(b:aa)(c:Int)(hb:b.Words.length≤1000000):cu b c=some (fu b.Words c):=by
 unfold cu
 rw[aR (by omega),aD,fM (g:=λ(v:List Int) (w:ap)=>if w.Letter==c then v++[w.Value]else v) (R:=λi v=>v.length≤i) (L:=b.Words) ?_ b.Words 0 [] rfl (by simp),codes_foldB]
 ·rfl
 ·intro i x v hx hr
  have hlt:=aq hx
  cases h:(x.Letter==c)with
  | true=>simp only[if_true];rw[aZ (by omega),aD,ah];exact⟨rfl,by simp;omega⟩
  | false=>exact⟨rfl,by simp;omega⟩
theorem words_tot(l m:List ap)(hl:l.length≤1000000):Tot (bk l m) (λb=>b=decide (l=m)):=by
 unfold bk
 refine Tot.ite (λh=>.ok ?_) (λh=>?_)
 ·simp at h
  exact (decide_eq_false (λq=>h (by rw[q]))).symm
 ·have hlm:l.length=m.length:=by simp at h;omega
  refine Tot.bindX (E:=λ_=>l=m) (TotX.of (Tot.mono (E:=λx=>(x=.ret false∧l≠m)∨(x=.go ()∧l=m)) ?_ ?_)) (λx hx=>.ok (by rw[decide_eq_true hx]))
  ·refine Tot.guard (aR (by omega)) (Tot.range (λi _=>∀(k:Nat),k<i→l[k]? = m[k]?) _ (λk q=>by omega) (λi x v hx hr=>?_) (λv hr=>.ok (.inr ⟨rfl,?_⟩)))
   ·have hlt:=aq hx
    obtain⟨y,hy,hy2⟩:=gt_ok' (l:=m) (i:=(i:Int)) (by omega) (by omega)
    rw[hy,ah]
    simp only[zJ]at hy2
    refine TotX.ite (λh2=>.ret (.inl ⟨rfl,λq=>?_⟩)) (λh2=>.go (λk hk=>?_))
    ·subst q
     rw[hx]at hy2;injection hy2 with hy2;subst hy2
     simp at h2
    ·rcases zM k i with q | q
     ·exact hr k q
     ·obtain rfl:k=i:=by omega
      rw[hx,hy2]
      obtain⟨x1,x2⟩:=x;obtain⟨y1,y2⟩:=y
      simp at h2
      rw[h2.1,h2.2]
   ·apply List.ext_getElem?
    intro k
    rcases zM k l.length with q | q
    ·exact hr k q
    ·rw[List.getElem?_eq_none q,List.getElem?_eq_none (by omega)]
  ·rintro x (⟨rfl,h3⟩|⟨rfl,h3⟩)
   ·exact (decide_eq_false h3).symm
   ·exact h3
theorem equal_eq(a b:aa)(ha:a.Words.length≤1000000):bk_Equal a b=some (decide (a=b)):=by
 unfold bk_Equal
 obtain⟨e,he,rfl⟩:=words_tot a.Words b.Words ha
 rw[he]
 obtain⟨a1,a2,a3⟩:=a
 obtain⟨b1,b2,b3⟩:=b
 simp only
 by_cases h1:a1=b1
 ·subst h1
  by_cases h3:a3=b3
  ·subst h3
   by_cases h2:a2=b2
   ·subst h2;simp
   ·simp[h2]
  ·simp[h3]
 ·simp[h1]
def isD(c:UInt8):Bool:=decide (48≤c.toNat)&&decide (c.toNat≤57)
def dv(c:UInt8):Nat:=c.toNat-48
def numA(a:Nat)(l:List UInt8):Nat:=l.foldl (λa c=>10*a+dv c) a
def num(l:List UInt8):Nat:=numA 0 l
theorem isD_iff{c:UInt8}:isD c=true↔48≤c.toNat∧c.toNat≤57:=by simp[isD]
theorem numA_cons(a:Nat)(c:UInt8)(l:List UInt8):numA a (c::l)=numA (10*a+dv c) l:=by unfold numA;rw[kT]
theorem numA_append(a:Nat)(l m:List UInt8):numA a (l++m)=numA (numA a l) m:=by simp[numA,List.foldl_append]
theorem pow10_pos(n:Nat):1≤10 ^ n:=Nat.pos_of_ne_zero (by simp)
theorem numA_eq(l:List UInt8):∀a:Nat,numA a l=a*10 ^ l.length+num l:=by
 induction l with
 | nil=>intro a;simp[numA,num]
 | cons c l ih =>
  intro a
  show numA (10*a+dv c) l=a*10 ^ (l.length+1)+numA (10*0+dv c) l
  rw[ih (10*a+dv c),ih (10*0+dv c),Nat.pow_succ,Nat.add_mul,Nat.mul_zero,kV,←Nat.mul_assoc,Nat.mul_assoc 10 a]
  omega
theorem numA_ge(l:List UInt8)(a:Nat):a≤numA a l:=by
 rw[numA_eq]
 have:=Nat.le_mul_of_pos_right a (pow10_pos l.length)
 omega
theorem num_snoc(l:List UInt8)(c:UInt8):num (l++[c])=10*num l+dv c:=by
 unfold num;rw[numA_append];rfl
theorem dv_lt{c:UInt8}(h:isD c=true):dv c<10:=by
 have:=isD_iff.1 h
 unfold dv;omega
theorem num_lt:∀(l:List UInt8),l.all isD=true→num l<10 ^ l.length
 | [],_=>by simp[num,numA]
 | c::l,h=>by
  simp only[zK,zH]at h
  have h1:=num_lt l h.2
  have h2:=dv_lt h.1
  rw[show num (c::l)=numA (10*0+dv c) l from rfl,numA_eq,zD,Nat.pow_succ]
  have:(10*0+dv c)*10 ^ l.length≤9*10 ^ l.length:=kN _ (by omega)
  omega
theorem ofNat_toNat{r:Nat}(h:r<208):(UInt8.ofNat (48+r)).toNat=48+r:=by
 rw[UInt8.toNat_ofNat']
 omega
theorem dv_of{r:Nat}(h:r<10):dv (UInt8.ofNat (48+r))=r:=by unfold dv;rw[ofNat_toNat (by omega)];omega
theorem isD_of{r:Nat}(h:r<10):isD (UInt8.ofNat (48+r))=true:=by rw[isD_iff,ofNat_toNat (by omega)];omega
theorem dd_small{u:Nat}(h:u<10):Lib.decDigits u=[UInt8.ofNat (48+u)]:=by rw[Lib.decDigits,dif_pos h]
theorem dd_big{u:Nat}(h:¬u<10):Lib.decDigits u=Lib.decDigits (u / 10)++[UInt8.ofNat (48+u % 10)]:=by conv=>lhs;rw[Lib.decDigits,dif_neg h]
theorem dd_facts:∀(n u:Nat),u<n→(Lib.decDigits u).all isD=true∧num (Lib.decDigits u)=u∧Lib.decDigits u≠[]∧(u≠0→(Lib.decDigits u).head?≠some 48)
 | 0,u,h=>by omega
 | n+1,u,h=>by
  by_cases hs:u<10
  ·rw[dd_small hs]
   refine⟨by simp only[zK,List.all_nil,isD_of hs,Bool.and_true],?_,by simp,λh0=>?_⟩
   ·show 10*0+dv _=u
    rw[dv_of hs];omega
   ·simp only[List.head?_cons,ne_eq,Option.some.injEq]
    intro e
    have:=congrArg UInt8.toNat e
    rw[ofNat_toNat (by omega)]at this
    have h48:(48:UInt8).toNat=48:=rfl
    omega
  ·rw[dd_big hs]
   obtain⟨h1,h2,h3,h4⟩:=dd_facts n (u / 10) (by omega)
   refine⟨by simp only[zY,zK,List.all_nil,h1,isD_of (Nat.mod_lt u (by omega:0<10)),Bool.and_true],?_,by simp,λ_=>?_⟩
   ·rw[num_snoc,h2,dv_of (Nat.mod_lt _ (by omega))];omega
   ·cases hd:Lib.decDigits (u / 10)with
    | nil=>exact absurd hd h3
    | cons c r =>
     have:=h4 (by omega)
     rw[hd]at this
     simpa using this
theorem dd_dig(u:Nat):(Lib.decDigits u).all isD=true:=(dd_facts _ u (Nat.lt_succ_self u)).1
theorem dd_num(u:Nat):num (Lib.decDigits u)=u:=(dd_facts _ u (Nat.lt_succ_self u)).2.1
theorem dd_ne(u:Nat):Lib.decDigits u≠[]:=(dd_facts _ u (Nat.lt_succ_self u)).2.2.1
theorem dd_head{u:Nat}(h:u≠0):(Lib.decDigits u).head?≠some 48:=(dd_facts _ u (Nat.lt_succ_self u)).2.2.2 h
def canW(l:List UInt8):Prop:=l.all isD=true∧l≠[]∧(1<l.length→l.head?≠some 48)
theorem dd_can(u:Nat):canW (Lib.decDigits u):=by
 refine⟨dd_dig u,dd_ne u,λh=>?_⟩
 by_cases h0:u=0
 ·subst h0
  rw[dd_small (by omega)]at h
  simp at h
 ·exact dd_head h0
theorem num_pos{l:List UInt8}(h:l.all isD=true)(hne:l≠[])(hh:l.head?≠some 48):10 ^ (l.length-1)≤num l:=by
 cases l with
 | nil=>exact absurd rfl hne
 | cons c l =>
  simp only[zK,zH]at h
  simp only[List.head?_cons,ne_eq,Option.some.injEq]at hh
  have h1:=isD_iff.1 h.1
  have h2:c.toNat≠48:=λe=>hh (UInt8.toNat_inj.1 e)
  rw[show num (c::l)=numA (10*0+dv c) l from rfl,numA_eq,zD,Nat.add_sub_cancel]
  have:1*10 ^ l.length≤(10*0+dv c)*10 ^ l.length:=kN _ (by unfold dv;omega)
  omega
def fr3(a b c:UInt8):List UInt8:=if c=48 then (if b=48 then (if a=48 then []else [a])else [a,b])else [a,b,c]
theorem trim3(a b c:UInt8):Lib.trimRightB [a,b,c] 48=fr3 a b c:=by
 unfold Lib.trimRightB fr3
 by_cases hc:c=48
 ·by_cases hb:b=48
  ·by_cases ha:a=48
   ·simp[hc,hb,ha]
   ·simp[hc,hb,ha]
  ·simp[hc,hb]
 ·simp[hc]
def d3(r:Nat):UInt8×UInt8×UInt8:=(UInt8.ofNat (48+r / 100),UInt8.ofNat (48+r / 10 % 10),UInt8.ofNat (48+r % 10))
theorem dd_1000{r:Nat}(h:r<1000):(Lib.decDigits (1000+r)).drop 1=[(d3 r).1,(d3 r).2.1,(d3 r).2.2]:=by
 rw[dd_big (by omega),dd_big (by omega),dd_big (by omega),dd_small (by omega)]
 simp only[zN,zL,List.nil_append,List.drop_succ_cons,List.drop_zero,d3]
 rw[show (1000+r) / 10 / 10 % 10=r / 100 by omega,show (1000+r) / 10 % 10=r / 10 % 10 by omega,show (1000+r) % 10=r % 10 by omega]
def frac(r:Nat):List UInt8:=fr3 (d3 r).1 (d3 r).2.1 (d3 r).2.2
def txtU(u:Nat):List UInt8:=Lib.decDigits (u / 1000)++(if u % 1000=0 then []else 46::frac (u % 1000))
def txtV(n:Int):List UInt8:=(if n<0 then [45]else [])++txtU n.natAbs
theorem fD{a b:List UInt8}(h:a.length+b.length≤9223372036854775807):okStr a b=true:=decide_eq_true h
theorem fmtU(u:Nat)(h:u<18446744073709551616):bX (u:Int) 10=some (Lib.decDigits u):=by
 unfold bX
 rw[show (decide ((0:Int)≤(u:Int)∧(u:Int)<18446744073709551616)&&((10:Int)==10))=true by simp;omega,aD,zJ]
theorem dd_len(u:Nat)(h:u<18446744073709551616):(Lib.decDigits u).length≤20:=by
 rcases zM (Lib.decDigits u).length 21 with q | q
 ·omega
 ·exfalso
  by_cases h0:u=0
  ·subst h0
   rw[dd_small (by omega)]at q
   simp at q
  ·have h1:=num_pos (dd_dig u) (dd_ne u) (dd_head h0)
   rw[dd_num]at h1
   have h2:10 ^ 20≤10 ^ ((Lib.decDigits u).length-1):=kO (by omega) (by omega)
   omega
theorem trimR(s:List UInt8)(h:s.length≤9223372036854775807):dc s [48]=some (Lib.trimRightB s 48):=by
 show az (decide ((48:UInt8).toNat<128)&&decide (s.length≤9223372036854775807)) _=_
 rw[show (decide ((48:UInt8).toNat<128)&&decide (s.length≤9223372036854775807))=true by simp;omega,aD]
theorem fr3_len(a b c:UInt8):(fr3 a b c).length≤3:=by
 unfold fr3;split
 ·split
  ·split<;>simp
  ·simp
 ·simp
theorem abs_wrap (n : Int) (h1 : -9223372036854775808 ≤ n) (h2 : n ≤ 9223372036854775807) : (if (decide (n < 0)) = true then
        some (IntKind.u64.wrap (0-(IntKind.u64.wrap n)),([45]:List UInt8))
      else
        some (IntKind.u64.wrap n,[]))=some ((n.natAbs:Int),if n<0 then [45]else []):=by
  by_cases hn:n<0
  · rw[decide_eq_true hn,if_pos rfl,if_pos hn,gx,gx]
    congr 2
    omega
  · rw[decide_eq_false hn,if_neg (by simp),if_neg hn,gx]
    congr 2
    omega
theorem bk_Text_eq(n:Int)(h1:-9223372036854775808≤n)(h2:n≤9223372036854775807):bk_Text n=some (txtV n):=by
 unfold bk_Text
 rw[abs_wrap n h1 h2,ah]
 obtain⟨u,hu⟩:∃u,u=n.natAbs:=⟨_,rfl⟩
 obtain⟨sg,hsg⟩:∃sg:List UInt8,sg=if n<0 then [45]else []:=⟨_,rfl⟩
 have hu2:u≤9223372036854775808:=by omega
 have hsl:sg.length≤1:=by rw[hsg];split<;>simp
 unfold txtV txtU
 rw[←hu,←hsg]
 simp only
 have e1:IntKind.u64.wrap (Int.tdiv (u:Int) 1000)=((u / 1000:Nat):Int):=by
  rw[gx,kR (by omega)];omega
 have e2:Int.tmod (u:Int) 1000=((u % 1000:Nat):Int):=by
  rw[Int.tmod_eq_emod_of_nonneg (by omega)];omega
 have hl:=dd_len (u / 1000) (by omega)
 rw[e1,fmtU (u / 1000) (by omega),ah,fD (by omega),aD,e2]
 by_cases hr:u % 1000=0
 ·rw[hr];simp
 ·rw[decide_eq_true (show ((u % 1000:Nat):Int)>0 by omega),if_pos rfl,if_neg hr]
  have e3:IntKind.u64.wrap (1000+((u % 1000:Nat):Int))=((1000+u % 1000:Nat):Int):=by rw[gx];omega
  have hr2:u % 1000<1000:=Nat.mod_lt _ (by omega)
  have hd:=dd_1000 hr2
  have hl2:=dd_len (1000+u % 1000) (by omega)
  rw[e3,fmtU _ (by omega),ah]
  have hc:cutF (Lib.decDigits (1000+u % 1000)) 1=some ((Lib.decDigits (1000+u % 1000)).drop 1):=by
   unfold cutF
   rw[if_neg]
   ·rfl
   ·have:=List.length_pos_iff.2 (dd_ne (1000+u % 1000))
    omega
  have hf:=fr3_len (d3 (u % 1000)).1 (d3 (u % 1000)).2.1 (d3 (u % 1000)).2.2
  rw[hc,ah,trimR _ (by simp;omega),ah,hd,trim3,fD (by simp;omega),aD,fD (by simp;omega),aD]
  simp[frac]
def strip:List UInt8→Bool×List UInt8
 | []=>(false,[])
 | c::r=>if c=45 then (true,r)else (false,c::r)
theorem strip_cons(c:UInt8)(r:List UInt8):strip (c::r)=if c=45 then (true,r)else (false,c::r):=rfl
theorem strip_len(s:List UInt8):(strip s).2.length≤s.length:=by
 cases s with
 | nil=>simp[strip]
 | cons c r=>rw[strip_cons];split<;>simp
def cutV(l:List UInt8):List UInt8×List UInt8×Bool:=(l.takeWhile (· != 46),(l.dropWhile (· != 46)).drop 1,l.contains 46)
def zer(k:Nat):List UInt8:=kX k 48
def digB(l:List UInt8):Bool:=l.all isD&&!l.isEmpty
def badP(neg:Bool)(body p:List UInt8)(pt:Bool):Bool:=(pt&&(!digB p||(decide (3<p.length)||p.getLast? == some 48)))||(neg&&body==[48])
def badV(neg:Bool)(body w p:List UInt8)(pt:Bool):Bool:=!digB w||((decide (1<w.length)&&w.head? == some 48)||badP neg body p pt)
def valN(neg:Bool)(w p:List UInt8):Int×Int:=if w.length>10 then (0,11)else if num (w++p++zer (3-p.length))>1000000000000 then (0,11)else (if neg=true then -(num (w++p++zer (3-p.length)):Int)else num (w++p++zer (3-p.length)),0)
def valV(s:List UInt8):Int×Int :=
 if badV (strip s).1 (strip s).2 (cutV (strip s).2).1 (cutV (strip s).2).2.1 (cutV (strip s).2).2.2=true then (0,2)else valN (strip s).1 (cutV (strip s).2).1 (cutV (strip s).2).2.1
theorem cutPre(s:List UInt8)(hs:s.length≤1000000):cf s [45]=some ((strip s).2,(strip s).1):=by
 unfold cf bV bU
 cases s with
 | nil=>rfl
 | cons c r =>
  have h1:decide (((c::r).length:Int)≥(([45]:List UInt8).length:Int))=true:=by simp;omega
  have h2:cutT (c::r) (([45]:List UInt8).length:Int)=some [c]:=by unfold cutT;rw[if_neg (by simp;omega)];rfl
  have h3:cutF (c::r) (([45]:List UInt8).length:Int)=some r:=by unfold cutF;rw[if_neg (by simp;omega)];rfl
  rw[h1,if_pos rfl,h2,ah,ah,ah,h3]
  rw[strip_cons]
  by_cases hc:c=45
  ·subst hc;rfl
  ·rw[if_neg hc,show (([c]:List UInt8)==[45])=false by simpa using hc]
   rfl
theorem idx_facts:∀l:List UInt8,(Lib.indexByte l 46=-1∧l.takeWhile (· != 46)=l∧l.dropWhile (· != 46)=[]∧l.contains 46=false)∨(∃o:Nat,Lib.indexByte l 46=(o:Int)∧o<l.length∧l.take o=l.takeWhile (· != 46)∧l.drop o=l.dropWhile (· != 46)∧l.contains 46=true)
 | []=>.inl ⟨rfl,rfl,rfl,rfl⟩
 | b::l=>by
  unfold Lib.indexByte
  by_cases hb:b=46
  ·subst hb
   exact .inr ⟨0,rfl,by simp,rfl,by simp,by simp⟩
  ·have hb1:(b==46)=false:=by simpa using hb
   have hb2:(b != 46)=true:=by simp[hb]
   have hb3:((46:UInt8)==b)=false:=by simpa using fun e=>hb e.symm
   rw[hb1]
   simp only[zA,if_false,kL,kM,hb2,if_true,List.contains_cons,hb3,Bool.false_or]
   rcases idx_facts l with⟨h1,h2,h3,h4⟩|⟨o,h1,h2,h3,h4,h5⟩
   ·left
    rw[h1,h2]
    exact⟨rfl,rfl,h3,h4⟩
   ·right
    have hne:((o:Int)==-1)=false:=by simp
    rw[h1,hne]
    refine⟨o+1,by simp,by simpa using h2,?_,by simpa using h4,h5⟩
    rw[List.take_succ_cons,h3]
theorem cutEq(s:List UInt8)(hs:s.length≤1000000):cU s [46]=some (cutV s):=by
 have hi:bI s [46]=some (Lib.indexByte s 46):=by
  unfold bI
  by_cases he:s=[46]
  ·subst he;rfl
  ·have:(((([46]:List UInt8).length:Int)==0)||(([46]:List UInt8)==s))=false:=by
    simp
    exact λe=>he e.symm
   rw[this]
   rfl
 unfold cU cT
 rw[hi,ah]
 unfold cutV
 rcases idx_facts s with⟨h1,h2,h3,h4⟩|⟨o,h1,h2,h3,h4,h5⟩
 ·rw[h1,h2,h3,h4];rfl
 ·rw[h1,h5,←h3,←h4]
  have hw:IntKind.i64.wrap ((o:Int)+(([46]:List UInt8).length:Int))=((o+1:Nat):Int):=by
   simp only[zD,kU]
   rw[wrap_i64 (by omega) (by omega)];omega
  have hc1:cutT s (o:Int)=some (s.take o):=by unfold cutT;rw[if_neg (by omega),zJ]
  have hc2:cutF s ((o+1:Nat):Int)=some (s.drop (o+1)):=by unfold cutF;rw[if_neg (by omega),zJ]
  rw[decide_eq_true (show (o:Int)≥0 by omega),if_pos rfl,hc1,ah,hw,hc2,ah,ah,kY]
theorem digs_contains(c:UInt8):([48,49,50,51,52,53,54,55,56,57]:List UInt8).contains c=isD c:=by
 have key:∀k,k<256→([48,49,50,51,52,53,54,55,56,57]:List UInt8).contains (UInt8.ofNat k)=(decide (48≤k)&&decide (k≤57)):=of_decide_eq_true (by kernel_rfl)
 have:=key c.toNat (UInt8.toNat_lt c)
 rw[UInt8.ofNat_toNat]at this
 rw[this];rfl
theorem dw_nil{p:UInt8→Bool}:∀{l:List UInt8},l.dropWhile p=[]↔∀x∈l,p x=true
 | []=>by simp
 | c::l=>by
  rw[kM]
  cases h:p c with
  | true=>rw[if_pos rfl,dw_nil];simp[h]
  | false=>simp[h]
theorem trim_nil(l cs:List UInt8)(p:UInt8→Bool)(hp:∀c,cs.contains c=p c):(Lib.trimS l cs==[])=l.all p:=by
 have hfun:(cs.contains ·)=p:=funext hp
 unfold Lib.trimS Lib.trimLeftS Lib.trimRightS
 rw[hfun]
 cases hall:l.all p with
 | true =>
  have:l.reverse.dropWhile p=[]:=by
   rw[dw_nil]
   intro x hx
   exact List.all_eq_true.1 hall x (by simpa using hx)
  rw[this];rfl
 | false =>
  cases hd:l.reverse.dropWhile p with
  | nil =>
   rw[dw_nil]at hd
   have:l.all p=true:=List.all_eq_true.2 λx hx=>hd x (by simpa using hx)
   rw[this]at hall;cases hall
  | cons c r =>
   have hc:p c=false:=by
    have:=List.head?_dropWhile_not p l.reverse
    rw[hd]at this
    simpa using this
   have:(List.dropWhile p (c::r).reverse)≠[]:=by
    intro e
    rw[dw_nil]at e
    have:=e c (by simp)
    rw[hc]at this;cases this
   cases hx:List.dropWhile p (c::r).reverse with
   | nil=>exact absurd hx this
   | cons a b=>rfl
theorem bk_digits_eq(l:List UInt8)(hl:l.length≤1000000):dG l=some (digB l):=by
 unfold dG digB
 cases l with
 | nil=>rfl
 | cons c r =>
  have h1:((c::r)==([]:List UInt8))=false:=rfl
  rw[h1]
  unfold jc
  rw[show (([48,49,50,51,52,53,54,55,56,57]:List UInt8).all (λc=>decide (c.toNat<128))&&(decide ((c::r).length≤9223372036854775807)&&decide (([48,49,50,51,52,53,54,55,56,57]:List UInt8).length<4294967281)))=true by
   simp only[zD]at hl ⊢
   simp;omega]
  simp only[zA,if_false,aD,ah,trim_nil _ _ _ digs_contains,List.isEmpty_cons,zX,Bool.and_true]
theorem parse_eq:∀(l:List UInt8) (a:Nat),l.all isD=true→numA a l<1000000000000000000→Lib.parseUintM 18446744073709551615 a l=.ok (numA a l)
 | [],a,_,_=>rfl
 | c::l,a,h,hn=>by
  simp only[zK,zH]at h
  have hc:=isD_iff.1 h.1
  rw[numA_cons]at hn ⊢
  have hge:=numA_ge l (10*a+dv c)
  have hd:dv c=c.toNat-48:=rfl
  unfold Lib.parseUintM
  rw[if_pos hc,if_neg (by omega),if_neg (by omega),show a*10+(c.toNat-48)=10*a+dv c by omega]
  exact parse_eq l _ h.2 hn
theorem parseInt_eq(l:List UInt8)(h:l.all isD=true)(hne:l≠[])(hl:l.length≤17):dJ l 10 64=some (num l:Int):=by
 have hn:=num_lt l h
 have hp:(10:Nat) ^ l.length≤10 ^ 17:=kO (by omega) hl
 have hm:=parse_eq l 0 h (show num l<_ by omega)
 unfold dJ
 rw[show ((10:Int)==10&&((64:Int)==64&&decide (l.length≤9223372036854775806)))=true by simp;omega,aD]
 have key:Lib.parseIntB 64 l=.ok (num l:Int):=by
  cases l with
  | nil=>exact absurd rfl hne
  | cons c r =>
   simp only[zK,zH]at h
   have hc:=isD_iff.1 h.1
   unfold Lib.parseIntB
   simp only
   rw[if_neg (by omega)]
   unfold Lib.parseUintB
   rw[if_neg (by simp),show (2 ^ 64-1:Nat)=18446744073709551615 by rfl,hm]
   simp only
   have hx:numA 0 (c::r)=num (c::r):=rfl
   rw[if_neg (by omega),if_neg (by omega),if_neg (by omega),hx]
 rw[key]
theorem last_gt(p:List UInt8)(hp:p≠[])(hl:p.length≤1000000):∃c,gt p (IntKind.i64.wrap ((p.length:Int)-1))=some c∧p.getLast? = some c:=by
 have hpos:=List.length_pos_iff.2 hp
 rw[wrap_i64 (by omega) (by omega)]
 obtain⟨c,h1,h2⟩:=gt_ok' (l:=p) (i:=(p.length:Int)-1) (by omega) (by omega)
 refine⟨c,h1,?_⟩
 rw[List.getLast?_eq_getElem?,←h2]
 congr 1
 omega
theorem c48(c:UInt8):((c.toNat:Int)==48)=(c==48):=by
 rw[zG]
 simp only[beq_iff_eq]
 constructor
 ·intro h;exact UInt8.toNat_inj.1 (by have:(48:UInt8).toNat=48:=rfl;omega)
 ·intro h;subst h;rfl
theorem badP_eq (neg : Bool) (body p : List UInt8) (pt : Bool) (hl : p.length ≤ 1000000) : (if pt = true then
              bindO (dG p) λ(y105:Bool) =>
              if y105=true then
                if (decide ((p.length:Int)>3))=true then
                  some true
                else
                  bindO (gt p (IntKind.i64.wrap ((p.length:Int)-1))) λ(c106:UInt8) =>
                  if ((c106.toNat:Int)==48)=true then
                    some true
                  else
                    if neg=true then
                      some (body==[48])
                    else
                      some false
              else
                some true
            else
              if neg=true then
                some (body==[48])
              else
                some false)=some (badP neg body p pt):=by
  unfold badP
  cases pt with
  | false=>cases neg<;>simp
  | true =>
    rw[if_pos rfl,bk_digits_eq p hl,ah]
    cases hd:digB p with
    | false=>simp
    | true =>
      rw[if_pos rfl]
      have hne:p≠[]:=by intro e;subst e;cases hd
      obtain⟨c,h1,h2⟩:=last_gt p hne hl
      rw[h1,ah,h2,c48]
      have e3:decide ((p.length:Int)>3)=decide (3<p.length):=by
        rw[zG];simp only[decide_eq_true_eq];omega
      rw[e3]
      cases decide (3<p.length)<;>cases hc:(c==48)<;>cases neg<;>simp_all
theorem tw_len(p:UInt8→Bool)(l:List UInt8):(l.takeWhile p).length≤l.length∧(l.dropWhile p).length≤l.length:=by
 have h:=congrArg List.length (zT (p:=p) (l:=l))
 rw[zB]at h
 omega
theorem zer_dig(k:Nat):(zer k).all isD=true:=by
 unfold zer
 rw[zZ]
 intro x hx
 rw[List.eq_of_mem_replicate hx]
 rfl
theorem bk_Value_eq(s:List UInt8)(hs:s.length≤100000):bk_Value s=some (valV s):=by
  unfold bk_Value valV
  rw[cutPre s (by omega),ah]
  have hb:=strip_len s
  generalize strip s=st at *
  obtain⟨neg,body⟩:=st
  simp only at hb ⊢
  rw[cutEq body (by omega),ah]
  have hw:=(tw_len (· != 46) body).1
  have hp:(cutV body).2.1.length≤body.length:=by
    have:=(tw_len (· != 46) body).2
    show ((body.dropWhile (· != 46)).drop 1).length≤_
    simp;omega
  have hpt:(cutV body).2.2=false→(cutV body).2.1=[]:=by
    intro h
    rcases idx_facts body with⟨_,_,h3,_⟩|⟨_,_,_,_,_,h5⟩
    · show (body.dropWhile (· != 46)).drop 1=[]
      rw[h3];rfl
    · have:(cutV body).2.2=true:=h5
      rw[this]at h;cases h
  have hw:(cutV body).1.length≤body.length:=hw
  generalize cutV body=cv at *
  obtain⟨w,p,pt⟩:=cv
  simp only at hw hp hpt ⊢
  rw[bk_digits_eq w (by omega),ah]
  have hbad : ∀ (k : Bool → Option (Int × Int)), (bindO (if digB w = true then
        if (decide ((w.length:Int)>1))=true then
          bindO (gt w 0) λ(c104:UInt8) =>
          if ((c104.toNat:Int)==48)=true then
            some true
          else
            if pt=true then
              bindO (dG p) λ(y105:Bool) =>
              if y105=true then
                if (decide ((p.length:Int)>3))=true then
                  some true
                else
                  bindO (gt p (IntKind.i64.wrap ((p.length:Int)-1))) λ(c106:UInt8) =>
                  if ((c106.toNat:Int)==48)=true then
                    some true
                  else
                    if neg=true then
                      some (body==[48])
                    else
                      some false
              else
                some true
            else
              if neg=true then
                some (body==[48])
              else
                some false
        else
          if pt=true then
            bindO (dG p) λ(y107:Bool) =>
            if y107=true then
              if (decide ((p.length:Int)>3))=true then
                some true
              else
                bindO (gt p (IntKind.i64.wrap ((p.length:Int)-1))) λ(c108:UInt8) =>
                if ((c108.toNat:Int)==48)=true then
                  some true
                else
                  if neg=true then
                    some (body==[48])
                  else
                    some false
            else
              some true
          else
            if neg=true then
              some (body==[48])
            else
              some false
      else
        some true) k)=k (badV neg body w p pt):=by
    intro k
    rw[badP_eq neg body p pt (by omega)]
    unfold badV
    cases hd:digB w with
    | false=>rfl
    | true =>
      cases w with
      | nil=>cases hd
      | cons c r =>
        rw[if_pos rfl,show gt (c::r) 0=some c from rfl,ah,c48]
        have e3:decide (((c::r).length:Int)>1)=decide (1<(c::r).length):=by
          rw[zG];simp only[decide_eq_true_eq];omega
        rw[e3]
        have e4:((c::r).head? == some 48)=(c==48):=rfl
        rw[e4]
        cases decide (1<(c::r).length)<;>cases (c==48)<;>simp
  rw[hbad]
  cases hv:badV neg body w p pt with
  | true=>rfl
  | false =>
    simp only[zA,if_false]
    unfold badV badP at hv
    simp only[Bool.or_eq_false_iff,Bool.not_eq_false']at hv
    obtain⟨hd,_,hv,_⟩:=hv
    have hdw:w.all isD=true∧w≠[]:=by
      unfold digB at hd
      simp only[zH]at hd
      exact⟨hd.1,λe=>by subst e;exact absurd hd.2 (by simp)⟩
    have hp3:p.all isD=true∧p.length≤3:=by
      cases pt with
      | false=>rw[hpt rfl];simp
      | true =>
        simp only[Bool.true_and,Bool.or_eq_false_iff,Bool.not_eq_false',decide_eq_false_iff_not]at hv
        unfold digB at hv
        simp only[zH]at hv
        exact⟨hv.1.1,by omega⟩
    unfold valN
    have e1:decide ((w.length:Int)>10)=decide (w.length>10):=by
      rw[zG];simp only[decide_eq_true_eq];omega
    rw[e1]
    by_cases h10:w.length>10
    · rw[decide_eq_true h10,if_pos rfl,if_pos h10]
    · rw[decide_eq_false h10,if_neg (by simp),if_neg h10]
      have hz:cutF ([48,48,48]:List UInt8) (p.length:Int)=some (zer (3-p.length)):=by
        have:p.length=0∨p.length=1∨p.length=2∨p.length=3:=by omega
        rcases this with e | e | e | e<;>rw[e]<;>rfl
      have hall:(w++p++zer (3-p.length)).all isD=true:=by
        simp only[zY,hdw.1,hp3.1,zer_dig,Bool.and_self]
      have hlen:(w++p++zer (3-p.length)).length=w.length+3:=by simp[zer];omega
      have hlen2:(zer (3-p.length)).length=3-p.length:=by simp[zer]
      rw[fD (by omega),aD,hz,ah,fD (by simp only[zB];omega),aD,parseInt_eq _ hall (by intro e;rw[e]at hlen;simp at hlen) (by omega),ah]
      have hlt:=num_lt _ hall
      have hle:(10:Nat) ^ (w++p++zer (3-p.length)).length≤10 ^ 13:=kO (by omega) (by omega)
      generalize num (w++p++zer (3-p.length))=N at *
      by_cases hN:N>1000000000000
      · rw[decide_eq_true (show (N:Int)>1000000000000 by omega),if_pos rfl,if_pos hN]
      · rw[decide_eq_false (show ¬(N:Int)>1000000000000 by omega),if_neg (by simp),if_neg hN]
        cases neg with
        | true=>simp only[if_true,ah];rw[wrap_i64 (by omega) (by omega),Int.zero_sub]
        | false=>rfl
theorem d3_num{r:Nat}(h:r<1000)(l:List UInt8):num (l++[(d3 r).1,(d3 r).2.1,(d3 r).2.2])=1000*num l+r:=by
 unfold d3
 rw[show l++[UInt8.ofNat (48+r / 100),UInt8.ofNat (48+r / 10 % 10),UInt8.ofNat (48+r % 10)]=((l++[UInt8.ofNat (48+r / 100)])++[UInt8.ofNat (48+r / 10 % 10)])++[UInt8.ofNat (48+r % 10)] by simp]
 rw[num_snoc,num_snoc,num_snoc,dv_of (by omega),dv_of (by omega),dv_of (by omega)]
 omega
theorem d3_zero{r:Nat}(h:r<1000)(h0:r≠0):¬((d3 r).1=48∧(d3 r).2.1=48∧(d3 r).2.2=48):=by
 rintro⟨e1,e2,e3⟩
 have:=d3_num h []
 rw[e1,e2,e3]at this
 simp[num,numA,dv]at this
 omega
theorem fr3_pad(a b c:UInt8):fr3 a b c++zer (3-(fr3 a b c).length)=[a,b,c]:=by
 unfold fr3
 by_cases hc:c=48
 ·by_cases hb:b=48
  ·by_cases ha:a=48
   ·simp[hc,hb,ha,zer,kX]
   ·simp[hc,hb,ha,zer,kX]
  ·simp[hc,hb,zer,kX]
 ·simp[hc,zer,kX]
theorem fr3_last(a b c:UInt8):(fr3 a b c).getLast?≠some 48:=by
 unfold fr3
 by_cases hc:c=48
 ·by_cases hb:b=48
  ·by_cases ha:a=48
   ·simp[hc,hb,ha]
   ·simp[hc,hb,ha]
  ·simp[hc,hb]
 ·simp[hc]
theorem fr3_ne(a b c:UInt8)(h:¬(a=48∧b=48∧c=48)):fr3 a b c≠[]:=by
 unfold fr3
 by_cases hc:c=48
 ·by_cases hb:b=48
  ·by_cases ha:a=48
   ·exact absurd ⟨ha,hb,hc⟩ h
   ·simp[hc,hb,ha]
  ·simp[hc,hb]
 ·simp[hc]
theorem fr3_dig(a b c:UInt8)(ha:isD a=true)(hb:isD b=true)(hc:isD c=true):(fr3 a b c).all isD=true:=by
 unfold fr3
 split
 ·split
  ·split<;>simp[ha]
  ·simp[ha,hb]
 ·simp[ha,hb,hc]
theorem d3_dig{r:Nat}(h:r<1000):isD (d3 r).1=true∧isD (d3 r).2.1=true∧isD (d3 r).2.2=true:=⟨isD_of (by omega),isD_of (by omega),isD_of (by omega)⟩
theorem dig_ne{c:UInt8}(h:isD c=true):c≠46∧c≠45:=by
 have:=isD_iff.1 h
 refine⟨λe=>?_,λe=>?_⟩
 ·subst e;have:(46:UInt8).toNat=46:=rfl;omega
 ·subst e;have:(45:UInt8).toNat=45:=rfl;omega
theorem tw_all:∀(w r:List UInt8),w.all isD=true→(r=[]∨∃q,r=46::q)→(w++r).takeWhile (· != 46)=w∧(w++r).dropWhile (· != 46)=r
 | [],r,_,hr=>by rcases hr with rfl | ⟨q,rfl⟩<;>simp
 | c::w,r,h,hr=>by
  simp only[zK,zH]at h
  have hc:(c != 46)=true:=by simpa using (dig_ne h.1).1
  obtain⟨h1,h2⟩:=tw_all w r h.2 hr
  simp only[zL,kL,kM,hc,if_true,h1,h2,and_self]
theorem cont_dig:∀(w:List UInt8),w.all isD=true→w.contains 46=false
 | [],_=>rfl
 | c::w,h=>by
  simp only[zK,zH]at h
  rw[List.contains_cons,cont_dig w h.2,show ((46:UInt8)==c)=false by simpa using fun e=>(dig_ne h.1).1 e.symm];rfl
theorem cutV_of(w p:List UInt8)(pt:Bool)(hw:w.all isD=true)(hp:pt=false→p=[]):cutV (w++(if pt=true then 46::p else []))=(w,p,pt):=by
 unfold cutV
 cases pt with
 | true =>
  obtain⟨h1,h2⟩:=tw_all w (46::p) hw (.inr ⟨p,rfl⟩)
  rw[if_pos rfl,h1,h2]
  simp
 | false =>
  obtain⟨h1,h2⟩:=tw_all w [] hw (.inl rfl)
  rw[if_neg (by simp),h1,h2,hp rfl,zF,cont_dig w hw];rfl
theorem strip_of(neg:Bool)(b:List UInt8)(h:b.head?≠some 45):strip ((if neg=true then [45]else [])++b)=(neg,b):=by
 cases neg with
 | true=>rfl
 | false =>
  cases b with
  | nil=>rfl
  | cons c r =>
   show strip (c::r)=_
   rw[strip_cons,if_neg]
   intro e;subst e;exact h rfl
theorem digB_of{l:List UInt8}(h:l.all isD=true)(hne:l≠[]):digB l=true:=by
 unfold digB
 rw[h]
 cases l with
 | nil=>exact absurd rfl hne
 | cons c r=>rfl
theorem txtU_form(u:Nat):txtU u=Lib.decDigits (u / 1000)++(if (decide (u % 1000≠0))=true then 46::(if u % 1000=0 then []else frac (u % 1000))else []):=by
 unfold txtU
 by_cases h:u % 1000=0
 ·rw[if_pos h,if_neg (by simp[h])]
 ·rw[if_neg h,if_pos (by simpa using h),if_neg h]
theorem val_txt(n:Int):valV (txtV n)=if n.natAbs>1000000000000 then (0,11)else (n,0):=by
 obtain⟨u,hu⟩:∃u,u=n.natAbs:=⟨_,rfl⟩
 have hw:=dd_can (u / 1000)
 obtain⟨f,hf⟩:∃f,f=if u % 1000=0 then []else frac (u % 1000):=⟨_,rfl⟩
 have hr2:u % 1000<1000:=Nat.mod_lt _ (by omega)
 have hform:=txtU_form u
 rw[←hf]at hform
 have hhead:(txtU u).head?≠some 45:=by
  rw[hform]
  cases hd:Lib.decDigits (u / 1000)with
  | nil=>exact absurd hd hw.2.1
  | cons c r =>
   have hc:isD c=true:=by
    have:=hw.1
    rw[hd]at this
    simp only[zK,zH]at this
    exact this.1
   simp only[zL,List.head?_cons,ne_eq,Option.some.injEq]
   exact (dig_ne hc).2
 have hst:strip (txtV n)=(decide (n<0),txtU u):=by
  unfold txtV
  rw[←hu]
  have:=strip_of (decide (n<0)) (txtU u) hhead
  simpa using this
 have hcut:cutV (txtU u)=(Lib.decDigits (u / 1000),f,decide (u % 1000≠0)):=by
  rw[hform]
  exact cutV_of _ _ _ hw.1 (λh=>by rw[hf,if_pos (by simpa using h)])
 have hfr:u % 1000≠0→f.all isD=true∧f≠[]∧f.length≤3∧f.getLast?≠some 48:=by
  intro h
  rw[hf,if_neg h]
  obtain⟨q1,q2,q3⟩:=d3_dig hr2
  exact⟨fr3_dig _ _ _ q1 q2 q3,fr3_ne _ _ _ (d3_zero hr2 h),fr3_len _ _ _,fr3_last _ _ _⟩
 have hbad:badV (decide (n<0)) (txtU u) (Lib.decDigits (u / 1000)) f (decide (u % 1000≠0))=false:=by
  unfold badV badP
  rw[digB_of hw.1 hw.2.1]
  have h1:(decide (1<(Lib.decDigits (u / 1000)).length)&&(Lib.decDigits (u / 1000)).head? == some 48)=false:=by
   by_cases q:1<(Lib.decDigits (u / 1000)).length
   ·have:=hw.2.2 q
    simp[this]
   ·simp[q]
  have h2:(decide (u % 1000≠0)&&(!digB f||(decide (3<f.length)||f.getLast? == some 48)))=false:=by
   by_cases q:u % 1000=0
   ·simp[q]
   ·obtain⟨a1,a2,a3,a4⟩:=hfr q
    rw[digB_of a1 a2]
    have a3':decide (3<f.length)=false:=decide_eq_false (by omega)
    rw[a3']
    simp[a4]
  have h3:(decide (n<0)&&txtU u==[48])=false:=by
   by_cases q:n<0
   ·have hu0:u≠0:=by omega
    rw[decide_eq_true q,Bool.true_and]
    refine beq_eq_false_iff_ne.2 λe=>?_
    rw[hform]at e
    by_cases q2:u % 1000=0
    ·rw[if_neg (by simp[q2]),zF]at e
     have:=dd_head (u:=u / 1000) (by omega)
     rw[e]at this
     exact this rfl
    ·rw[if_pos (by simpa using q2)]at e
     have h5:=congrArg List.length e
     have h6:=List.length_pos_iff.2 hw.2.1
     simp at h5
     omega
   ·simp[q]
  rw[h1,h2,h3];rfl
 unfold valV
 rw[hst]
 simp only
 rw[hcut]
 simp only
 rw[hbad,if_neg (by simp),←hu]
 unfold valN
 have hnum:num (Lib.decDigits (u / 1000)++f++zer (3-f.length))=u:=by
  by_cases q:u % 1000=0
  ·rw[hf,if_pos q]
   show num (Lib.decDigits (u / 1000)++[]++zer 3)=u
   have hz:(0:Nat)<1000:=by omega
   have:=d3_num hz (Lib.decDigits (u / 1000))
   rw[dd_num]at this
   rw[zF,show zer 3=[(d3 0).1,(d3 0).2.1,(d3 0).2.2] from rfl,this]
   omega
  ·rw[hf,if_neg q,zN]
   unfold frac
   rw[fr3_pad,d3_num hr2,dd_num]
   omega
 rw[hnum]
 by_cases h10:(Lib.decDigits (u / 1000)).length>10
 ·rw[if_pos h10,if_pos]
  have h0:u / 1000≠0:=by
   intro e
   rw[e,dd_small (by omega)]at h10
   simp at h10
  have h1:=num_pos hw.1 hw.2.1 (dd_head h0)
  rw[dd_num]at h1
  have h2:(10:Nat) ^ 10≤10 ^ ((Lib.decDigits (u / 1000)).length-1):=kO (by omega) (by omega)
  omega
 ·rw[if_neg h10]
  by_cases hb:u>1000000000000
  ·rw[if_pos hb,if_pos hb]
  ·rw[if_neg hb,if_neg hb]
   by_cases hn:n<0
   ·rw[decide_eq_true hn,if_pos rfl]
    congr 1;omega
   ·rw[decide_eq_false hn,if_neg (by simp)]
    congr 1;omega
theorem wrap_u8(n:Int):IntKind.u8.wrap n=n % 256:=by simp[IntKind.wrap,IntKind.bits,IntKind.signed]
theorem c46(c:UInt8):((c.toNat:Int)==46)=(c==46):=by
 rw[zG]
 simp only[beq_iff_eq]
 constructor
 ·intro h;exact UInt8.toNat_inj.1 (by have:(46:UInt8).toNat=46:=rfl;omega)
 ·intro h;subst h;rfl
theorem c45(c:UInt8):((c.toNat:Int)==45)=(c==45):=by
 rw[zG]
 simp only[beq_iff_eq]
 constructor
 ·intro h;exact UInt8.toNat_inj.1 (by have:(45:UInt8).toNat=45:=rfl;omega)
 ·intro h;subst h;rfl
def nch(c:UInt8):Bool:=isD c||(c==45||c==46)
abbrev PR:=aa×Int×Int
def badR(a:Nat)(e:Int):PR:=(aa.mk false [] [],(a:Int),e)
def prC(sk:Bool)(ws:List ap)(a:Nat)(r:List UInt8):PR :=
 if (r.takeWhile prn).length>100 then badR a 3
 else if r.takeWhile prn=[]∨(r.dropWhile prn).head?≠some 41 then badR (a+1+(r.takeWhile prn).length) 2
 else if (r.dropWhile prn).drop 1≠[]then badR (a+1+(r.takeWhile prn).length+1) 2
 else (aa.mk sk ws (r.takeWhile prn),0,0)
def wordV(c:UInt8)(t:List UInt8):ap:=ap.mk (c.toNat:Int) (valV t).1
def prN(sk:Bool)(a:Nat)(ws:List ap)(K:Nat→List UInt8→PR):List UInt8→PR
 | []=>(aa.mk sk ws [],0,0)
 | d::q=>if d≠32 then badR a 2 else K (a+1) q
theorem prN_eq(sk:Bool)(a:Nat)(ws:List ap)(K:Nat→List UInt8→PR)(q:List UInt8):prN sk a ws K (32::q)=K (a+1) q:=rfl
theorem prN_ne(sk:Bool)(a:Nat)(ws:List ap)(K:Nat→List UInt8→PR){d:UInt8}(q:List UInt8)(h:d≠32):prN sk a ws K (d::q)=badR a 2:=if_pos h
def prW(sk:Bool):Nat→Bool→Nat→List ap→List UInt8→PR
 | 0,_,a,_,_=>badR a 2
 | _+1,sp,a,ws,[]=>if sp=true then badR a 2 else (aa.mk sk ws [],0,0)
 | n+1,_,a,ws,c::r =>
  if c=40 then prC sk ws a r
  else if c.toNat<65∨c.toNat>90 then badR a 2
  else if ws.length=16 then badR a 3
  else if (valV (r.takeWhile nch)).2≠0 then badR a (valV (r.takeWhile nch)).2
  else prN sk (a+1+(r.takeWhile nch).length) (ws++[wordV c (r.takeWhile nch)]) (λb q=>prW sk n true b (ws++[wordV c (r.takeWhile nch)]) q) (r.dropWhile nch)
def prsV(s:List UInt8):PR:=if s.head? = some 47 then prW true (s.length+1) false 1 [] (s.drop 1)else prW false (s.length+1) false 0 [] s
theorem scan{s:List UInt8}{p:UInt8→Bool}{f:Int→Option (Ex Int Int)}(hs:s.length≤1000000)(h1:∀(i:Nat) c,s[i]? = some c→f (i:Int)=if p c=true then some (.go ((i+1:Nat):Int))else some (.ret (i:Int)))(h2:f (s.length:Int)=some (.ret (s.length:Int)))(a:Nat)(ha:a≤s.length) :
  loopX f fuel (a:Int)=some ((a+((s.drop a).takeWhile p).length:Nat):Int):=by
 have key:Tot (loopX f fuel (a:Int)) (λo=>o=((a+((s.drop a).takeWhile p).length:Nat):Int)):=by
  refine Tot.loop (λm v=>∃i:Nat,v=(i:Int)∧i≤s.length∧m=s.length-i∧i+((s.drop i).takeWhile p).length=a+((s.drop a).takeWhile p).length) _ (s.length-a) (iB (by omega)) ⟨a,rfl,ha,rfl,rfl⟩ (λm v hr=>?_)
  obtain⟨i,rfl,hi,hm,ht⟩:=hr
  rcases kW hi with e | q
  ·subst e
   rw[h2]
   refine .ret ?_
   rw[←ht];simp
  ·have hx:=List.getElem?_eq_getElem q
   rw[h1 i _ hx]
   rw[zQ q,kL]at ht
   cases hp:p s[i]with
   | true =>
    rw[hp,if_pos rfl,zD]at ht
    rw[if_pos rfl]
    exact .go ⟨s.length-(i+1),by omega,i+1,rfl,by omega,rfl,by omega⟩
   | false =>
    rw[hp,if_neg (by simp),kU]at ht
    rw[if_neg (by simp)]
    refine .ret ?_
    rw[←ht];rfl
 obtain⟨o,ho,rfl⟩:=key
 exact ho
theorem iy{s:List UInt8}{i:Nat}{c:UInt8}(h:s[i]? = some c):((i:Int)==(s.length:Int))=false:=by
 have:=aq h
 simp;omega
theorem cut_mid{s r t:List UInt8}{a:Nat}{p:UInt8→Bool}(hd:s.drop a=r)(ht:r.takeWhile p=t)(ha:a≤s.length)(hs:s.length≤1000000):cutL s (a:Int) ((a+t.length:Nat):Int)=some t:=by
 have hl:=(tw_len p r).1
 have hrl:r.length=s.length-a:=by rw[←hd];simp
 rw[ht]at hl
 unfold cutL
 rw[if_neg (by omega)]
 congr 1
 rw[zJ,zJ,hd,←ht]
 have:=zT (p:=p) (l:=r)
 conv=>lhs;arg 2;rw[←this]
 rw[List.take_left' (by omega)]
theorem drop_tw{s r:List UInt8}{a:Nat}{p:UInt8→Bool}(hd:s.drop a=r):s.drop (a+(r.takeWhile p).length)=r.dropWhile p:=by
 rw[←kY,hd]
 have:=zT (p:=p) (l:=r)
 conv=>lhs;arg 2;rw[←this]
 rw[List.drop_left' rfl]
theorem dw_at{s r:List UInt8}{a:Nat}{p:UInt8→Bool}(hd:s.drop a=r):s[a+(r.takeWhile p).length]? = (r.dropWhile p).head?:=by
 have:=drop_tw (p:=p) hd
 rw[←this,List.head?_drop]
theorem number_val(c:UInt8):(((decide ((c.toNat:Int)≥48))&&(decide ((c.toNat:Int)≤57)))||(((c.toNat:Int)==45)||((c.toNat:Int)==46)))=nch c:=by
 unfold nch
 rw[c45,c46]
 have h:isD c=(decide ((c.toNat:Int)≥48)&&decide ((c.toNat:Int)≤57)):=by
  unfold isD
  congr 1<;>(rw[zG];simp only[decide_eq_true_eq];omega)
 rw[h]
theorem c40(c:UInt8):((c.toNat:Int)==40)=decide (c=40):=by
 rw[zG]
 simp only[beq_iff_eq,decide_eq_true_eq]
 constructor
 ·intro h;exact UInt8.toNat_inj.1 (by have:(40:UInt8).toNat=40:=rfl;omega)
 ·intro h;subst h;rfl
theorem c41(c:UInt8):((c.toNat:Int) != 41)=decide (c≠41):=by
 rw[zG]
 simp only[bne_iff_ne,ne_eq,decide_eq_true_eq]
 constructor
 ·intro h e;subst e;exact h rfl
 ·intro h e;exact h (UInt8.toNat_inj.1 (by have:(41:UInt8).toNat=41:=rfl;omega))
theorem c32(c:UInt8):((c.toNat:Int) != 32)=decide (c≠32):=by
 rw[zG]
 simp only[bne_iff_ne,ne_eq,decide_eq_true_eq]
 constructor
 ·intro h e;subst e;exact h rfl
 ·intro h e;exact h (UInt8.toNat_inj.1 (by have:(32:UInt8).toNat=32:=rfl;omega))
theorem c47(c:UInt8):((c.toNat:Int) != 47)=decide (c≠47):=by
 rw[zG]
 simp only[bne_iff_ne,ne_eq,decide_eq_true_eq]
 constructor
 ·intro h e;subst e;exact h rfl
 ·intro h e;exact h (UInt8.toNat_inj.1 (by have:(47:UInt8).toNat=47:=rfl;omega))
def bkOut(r:Int×bs):PR:=if (r.1 != 0)=true then (aa.mk false [] [],r.2.at_,r.1)else (r.2.b,0,0)
set_option maxHeartbeats 4000000 in
theorem bk_Parse_tot(s:List UInt8)(hs:s.length≤65536):Tot (bk_Parse s) (λr=>r=prsV s):=by
 unfold bk_Parse
 refine Tot.ite (λh=>absurd (of_decide_eq_true h) (by omega)) (λ_=>?_)
 refine Tot.bind (E:=λr=>bkOut r=prsV s) ?_ (λr hr=>?_)
 ·refine Tot.bind (E:=λx:Bool×Int=>x=if s.head? = some 47 then (true,1)else (false,0)) ?_ (λx hx=>?_)
  ·cases s with
   | nil=>exact .ok rfl
   | cons c q =>
    have h0:((0:Int)==(((c::q).length:Nat):Int))=false:=by simp;omega
    rw[ah,h0,if_neg (by simp),show gt (c::q) 0=some c from rfl,ah,ah,c47]
    by_cases hc:c=47
    ·subst hc;exact .ok rfl
    ·rw[decide_eq_true hc,if_pos rfl]
     refine .ok ?_
     rw[if_neg (by simpa using hc)]
  ·obtain⟨sk,a0,hx2,ha0,hT⟩:∃(sk:Bool) (a0:Nat),x=(sk,(a0:Int))∧a0≤s.length∧prsV s=prW sk (s.length+1) false a0 [] (s.drop a0):=by
    unfold prsV
    by_cases hc:s.head? = some 47
    ·rw[if_pos hc]at hx ⊢
     refine⟨true,1,hx,?_,rfl⟩
     cases s with
     | nil=>cases hc
     | cons c q=>simp
    ·rw[if_neg hc]at hx ⊢
     exact⟨false,0,hx,by omega,rfl⟩
   subst hx2
   rw[hT]
   generalize hTT:prW sk (s.length+1) false a0 [] (s.drop a0)=T
   refine Tot.loop (λm v=>∃(sp:Bool) (a:Nat) (ws:List ap),v=(sp,bs.mk s (a:Int) (aa.mk sk ws []))∧a≤s.length∧ws.length≤16∧s.length-a<m∧prW sk m sp a ws (s.drop a)=T) _ (s.length+1) (iB (by omega)) ⟨false,a0,[],rfl,ha0,by simp,by omega,hTT⟩ (λm v hr=>?_)
   obtain⟨sp,a,ws,rfl,ha,hws,hm,ht⟩:=hr
   obtain⟨n,rfl⟩:∃n,m=n+1:=⟨m-1,by omega⟩
   simp only[ah]
   rcases kW ha with e | hlt
   ·have hnil:s.drop a=[]:=by rw[e];simp
    rw[hnil]at ht
    rw[show ((a:Int)==(s.length:Int))=true by simp;omega,if_pos rfl]
    cases sp with
    | true=>rw[if_pos rfl];exact .ret (by rw[←ht];rfl)
    | false=>rw[if_neg (by simp)];exact .ret (by rw[←ht];rfl)
   ·obtain⟨c,hc⟩:∃c,s[a]? = some c:=⟨_,List.getElem?_eq_getElem hlt⟩
    have hdr:s.drop a=c::s.drop (a+1):=by
     rw[zQ hlt]
     rw[List.getElem?_eq_getElem hlt]at hc;injection hc with hc;rw[hc]
    obtain⟨r,hr⟩:∃r,s.drop (a+1)=r:=⟨_,rfl⟩
    rw[hdr,hr]at ht
    have hw1:IntKind.i64.wrap ((a:Int)+1)=((a+1:Nat):Int):=by rw[wrap_i64 (by omega) (by omega)];omega
    have hrl:r.length=s.length-(a+1):=by rw[←hr];simp
    rw[iy hc,if_neg (by simp),gt_k hc,ah,c40,hw1]
    unfold prW at ht
    by_cases h40:c=40
    ·-- a comment
     rw[if_pos h40]at ht
     rw[decide_eq_true h40,if_pos rfl]
     rw[scan (s:=s) (p:=prn) (by omega) (λi x hx=>by
      rw[iy hx,if_neg (by simp),gt_k hx,ah]
      unfold cZ
      rw[ah,ah,wrap_i64 (by omega) (by have:=aq hx;omega)]
      rfl) (by rw[beq_self_eq_true,if_pos rfl];rfl) (a+1) (by omega),ah,hr]
     have htl:=(tw_len prn r).1
     rw[cut_mid (p:=prn) hr rfl (by omega) (by omega),ah]
     unfold prC at ht
     by_cases h100:(r.takeWhile prn).length>100
     ·rw[if_pos h100]at ht
      rw[decide_eq_true (show (((r.takeWhile prn).length:Nat):Int)>100 by omega),if_pos rfl,ah]
      exact .ret (by rw[←ht];rfl)
     ·rw[if_neg h100]at ht
      rw[decide_eq_false (show ¬(((r.takeWhile prn).length:Nat):Int)>100 by omega),if_neg (by simp)]
      by_cases hnil:r.takeWhile prn=[]
      ·rw[if_pos (.inl hnil)]at ht
       rw[hnil]at ht ⊢
       exact .ret (by rw[←ht];rfl)
      ·have hbe:(r.takeWhile prn==[])=false:=by simpa using hnil
       rw[hbe,if_neg (by simp)]
       have hat:=dw_at (p:=prn) hr
       rcases kW (show a+1+(r.takeWhile prn).length≤s.length by omega)with e | hlt2
       ·have hh:(r.dropWhile prn).head? = none:=by rw[←hat,e];simp
        rw[if_pos (.inr (by rw[hh];simp))]at ht
        rw[show (((a+1+(r.takeWhile prn).length:Nat):Int)==(s.length:Int))=true by simp;omega,if_pos rfl]
        exact .ret (by rw[←ht];rfl)
       ·obtain⟨d,hd⟩:∃d,s[a+1+(r.takeWhile prn).length]? = some d:=⟨_,List.getElem?_eq_getElem hlt2⟩
        rw[hd]at hat
        rw[iy hd,if_neg (by simp),gt_k hd,ah,ah,c41]
        have hw2:IntKind.i64.wrap (((a+1+(r.takeWhile prn).length:Nat):Int)+1)=((a+1+(r.takeWhile prn).length+1:Nat):Int):=by rw[wrap_i64 (by omega) (by omega)];omega
        by_cases h41:d=41
        ·rw[decide_eq_false (by simpa using h41),if_neg (by simp),hw2,ah,ah,if_neg (by simp)]
         dsimp only
         rw[if_neg (by rw[←hat,h41];simpa using hnil)]at ht
         have hq:(r.dropWhile prn).drop 1=s.drop (a+1+(r.takeWhile prn).length+1):=by
          rw[←drop_tw (p:=prn) hr,kY]
         rw[hq]at ht
         by_cases hend:a+1+(r.takeWhile prn).length+1=s.length
         ·rw[if_neg (by rw[hend];simp)]at ht
          rw[show (((a+1+(r.takeWhile prn).length+1:Nat):Int)==(s.length:Int))=true by simp;omega]
          exact .ret (by rw[←ht];rfl)
         ·rw[if_pos (by
           intro e2
           have:=congrArg List.length e2
           simp at this;omega)]at ht
          rw[show (((a+1+(r.takeWhile prn).length+1:Nat):Int)==(s.length:Int))=false by simp;omega]
          exact .ret (by rw[←ht];rfl)
        ·rw[decide_eq_true h41,if_pos rfl,ah,ah]
         rw[if_pos (.inr (by rw[←hat];simpa using h41))]at ht
         exact .ret (by rw[←ht];rfl)
    ·-- a word
     rw[if_neg h40]at ht
     rw[decide_eq_false h40,if_neg (by simp),ah]
     have hlet:(decide ((c.toNat:Int)<65)||decide ((c.toNat:Int)>90))=decide (c.toNat<65∨c.toNat>90):=by
      rw[zG];simp only[Bool.or_eq_true,decide_eq_true_eq];omega
     rw[hlet]
     by_cases hl:c.toNat<65∨c.toNat>90
     ·rw[if_pos hl]at ht
      rw[decide_eq_true hl,if_pos rfl]
      exact .ret (by rw[←ht];rfl)
     ·rw[if_neg hl]at ht
      rw[decide_eq_false hl,if_neg (by simp)]
      by_cases h16:ws.length=16
      ·rw[if_pos h16]at ht
       rw[show ((ws.length:Int)==16)=true by simp;omega,if_pos rfl]
       exact .ret (by rw[←ht];rfl)
      ·rw[if_neg h16]at ht
       rw[show ((ws.length:Int)==16)=false by simp;omega,if_neg (by simp)]
       rw[scan (s:=s) (p:=nch) (by omega) (λi x hx=>by
        have hlx:=aq hx
        rw[decide_eq_true (show (i:Int)<(s.length:Int) by omega),if_pos rfl,gt_k hx,ah]
        rw[←number_val x,wrap_i64 (by omega) (by omega)]
        cases decide ((x.toNat:Int)≥48)<;>cases decide ((x.toNat:Int)≤57)<;>cases ((x.toNat:Int)==45)<;>rfl) (by rw[decide_eq_false (by omega)];rfl) (a+1) (by omega),ah,hr]
       have htl:=(tw_len nch r).1
       rw[cut_mid (p:=nch) hr rfl (by omega) (by omega),ah,bk_Value_eq _ (by omega),ah]
       have hat:=dw_at (p:=nch) hr
       have hdw:=drop_tw (p:=nch) hr
       by_cases hv:(valV (r.takeWhile nch)).2=0
       ·rw[if_neg (by simpa using hv)]at ht
        rw[hv]
        simp only[bne_self_eq_false,zA,if_false]
        rw[aZ (by omega),aD,ah]
        simp only[bne_self_eq_false,zA,if_false]
        rcases kW (show a+1+(r.takeWhile nch).length≤s.length by omega)with e | hlt2
        ·have hnil:r.dropWhile nch=[]:=by rw[←hdw,e];simp
         rw[hnil]at ht
         rw[show (((a+1+(r.takeWhile nch).length:Nat):Int)==(s.length:Int))=true by simp;omega,if_pos rfl]
         exact .ret (by rw[←ht];rfl)
        ·obtain⟨d,hd⟩:∃d,s[a+1+(r.takeWhile nch).length]? = some d:=⟨_,List.getElem?_eq_getElem hlt2⟩
         have hcons:r.dropWhile nch=d::s.drop (a+1+(r.takeWhile nch).length+1):=by
          rw[←hdw,zQ hlt2]
          rw[List.getElem?_eq_getElem hlt2]at hd;injection hd with hd;rw[hd]
         rw[hcons]at ht
         rw[iy hd,if_neg (by simp),if_neg (by simp),gt_k hd,ah,ah,c32]
         have hw2:IntKind.i64.wrap (((a+1+(r.takeWhile nch).length:Nat):Int)+1)=((a+1+(r.takeWhile nch).length+1:Nat):Int):=by rw[wrap_i64 (by omega) (by omega)];omega
         by_cases h32:d=32
         ·subst h32
          rw[prN_eq]at ht
          rw[decide_eq_false (by simp),if_neg (by simp),hw2,ah,if_neg (by simp)]
          exact .go ⟨n,by omega,true,_,_,rfl,by omega,by simp;omega,by omega,ht⟩
         ·rw[prN_ne _ _ _ _ _ h32]at ht
          rw[decide_eq_true h32,if_pos rfl,ah]
          exact .ret (by rw[←ht];rfl)
       ·rw[if_pos hv]at ht
        rw[show ((valV (r.takeWhile nch)).2 != 0)=true by simpa using hv,if_pos rfl,ah]
        simp only[show ((valV (r.takeWhile nch)).2 != 0)=true by simpa using hv,if_true]
        refine .ret ?_
        rw[←ht]
        unfold bkOut
        rw[show ((valV (r.takeWhile nch)).2 != 0)=true by simpa using hv]
        rfl
 ·rw[←hr]
  unfold bkOut
  cases (r.1 != 0)with
  | true=>exact .ok rfl
  | false=>exact .ok rfl
def jn:List (List UInt8)→List UInt8
 | []=>[]
 | x::l=>x++(l.map (32::·)).flatten
theorem jn_cons(x y:List UInt8)(l:List (List UInt8)):jn (x::y::l)=x++32::jn (y::l):=by simp[jn]
theorem join_jn:∀l:List (List UInt8),Lib.join l [32]=jn l
 | []=>rfl
 | [x]=>by simp[Lib.join,jn,List.intercalate]
 | x::y::l=>by
  have ih:=join_jn (y::l)
  rw[jn_cons,←ih]
  simp[Lib.join,List.intercalate]
theorem jn_len(M:Nat):∀l:List (List UInt8),(∀x∈l,x.length≤M)→(jn l).length≤l.length*(M+1)
 | [],_=>by simp[jn]
 | [x],h=>by
  have:=h x (by simp)
  simp[jn];omega
 | x::y::l,h=>by
  have ih:=jn_len M (y::l) (λz hz=>h z (by simp[hz]))
  have:=h x (by simp)
  rw[jn_cons,zB,zD,zD (a:=x),Nat.add_mul]
  omega
def wt(w:ap):List UInt8:=UInt8.ofNat w.Letter.toNat::txtV w.Value
def cmT(c:List UInt8):List (List UInt8):=if c=[]then []else [40::(c++[41])]
def fmtV(b:aa):List UInt8:=(if b.Skip=true then [47]else [])++jn (b.Words.map wt++cmT b.Comment)
theorem rune_letter(n:Int)(h1:65≤n)(h2:n≤90):runeS (IntKind.i32.wrap n)=[UInt8.ofNat n.toNat]:=by
 have:∀k,k<128→runeS (IntKind.i32.wrap ((k:Nat):Int))=[UInt8.ofNat k]:=of_decide_eq_true (by kernel_rfl)
 have h:=this n.toNat (by omega)
 rwa [show ((n.toNat:Nat):Int)=n by omega]at h
theorem txt_len100(n:Int)(h1:-9223372036854775808≤n)(h2:n≤9223372036854775807):(txtV n).length≤100:=by
 unfold txtV txtU
 have hl:=dd_len (n.natAbs / 1000) (by omega)
 have hf':(frac (n.natAbs % 1000)).length≤3:=fr3_len _ _ _
 rw[zB,zB]
 have e1:(if n<0 then ([45]:List UInt8)else []).length≤1:=by split<;>simp
 have e2:(if n.natAbs % 1000=0 then []else 46::frac (n.natAbs % 1000)).length≤4:=by split<;>simp;omega
 omega
theorem bk_Valid_totB(b:aa)(h1:b.Words.length≤1000)(h2:b.Comment.length≤1000):Tot (fI b) (λe=>(e=0∧bL b)∨(e=1∧¬bL b)):=by
 unfold fI
 have hsz:(decide ((b.Words.length:Int)>16)||decide ((b.Comment.length:Int)>100))=decide (¬(b.Words.length≤16∧b.Comment.length≤100)):=by
  rw[zG];simp only[Bool.or_eq_true,decide_eq_true_eq];omega
 rw[hsz]
 refine Tot.ite (λh=>.ok (.inr ⟨rfl,λq=>of_decide_eq_true h ⟨q.1,q.2.1⟩⟩)) (λh=>?_)
 have hle:b.Words.length≤16∧b.Comment.length≤100:=by simpa using h
 refine Tot.bindX (E:=λ_=>∀w∈b.Words,okW w) (TotX.of (Tot.mono (E:=λx=>(x=.ret 1∧¬bL b)∨(x=.go ()∧∀w∈b.Words,okW w)) ?_ ?_)) (λx hx=>?_)
 ·refine Tot.guard (aR (by omega)) (Tot.range (λi _=>∀(k:Nat) w,k<i→b.Words[k]? = some w→okW w) _ (λk w q=>by omega) (λi x v hx hr=>?_) (λv hr=>.ok (.inr ⟨rfl,λw hw=>?_⟩)))
  ·have hc:(decide (x.Letter<65)||(decide (x.Letter>90)||(decide (x.Value>1000000000000)||decide (x.Value < -1000000000000))))=decide (¬(65≤x.Letter∧x.Letter≤90∧-1000000000000≤x.Value∧x.Value≤1000000000000)):=by
    rw[zG];simp only[Bool.or_eq_true,decide_eq_true_eq];omega
   rw[hc]
   refine TotX.ite (λh2=>.ret (.inl ⟨rfl,λq=>of_decide_eq_true h2 (q.2.2.1 x (List.mem_of_getElem? hx))⟩)) (λh2=>.go (λk w hk hw=>?_))
   rcases zM k i with q | q
   ·exact hr k w q hw
   ·obtain rfl:k=i:=by omega
    rw[hx]at hw;injection hw with hw;subst hw
    have h3:65≤x.Letter∧x.Letter≤90∧-1000000000000≤x.Value∧x.Value≤1000000000000:=Decidable.not_not.1 (of_decide_eq_false h2)
    exact h3
  ·obtain⟨k,hk⟩:=List.mem_iff_getElem?.1 hw
   exact hr k w (aq hk) hk
 ·rintro x (⟨rfl,h3⟩|⟨rfl,h3⟩)
  ·exact .inr ⟨rfl,h3⟩
  ·exact h3
 ·refine Tot.bindX (E:=λ_=>bL b) (TotX.of (Tot.mono (E:=λx=>(x=.ret 1∧¬bL b)∨(x=.go ()∧bL b)) ?_ ?_)) (λ_ hv=>.ok (.inl ⟨rfl,hv⟩))
  ·refine Tot.guard (aR (by simp[iR];omega)) (Tot.range (λi _=>∀(k:Nat) c,k<i→b.Comment[k]? = some c→prn c=true) _ (λk w q=>by omega) (λi y v hy hr=>?_) (λv hr=>.ok (.inr ⟨rfl,hle.1,hle.2,hx,λc hc=>?_⟩)))
   ·unfold iR at hy
    rw[List.getElem?_map]at hy
    cases hq:b.Comment[i]? with
    | none=>rw[hq]at hy;cases hy
    | some c =>
     rw[hq]at hy;injection hy with hy;subst hy
     have hp:cZ (c.toNat:Int)=some (prn c):=rfl
     rw[hp,ah]
     refine TotX.ite (λh2=>.ret (.inl ⟨rfl,λq=>?_⟩)) (λh2=>.go (λk w hk hw=>?_))
     ·have:=q.2.2.2 c (List.mem_of_getElem? hq)
      rw[this]at h2;cases h2
     ·rcases zM k i with q | q
      ·exact hr k w q hw
      ·obtain rfl:k=i:=by omega
       rw[hq]at hw;injection hw with hw;subst hw
       simpa using h2
   ·obtain⟨k,hk⟩:=List.mem_iff_getElem?.1 hc
    exact hr k c (by have:=aq hk;simpa [iR] using this) hk
  ·rintro x (⟨rfl,h3⟩|⟨rfl,h3⟩)
   ·exact .inr ⟨rfl,h3⟩
   ·exact h3
theorem fold_map{α β:Type}(g:α→β):∀(l:List α) (o:List β),l.foldl (λo x=>o++[g x]) o=o++l.map g
 | [],o=>by simp
 | x::l,o=>by rw[kT,fold_map g l];simp
theorem wt_len(w:ap)(h:okW w):(wt w).length≤101:=by
 have:=txt_len100 w.Value (by have:=h.2.2.1;omega) (by have:=h.2.2.2;omega)
 unfold wt;simp;omega
theorem parts_len{b:aa}(h:bL b):∀x∈b.Words.map wt++cmT b.Comment,x.length≤102:=by
 intro x hx
 rcases List.mem_append.1 hx with hx | hx
 ·obtain⟨w,hw,rfl⟩:=List.mem_map.1 hx
  have:=wt_len w (h.2.2.1 w hw);omega
 ·unfold cmT at hx
  split at hx
  ·cases hx
  ·simp at hx
   subst hx
   have:=h.2.1
   simp;omega
theorem bk_Format_ok(b:aa)(h:bL b):jB b=some (fmtV b,0):=by
  unfold jB
  obtain⟨e,he,hv⟩:=bk_Valid_totB b (by have:=h.1;omega) (by have:=h.2.1;omega)
  have he0:e=0:=by rcases hv with hv | hv;exact hv.1;exact absurd h hv.2
  subst he0
  have hwl:=h.1
  have hcl:=h.2.1
  rw[he,ah,if_neg (by simp),aR (by omega),aD,fM (g:=λ(v:List (List UInt8)) w=>v++[wt w]) (R:=λi v=>v.length=i) (L:=b.Words) ?_ b.Words 0 [] rfl (by simp),fold_map,ah]
  · have hpl:=parts_len h
    have hjl:=jn_len 102 _ hpl
    have hpn:(b.Words.map wt++cmT b.Comment).length≤17:=by
      unfold cmT;rw[zB,List.length_map];split<;>simp<;>omega
    have hcm : (if (!(b.Comment == [])) = true then
          az (okStr [40] b.Comment) (
          az (okStr ([40]++b.Comment) [41]) (
          az (okLen (([]++b.Words.map wt).length+1)) (
          some (([]++b.Words.map wt)++[([40]++b.Comment)++[41]]))))
        else
          some ([]++b.Words.map wt))=some (b.Words.map wt++cmT b.Comment):=by
      unfold cmT
      by_cases hc:b.Comment=[]
      · rw[hc];simp
      · rw[if_neg hc,show (b.Comment==[])=false by simpa using hc,zX,if_pos rfl,fD (by simp;omega),aD,fD (by simp;omega),aD,aZ (by simp;omega),aD]
        simp
    rw[hcm,ah]
    have hj:strings_Join (b.Words.map wt++cmT b.Comment) [32]=some (jn (b.Words.map wt++cmT b.Comment)):=by
      unfold strings_Join
      rw[join_jn,decide_eq_true (by have:=kN (102+1) hpn;omega),decide_eq_true (by omega)]
      rfl
    rw[hj,ah]
    unfold fmtV
    have hjl2:=kN (102+1) hpn
    cases b.Skip with
    | true=>rw[if_pos rfl,fD (by simp;omega),aD,ah];rfl
    | false=>rw[if_neg (by simp),ah];rfl
  · intro i x v hx hr
    have hlt:=aq hx
    obtain⟨h1,h2,h3,h4⟩:=h.2.2.1 x (List.mem_of_getElem? hx)
    have hl:=txt_len100 x.Value (by omega) (by omega)
    rw[bk_Text_eq _ (by omega) (by omega),ah,rune_letter _ h1 h2,fD (by simp;omega),aD,aZ (by omega),aD]
    exact⟨rfl,by simp[hr]⟩
theorem tw_gen{p:UInt8→Bool}:∀(w r:List UInt8),w.all p=true→(r=[]∨∃d q,r=d::q∧p d=false)→(w++r).takeWhile p=w∧(w++r).dropWhile p=r
 | [],r,_,hr=>by rcases hr with rfl | ⟨d,q,rfl,hd⟩<;>simp_all
 | c::w,r,h,hr=>by
  simp only[zK,zH]at h
  obtain⟨h1,h2⟩:=tw_gen w r h.2 hr
  simp only[zL,kL,kM,h.1,if_true,h1,h2,and_self]
theorem nch_dig{l:List UInt8}(h:l.all isD=true):l.all nch=true:=by
 rw[zZ]at h ⊢
 intro x hx
 unfold nch
 rw[h x hx];rfl
theorem nch_txt(n:Int):(txtV n).all nch=true:=by
 unfold txtV txtU
 rw[zY,zY,nch_dig (dd_dig _)]
 have h1:(if n<0 then ([45]:List UInt8)else []).all nch=true:=by split<;>rfl
 have h2:(if n.natAbs % 1000=0 then []else 46::frac (n.natAbs % 1000)).all nch=true:=by
  split
  ·rfl
  ·obtain⟨q1,q2,q3⟩:=d3_dig (r:=n.natAbs % 1000) (Nat.mod_lt _ (by omega))
   rw[zK,nch_dig (show (frac (n.natAbs % 1000)).all isD=true from fr3_dig _ _ _ q1 q2 q3)]
   rfl
 rw[h1,h2];rfl
theorem jr{n:Int}(h1:65≤n)(h2:n≤90):(UInt8.ofNat n.toNat).toNat=n.toNat:=by
 rw[UInt8.toNat_ofNat'];omega
theorem val_ok{v:Int}(h1:-1000000000000≤v)(h2:v≤1000000000000):valV (txtV v)=(v,0):=by
 rw[val_txt,if_neg (by omega)]
theorem prC_ok(sk:Bool)(ws:List ap)(a:Nat)(c:List UInt8)(hc:c.all prn=true)(hl:c.length≤100)(hne:c≠[]):prC sk ws a (c++[41])=(aa.mk sk ws c,0,0):=by
 obtain⟨h1,h2⟩:=tw_gen (p:=prn) c [41] hc (.inr ⟨41,[],rfl,rfl⟩)
 unfold prC
 rw[h1,h2,if_neg (by omega),if_neg (by simpa using hne),if_neg (by simp)]
theorem prW_cons(sk:Bool)(n:Nat)(sp:Bool)(a:Nat)(ws:List ap)(c:UInt8)(r:List UInt8):prW sk (n+1) sp a ws (c::r) =
  if c=40 then prC sk ws a r
  else if c.toNat<65∨c.toNat>90 then badR a 2
  else if ws.length=16 then badR a 3
  else if (valV (r.takeWhile nch)).2≠0 then badR a (valV (r.takeWhile nch)).2
  else prN sk (a+1+(r.takeWhile nch).length) (ws++[wordV c (r.takeWhile nch)]) (λb q=>prW sk n true b (ws++[wordV c (r.takeWhile nch)]) q) (r.dropWhile nch):=rfl
theorem cons_ne{α:Type}{l:List α}(h:l≠[]):∃x r,l=x::r:=by
 cases l with
 | nil=>exact absurd rfl h
 | cons x r=>exact⟨x,r,rfl⟩
theorem jn_ne(x:List UInt8){l:List (List UInt8)}(h:l≠[]):jn (x::l)=x++32::jn l:=by
 obtain⟨y,r,rfl⟩:=cons_ne h
 exact jn_cons x y r
theorem prW_fmt(sk:Bool)(c:List UInt8)(hc:c.all prn=true)(hcl:c.length≤100):∀(W:List ap) (n:Nat) (sp:Bool) (a:Nat) (ws:List ap),(∀w∈W,okW w)→ws.length+W.length≤16→W.length<n→(sp=true→W≠[]∨c≠[])→prW sk n sp a ws (jn (W.map wt++cmT c))=(aa.mk sk (ws++W) c,0,0)
 | [],n,sp,a,ws,_,_,hn,hsp=>by
  obtain⟨n,rfl⟩:∃q,n=q+1:=⟨n-1,by simp at hn;omega⟩
  by_cases h0:c=[]
  ·subst h0
   have:sp=false:=by
    cases sp with
    | false=>rfl
    | true=>rcases hsp rfl with h | h<;>exact absurd rfl h
   subst this
   rw[zF];rfl
  ·have hj:jn (List.map wt []++cmT c)=40::(c++[41]):=by
    unfold cmT
    rw[if_neg h0]
    simp[jn]
   rw[hj,zF]
   show (if (40:UInt8)=40 then prC sk ws a (c++[41])else _)=_
   rw[if_pos rfl,prC_ok sk ws a c hc hcl h0]
 | w::W,n,sp,a,ws,hW,hlen,hn,hsp=>by
  obtain⟨n,rfl⟩:∃q,n=q+1:=⟨n-1,by simp at hn;omega⟩
  simp only[zD]at hlen hn
  obtain⟨o1,o2,o3,o4⟩:=hW w (by simp)
  have hL:=jr o1 o2
  have h40:¬(UInt8.ofNat w.Letter.toNat=40):=by
   intro e
   rw[e]at hL
   have:(40:UInt8).toNat=40:=rfl
   omega
  have hw:wordV (UInt8.ofNat w.Letter.toNat) (txtV w.Value)=w:=by
   unfold wordV
   rw[val_ok o3 o4,hL]
   obtain⟨l,v⟩:=w
   simp only at o1 ⊢
   congr 1
   omega
  have step:∀q,(q=[]∨∃d r,q=d::r∧nch d=false)→prW sk (n+1) sp a ws (wt w++q)=prN sk (a+1+(txtV w.Value).length) (ws++[w]) (λb r=>prW sk n true b (ws++[w]) r) q:=by
   intro q hq
   obtain⟨t1,t2⟩:=tw_gen (p:=nch) (txtV w.Value) q (nch_txt _) hq
   rw[show wt w++q=UInt8.ofNat w.Letter.toNat::(txtV w.Value++q) from rfl,prW_cons,if_neg h40,if_neg (by omega),if_neg (by omega),t1,t2,val_ok o3 o4,if_neg (by simp),hw]
  have ha:ws++w::W=(ws++[w])++W:=by simp
  rw[ha,List.map_cons,zL]
  by_cases hrest:W.map wt++cmT c=[]
  ·have hW0:W=[]:=by
    have:=(List.append_eq_nil_iff.1 hrest).1
    simpa using this
   have hc0:c=[]:=by
    have:=(List.append_eq_nil_iff.1 hrest).2
    unfold cmT at this
    by_cases q:c=[]
    ·exact q
    ·rw[if_neg q]at this;cases this
   rw[hrest]
   have:=step [] (.inl rfl)
   rw[zF]at this
   rw[show jn [wt w]=wt w by simp[jn],this,hW0,hc0,zF]
   rfl
  ·rw[jn_ne _ hrest,step _ (.inr ⟨32,_,rfl,rfl⟩),prN_eq]
   refine prW_fmt sk c hc hcl W n true _ (ws++[w]) (λx hx=>hW x (by simp[hx])) (by simp;omega) (by omega) (λ_=>?_)
   by_cases q:W=[]
   ·right
    intro e
    apply hrest
    rw[q,e];rfl
   ·exact .inl q
theorem flat_len:∀l:List (List UInt8),l.length≤((l.map (32::·)).flatten).length
 | []=>by simp
 | x::l=>by
  have:=flat_len l
  simp only[List.map_cons,List.flatten_cons,zB,zD]
  omega
theorem jn_ge(W:List ap)(l:List (List UInt8)):W.length≤(jn (W.map wt++l)).length:=by
 cases W with
 | nil=>simp
 | cons w W =>
  have:=flat_len (W.map wt++l)
  rw[List.map_cons,zL]
  show _≤(wt w++((W.map wt++l).map (32::·)).flatten).length
  rw[zB]at this ⊢
  rw[List.length_map]at this
  simp only[zD,wt]
  omega
theorem jn_head{W:List ap}{c:List UInt8}(hW:∀w∈W,okW w):(jn (W.map wt++cmT c)).head?≠some 47:=by
 cases W with
 | nil =>
  unfold cmT
  split
  ·simp[jn]
  ·simp[jn]
 | cons w W =>
  obtain⟨o1,o2,_⟩:=hW w (by simp)
  have hL:=jr o1 o2
  rw[List.map_cons,zL]
  show (UInt8.ofNat w.Letter.toNat::(txtV w.Value++_)).head?≠some 47
  rw[List.head?_cons]
  intro e
  injection e with e
  rw[e]at hL
  have:(47:UInt8).toNat=47:=rfl
  omega
theorem parse_fmt(b:aa)(h:bL b):prsV (fmtV b)=(b,0,0):=by
 obtain⟨h1,h2,h3,h4⟩:=h
 obtain⟨sk,W,c⟩:=b
 simp only at h1 h2 h3 h4
 have hc:c.all prn=true:=List.all_eq_true.2 h4
 have hge:=jn_ge W (cmT c)
 unfold prsV fmtV
 simp only
 cases sk with
 | true =>
  rw[if_pos rfl,show (([47]:List UInt8)++jn (W.map wt++cmT c)).head? = some 47 from rfl,if_pos rfl,show (([47]:List UInt8)++jn (W.map wt++cmT c)).drop 1=jn (W.map wt++cmT c) from rfl]
  exact prW_fmt true c hc h2 W _ false 1 [] h3 (by simpa using h1) (by simp;omega) (λq=>by cases q)
 | false =>
  rw[show ((if false=true then ([47]:List UInt8)else [])++jn (W.map wt++cmT c))=jn (W.map wt++cmT c) from rfl,if_neg (jn_head h3)]
  exact prW_fmt false c hc h2 W _ false 0 [] h3 (by simpa using h1) (by omega) (λq=>by cases q)
theorem idxd_facts(d:UInt8):∀l:List UInt8,(Lib.indexByte l d=-1∧l.takeWhile (· != d)=l∧l.dropWhile (· != d)=[]∧l.contains d=false)∨(∃o:Nat,Lib.indexByte l d=(o:Int)∧o<l.length∧l.take o=l.takeWhile (· != d)∧l.drop o=l.dropWhile (· != d)∧l.contains d=true)
 | []=>.inl ⟨rfl,rfl,rfl,rfl⟩
 | b::l=>by
  unfold Lib.indexByte
  by_cases hb:b=d
  ·subst hb
   refine .inr ⟨0,?_,by simp,by simp,by simp,by simp⟩
   rw[if_pos (by simp)];rfl
  ·have hb1:(b==d)=false:=by simpa using hb
   have hb2:(b != d)=true:=by simp[hb]
   have hb3:(d==b)=false:=by simpa using fun e=>hb e.symm
   rw[hb1]
   simp only[zA,if_false,kL,kM,hb2,if_true,List.contains_cons,hb3,Bool.false_or]
   rcases idxd_facts d l with⟨h1,h2,h3,h4⟩|⟨o,h1,h2,h3,h4,h5⟩
   ·left
    rw[h1,h2]
    exact⟨rfl,rfl,h3,h4⟩
   ·right
    have hne:((o:Int)==-1)=false:=by simp
    rw[h1,hne]
    refine⟨o+1,by simp,by simpa using h2,?_,by simpa using h4,h5⟩
    rw[List.take_succ_cons,h3]
theorem cutd(d:UInt8)(s:List UInt8)(hs:s.length≤1000000):cU s [d]=some (s.takeWhile (· != d),(s.dropWhile (· != d)).drop 1,s.contains d):=by
 have hi:bI s [d]=some (Lib.indexByte s d):=by
  unfold bI
  by_cases he:s=[d]
  ·subst he
   rw[show (((([d]:List UInt8).length:Int)==0)||(([d]:List UInt8)==[d]))=true by simp,if_pos rfl]
   unfold Lib.indexByte
   rw[if_pos (by simp)]
  ·have:(((([d]:List UInt8).length:Int)==0)||(([d]:List UInt8)==s))=false:=by
    simp
    exact λe=>he e.symm
   rw[this]
   show bindO (stringslite_IndexByte s (d.toNat:Int)) _=_
   unfold stringslite_IndexByte
   have hd:((d.toNat:Int)).toNat.toUInt8=d:=by
    rw[zJ]
    exact UInt8.ofNat_toNat
   rw[hd];rfl
 unfold cU cT
 rw[hi,ah]
 rcases idxd_facts d s with⟨h1,h2,h3,h4⟩|⟨o,h1,h2,h3,h4,h5⟩
 ·rw[h1,h2,h3,h4];rfl
 ·rw[h1,h5,←h3,←h4]
  have hw:IntKind.i64.wrap ((o:Int)+(([d]:List UInt8).length:Int))=((o+1:Nat):Int):=by
   simp only[zD,kU]
   rw[wrap_i64 (by omega) (by omega)];omega
  have hc1:cutT s (o:Int)=some (s.take o):=by unfold cutT;rw[if_neg (by omega),zJ]
  have hc2:cutF s ((o+1:Nat):Int)=some (s.drop (o+1)):=by unfold cutF;rw[if_neg (by omega),zJ]
  rw[decide_eq_true (show (o:Int)≥0 by omega),if_pos rfl,hc1,ah,hw,hc2,ah,ah,kY]
theorem cont_drop(d:UInt8)(s:List UInt8):(s.contains d=false∧s.dropWhile (· != d)=[]∧s.takeWhile (· != d)=s)∨(s.contains d=true∧∃q,s.dropWhile (· != d)=d::q):=by
 rcases idxd_facts d s with⟨_,h2,h3,h4⟩|⟨o,_,h2,h3,h4,h5⟩
 ·exact .inl ⟨h4,h3,h2⟩
 ·right
  refine⟨h5,?_⟩
  cases hd:s.dropWhile (· != d)with
  | nil =>
   rw[hd]at h4
   have:=congrArg List.length h4
   simp at this;omega
  | cons c r =>
   have hc:=List.head?_dropWhile_not (· != d) s
   rw[hd]at hc
   simp at hc
   rw[hc]
   exact⟨r,rfl⟩
abbrev GR:=List aa×Int×Int
def pgN(out:List aa)(line:List UInt8)(K:List UInt8→GR):List UInt8→GR
 | []=>([],(out.length:Int)+1,2)
 | _::q=>if (prsV line).2.2≠0 then ([],(out.length:Int)+1,(prsV line).2.2)else K q
theorem pgN_cons(out:List aa)(line:List UInt8)(K:List UInt8→GR)(c:UInt8)(q:List UInt8):pgN out line K (c::q)=if (prsV line).2.2≠0 then ([],(out.length:Int)+1,(prsV line).2.2)else K q:=rfl
def pgV:Nat→List UInt8→List aa→GR
 | 0,_,out=>(out,0,0)
 | n+1,s,out=>if s=[]then (out,0,0)else pgN out (s.takeWhile (· != 10)) (λq=>pgV n q (out++[(prsV (s.takeWhile (· != 10))).1])) (s.dropWhile (· != 10))
theorem bk_Program_tot(s:List UInt8)(hs:s.length≤65536)(hc:(Lib.countByte s 10:Int)<20000):Tot (fO s) (λr=>r=pgV (s.length+1) s []):=by
  unfold fO
  have h1 : (if (decide ((s.length : Int) > 65536)) = true then
        some true
      else
        bindO (cn s [10]) λ(y101:Int) =>
        if (decide (y101>20000))=true then
          some true
        else
          bindO (cn s [10]) λ(y102:Int) =>
          if (y102==20000)=true then
            bindO (de s [10]) λ(y103:Bool) =>
            some (!y103)
          else
            some false)=some false:=by
    have hcnt:cn s [10]=some (Lib.countByte s 10:Int):=rfl
    rw[decide_eq_false (by omega),if_neg (by simp),hcnt,ah,decide_eq_false (by omega),if_neg (by simp),ah,show ((Lib.countByte s 10:Int)==20000)=false by simp;omega,if_neg (by simp)]
  rw[h1,ah,if_neg (by simp)]
  generalize hT:pgV (s.length+1) s []=T
  refine Tot.bindX (E:=λout:List aa=>((out,0,0):GR)=T) (TotX.of (Tot.mono (E:=λx=>match x with | .ret e=>e=T | .go out=>((out,0,0):GR)=T) ?_ (λx h=>by cases x<;>exact h))) (λout h=>.ok h)
  refine Tot.loop (λm v=>∃(r:List UInt8) (out:List aa),v=(r,out,(out.length:Int)+1)∧pgV m r out=T∧r.length<m∧out.length+r.length≤s.length) _ (s.length+1) (iB (by omega)) ⟨s,[],by simp,hT,by omega,by simp⟩ (λm v hr=>?_)
  obtain⟨r,out,rfl,ht,hm,hlen⟩:=hr
  obtain⟨n,rfl⟩:∃n,m=n+1:=⟨m-1,by omega⟩
  unfold pgV at ht
  dsimp only
  by_cases hnil:r=[]
  · rw[if_pos hnil]at ht
    rw[show (!(r==([]:List UInt8)))=false by rw[hnil];rfl,if_neg (by simp)]
    exact .ret ht
  · rw[if_neg hnil]at ht
    have hb:(r==([]:List UInt8))=false:=by simpa using hnil
    rw[hb,zX,if_pos rfl,cutd 10 r (by omega),ah]
    have htw:=(tw_len (· != 10) r).1
    obtain⟨y,hy,rfl⟩:=bk_Parse_tot (r.takeWhile (· != 10)) (by omega)
    rw[hy,ah]
    rcases cont_drop 10 r with⟨c1,c2,_⟩|⟨c1,q,c2⟩
    · rw[c2]at ht
      rw[c1]
      exact .ret (by rw[←ht];rfl)
    · rw[c2]at ht
      rw[c1,c2]
      dsimp only
      rw[pgN_cons]at ht
      rw[if_neg (by simp),ah]
      have hql:q.length<r.length:=by
        have:=congrArg List.length (zT (p:=(· != 10)) (l:=r))
        rw[zB,c2,zD]at this
        omega
      by_cases he:(prsV (r.takeWhile (· != 10))).2.2=0
      · rw[if_neg (by simpa using he)]at ht
        rw[he,if_neg (by simp),aZ (by omega),aD]
        refine .go ⟨n,by omega,q,_,?_,ht,by omega,by simp;omega⟩
        rw[wrap_i64 (by omega) (by omega)]
        simp
      · rw[if_pos he]at ht
        rw[show ((prsV (r.takeWhile (· != 10))).2.2 != 0)=true by simpa using he,if_pos rfl]
        exact .ret ht
def prt(l:List aa):List UInt8:=(l.map λb=>fmtV b++[10]).flatten
theorem no10{b:aa}(h:bL b):(fmtV b).all (· != 10)=true:=by
 have hn:∀l:List UInt8,l.all nch=true→l.all (· != 10)=true:=by
  intro l hl
  rw[zZ]at hl ⊢
  intro x hx
  have:=hl x hx
  by_cases e:x=10
  ·subst e;cases this
  ·simpa using e
 have hw:∀w∈b.Words,(wt w).all (· != 10)=true:=by
  intro w hw
  obtain⟨o1,o2,_⟩:=h.2.2.1 w hw
  have hL:=jr o1 o2
  unfold wt
  rw[zK,hn _ (nch_txt _)]
  have:(UInt8.ofNat w.Letter.toNat != 10)=true:=by
   rw[bne_iff_ne]
   intro e
   rw[e]at hL
   have:(10:UInt8).toNat=10:=rfl
   omega
  rw[this];rfl
 have hc:∀x∈b.Words.map wt++cmT b.Comment,x.all (· != 10)=true:=by
  intro x hx
  rcases List.mem_append.1 hx with hx | hx
  ·obtain⟨w,hw',rfl⟩:=List.mem_map.1 hx
   exact hw w hw'
  ·unfold cmT at hx
   split at hx
   ·cases hx
   ·simp at hx
    subst hx
    rw[zK,zY]
    have:b.Comment.all (· != 10)=true:=by
     rw[zZ]
     intro c hc
     have:=h.2.2.2 c hc
     by_cases e:c=10
     ·subst e;cases this
     ·simpa using e
    rw[this];rfl
 have hj:∀l:List (List UInt8),(∀x∈l,x.all (· != 10)=true)→(jn l).all (· != 10)=true:=by
  intro l hl
  cases l with
  | nil=>rfl
  | cons x l =>
   show (x++(l.map (32::·)).flatten).all (· != 10)=true
   rw[zY,hl x (by simp),Bool.true_and,zZ]
   intro c hc
   obtain⟨y,hy,hcy⟩:=List.mem_flatten.1 hc
   obtain⟨z,hz,rfl⟩:=List.mem_map.1 hy
   rcases List.mem_cons.1 hcy with rfl | hcz
   ·rfl
   ·exact List.all_eq_true.1 (hl z (by simp[hz])) c hcz
 unfold fmtV
 rw[zY,hj _ hc]
 cases b.Skip<;>rfl
theorem tw10{b:aa}(h:bL b)(q:List UInt8):((fmtV b++[10])++q).takeWhile (· != 10)=fmtV b∧((fmtV b++[10])++q).dropWhile (· != 10)=10::q:=by
 have:=tw_gen (p:=(· != 10)) (fmtV b) (10::q) (no10 h) (.inr ⟨10,q,rfl,by simp⟩)
 rw[zN]
 exact this
theorem pgV_prt:∀(l:List aa) (n:Nat) (out:List aa),(∀b∈l,bL b)→l.length<n→pgV n (prt l) out=(out++l,0,0)
 | [],n,out,_,hn=>by
  obtain⟨n,rfl⟩:∃q,n=q+1:=⟨n-1,by simp at hn;omega⟩
  rw[zF];rfl
 | b::l,n,out,h,hn=>by
  obtain⟨n,rfl⟩:∃q,n=q+1:=⟨n-1,by simp at hn;omega⟩
  obtain⟨t1,t2⟩:=tw10 (h b (by simp)) (prt l)
  have hp:prt (b::l)=(fmtV b++[10])++prt l:=by simp[prt]
  unfold pgV
  rw[if_neg (by rw[hp];simp),hp,t1,t2]
  rw[pgN_cons,parse_fmt b (h b (by simp)),if_neg (by simp),pgV_prt l n _ (λx hx=>h x (by simp[hx])) (by simpa using hn)]
  simp
theorem count_prt:∀l:List aa,(∀b∈l,bL b)→Lib.countByte (prt l) 10=l.length
 | [],_=>rfl
 | b::l,h=>by
  have hp:prt (b::l)=(fmtV b++[10])++prt l:=by simp[prt]
  have ih:=count_prt l (λx hx=>h x (by simp[hx]))
  unfold Lib.countByte at ih ⊢
  rw[hp,List.count_append,List.count_append,ih]
  have h0:List.count 10 (fmtV b)=0:=by
   rw[List.count_eq_zero]
   intro hm
   have:=List.all_eq_true.1 (no10 (h b (by simp))) 10 hm
   cases this
  rw[h0]
  simp
  omega
def optV(w n f:Int):Int:=if grp w≠3∨n<0∨n>1000∨(f≠0∧(f<2∨f>100))then 1 else 0
theorem po_Valid_eq(o:bo):po_Valid o=some (optV o.Work o.Numbers o.Fold):=by
 unfold po_Valid optV
 simp only[fZ,ah]
 by_cases h1:grp o.Work=3<;>by_cases h2:o.Numbers<0<;>by_cases h3:o.Numbers>1000<;>by_cases h4:o.Fold=0<;>by_cases h5:o.Fold<2<;>by_cases h6:o.Fold>100<;>simp[h1,h2,h3,h4,h5,h6]
def movW(p:ae)(m:ay):List ap :=
 [⟨71,1000*(m.Kind-1)⟩,⟨88,m.To.X⟩,⟨89,m.To.Y⟩,⟨90,m.To.Z⟩]++(if m.Kind=3∨m.Kind=4 then [⟨73,IntKind.i64.wrap (m.Center.X-p.X)⟩,⟨74,IntKind.i64.wrap (m.Center.Y-p.Y)⟩]else [])++(if m.Kind=1 then []else [⟨70,m.Rate⟩])
def movB(p:ae)(m:ay):aa×Int :=
 if movV p m≠0 then (⟨false,[],[]⟩,movV p m)else if m.Rate>1000000000000 then (⟨false,[],[]⟩,11)else (⟨false,movW p m,[]⟩,0)
theorem cr{c n:Int}(h:-9000000≤n)(h2:n≤9000000):bn c n=some ⟨c,1000*n⟩:=by
 unfold bn bG
 rw[wrap_i64 (by omega) (by omega)];rfl
theorem po_Move_eq{p:ae}{m:ay}(hp:okPos p)(hm:eH m):po_Move p m=some (movB p m):=by
 unfold po_Move movB
 rw[show eU (ae.mk p.X p.Y p.Z) (ay.mk m.Kind m.To m.Center m.Rate)=eU p m from rfl,kw hp hm,ah]
 by_cases h:movV p m=0
 ·rw[if_neg (show ¬(movV p m != 0)=true by simp[h]),if_neg (show ¬movV p m≠0 by simpa using h)]
  by_cases hr:m.Rate>1000000000000
  ·rw[if_pos (show decide (m.Rate>1000000000000)=true by simpa using hr),if_pos hr]
  ·rw[if_neg (show ¬decide (m.Rate>1000000000000)=true by simpa using hr),if_neg hr]
   have w0:bn 71 0=some ⟨71,0⟩:=cr (by omega) (by omega)
   have w1:bn 71 1=some ⟨71,1000⟩:=cr (by omega) (by omega)
   have w2:bn 71 2=some ⟨71,2000⟩:=cr (by omega) (by omega)
   have w3:bn 71 3=some ⟨71,3000⟩:=cr (by omega) (by omega)
   rcases movV_kind h with k | k | k | k<;>simp[movW,k,w0,w1,w2,w3,bG,cq,aZ]
 ·rw[if_pos (show (movV p m != 0)=true by simpa using h),if_pos h]
def chgB(n:Int):List aa:=[⟨false,[⟨84,1000*n⟩,⟨77,6000⟩],[]⟩,⟨false,[⟨71,43000⟩,⟨72,1000*n⟩],[]⟩]
def chgV(n:Int):List aa×Int:=if n<1∨n>999 then ([],1)else (chgB n,0)
theorem po_Change_eq(n:Int):jk n=some (chgV n):=by
 unfold jk chgV
 by_cases h:n<1∨n>999
 ·rw[if_pos (by simpa using h),if_pos h]
 ·rw[if_neg (by simpa using h),if_neg h]
  simp only[bn,bG,cq,ah]
  rw[wrap_i64 (n:=1000*n) (by omega) (by omega)]
  rfl
def ce:ae→List ay→Ex Int (List aa×ae)
 | p,[]=>.go ([],p)
 | p,m::r=>if (movB p m).2=0 then (match ce m.To r with | .ret e=>.ret e | .go v=>.go ((movB p m).1::v.1,v.2))else .ret (movB p m).2
theorem movesV_go:∀(l:List ay) (p:ae) (v:List aa×ae),ce p l=.go v→okPos p→(∀m∈l,eH m)→v.1.length=l.length∧okPos v.2∧∀b∈v.1,∃q m,m∈l∧(movB q m).2=0∧b=(movB q m).1
 | [],p,v,h,hp,_=>by
  injection h with h;subst h
  exact⟨rfl,hp,λb hb=>by simp at hb⟩
 | m::r,p,v,h,hp,hm=>by
  rw[ce]at h
  by_cases h0:(movB p m).2=0
  ·rw[if_pos h0]at h
   cases hr:ce m.To r with
   | ret e=>rw[hr]at h;cases h
   | go u =>
    rw[hr]at h
    injection h with h;subst h
    obtain⟨h1,h2,h3⟩:=movesV_go r m.To u hr (hm m (by simp)).2.1 (λx hx=>hm x (by simp[hx]))
    refine⟨by simp[h1],h2,λb hb=>?_⟩
    rcases List.mem_cons.1 hb with q | q
    ·exact⟨p,m,by simp,h0,q⟩
    ·obtain⟨q1,m1,a1,a2,a3⟩:=h3 b q
     exact⟨q1,m1,by simp[a1],a2,a3⟩
  ·rw[if_neg h0]at h;cases h
section
variable {ε : Type}
theorem po_moves(er:Int→ε)(gd:List aa×ae→ε){f:Nat→ay→List aa×ae→Option (Ex ε (List aa×ae))}
  (hf:∀i m acc p,acc.length≤1000000→okPos p→eH m→f i m (acc,p)=some (if (movB p m).2=0 then .go (acc++[(movB p m).1],m.To)else .ret (er (movB p m).2))) :
  ∀(l:List ay) (i:Nat) (acc:List aa) (p:ae),acc.length+l.length≤1000000→okPos p→(∀m∈l,eH m)→aI f (λv=>some (gd v)) l i (acc,p)=some (match ce p l with | .ret e=>er e | .go v=>gd (acc++v.1,v.2))
 | [],i,acc,p,_,_,_=>by simp[aI,ce]
 | m::r,i,acc,p,hl,hp,hm=>by
  simp only[zD]at hl
  simp only[aI,hf i m acc p (by omega) hp (hm m (by simp)),ce]
  by_cases h0:(movB p m).2=0
  ·simp only[if_pos h0]
   rw[po_moves er gd hf r (i+1) _ m.To (by simp;omega) (hm m (by simp)).2.1 (λx hx=>hm x (by simp[hx]))]
   cases ce m.To r with
   | ret e=>rfl
   | go v=>simp
  ·simp only[if_neg h0]
end
def okStage(s:aW):Prop:=s.Moves.length≤30∧∀m∈s.Moves,eH m
def bO:ae→List aW→Ex Int (List aa×ae)
  | p,[]=>.go ([],p)
  | p, s :: r => if (chgV s.Tool).2 = 0 then (match ce p s.Moves with
      | .ret e=>.ret e
      | .go v=>(match bO v.2 r with
        | .ret e=>.ret e
        | .go u=>.go ((chgV s.Tool).1++v.1++u.1,u.2)))else .ret (chgV s.Tool).2
theorem stages_loop{ε:Type}(er:Int→ε)(gd:List aa×ae→ε){f:Nat→aW→List aa×ae→Option (Ex ε (List aa×ae))}
  (hf:∀i s acc p,acc.length≤100000→okPos p→okStage s→f i s (acc,p)=some (if (chgV s.Tool).2=0 then (match ce p s.Moves with | .ret e=>.ret (er e) | .go v=>.go (acc++(chgV s.Tool).1++v.1,v.2))else .ret (er (chgV s.Tool).2))) :
  ∀(l:List aW) (i:Nat) (acc:List aa) (p:ae),acc.length+32*l.length≤100000→okPos p→(∀s∈l,okStage s)→aI f (λv=>some (gd v)) l i (acc,p)=some (match bO p l with | .ret e=>er e | .go v=>gd (acc++v.1,v.2))
 | [],i,acc,p,_,_,_=>by simp[aI,bO]
 | s::r,i,acc,p,hl,hp,hs=>by
  simp only[zD]at hl
  have hs0:=hs s (by simp)
  simp only[aI,hf i s acc p (by omega) hp hs0,bO]
  by_cases h0:(chgV s.Tool).2=0
  ·simp only[if_pos h0]
   cases hm:ce p s.Moves with
   | ret e=>rfl
   | go v =>
    obtain⟨h1,h2,_⟩:=movesV_go _ _ _ hm hp hs0.2
    have hc:(chgV s.Tool).1.length≤2:=by unfold chgV;split<;>simp[chgB]
    simp only
    rw[stages_loop er gd hf r (i+1) _ v.2 (by simp only[zB];have:=hs0.1;omega) h2 (λx hx=>hs x (by simp[hx]))]
    cases bO v.2 r with
    | ret e=>rfl
    | go u=>simp[zN]
  ·simp only[if_neg h0]
theorem jK:∀(l:List aW) (p:ae) (v:List aa×ae),bO p l=.go v→okPos p→(∀s∈l,okStage s)→v.1.length≤32*l.length∧∀b∈v.1,(∃q m,eH m∧(movB q m).2=0∧b=(movB q m).1)∨∃n,(chgV n).2=0∧b∈(chgV n).1
 | [],p,v,h,hp,_=>by
  injection h with h;subst h
  exact⟨by simp,λb hb=>by simp at hb⟩
 | s::r,p,v,h,hp,hs=>by
  have hs0:=hs s (by simp)
  rw[bO]at h
  by_cases h0:(chgV s.Tool).2=0
  ·rw[if_pos h0]at h
   cases hm:ce p s.Moves with
   | ret e=>rw[hm]at h;cases h
   | go u =>
    obtain⟨h1,h2,h3⟩:=movesV_go _ _ _ hm hp hs0.2
    rw[hm]at h
    simp only at h
    cases hr:bO u.2 r with
    | ret e=>rw[hr]at h;cases h
    | go t =>
     rw[hr]at h
     injection h with h;subst h
     obtain⟨g1,g2⟩:=jK r u.2 t hr h2 (λx hx=>hs x (by simp[hx]))
     have hc:(chgV s.Tool).1.length≤2:=by unfold chgV;split<;>simp[chgB]
     refine⟨by simp only[zB,zD];have:=hs0.1;omega,λb hb=>?_⟩
     simp only[zU]at hb
     rcases hb with (q | q) | q
     ·exact .inr ⟨_,h0,q⟩
     ·obtain⟨q1,m1,a1,a2,a3⟩:=h3 b q
      exact .inl ⟨q1,m1,hs0.2 m1 a1,a2,a3⟩
     ·exact g2 b q
  ·rw[if_neg h0]at h;cases h
def headB(w:Int):List aa:=[⟨false,[⟨71,0⟩,⟨71,90000⟩,⟨71,w⟩,⟨71,49000⟩,⟨71,98000⟩],[]⟩]
def tailB:List aa:=[⟨false,[⟨71,49000⟩],[]⟩,⟨false,[⟨77,30000⟩],[]⟩]
def bj(l:List aW)(p:ae)(w:Int):List aa×Int:=if (farP p.X||farP p.Y||farP p.Z)=true then ([],11)else match bO p l with | .ret e=>([],e) | .go v=>(headB w++v.1++tailB,0)
theorem far_or(n:Int):(decide (n>10000000)||decide (n<(-10000000)))=farP n:=by
 unfold farP
 by_cases h:n>10000000<;>by_cases h2:n < -10000000<;>simp[h,h2]
def di(l:List aW):Prop:=l.length≤4∧∀s∈l,okStage s
theorem po_plain_eq{l:List aW}{p:ae}{o:bo}(hl:di l)(hp:okPos p):po_plain l p o=some (bj l p o.Work):=by
 obtain⟨hl1,hl2⟩:=hl
 unfold po_plain bj
 simp only[far_or]
 have h3:(if farP p.X=true then some (Ex.ret ([],11))else if farP p.Y=true then some (.ret ([],11))else if farP p.Z=true then some (.ret ([],11))else some (.go ()))=(some (if (farP p.X||farP p.Y||farP p.Z)=true then .ret ([],11)else .go ()):Option (Ex (List aa×Int) Unit)):=by
  cases farP p.X<;>cases farP p.Y<;>cases farP p.Z<;>rfl
 rw[h3]
 cases (farP p.X||farP p.Y||farP p.Z)with
 | true=>rfl
 | false =>
  simp only[zA,if_false,kI]
  have w0:bn 71 0=some ⟨71,0⟩:=cr (by omega) (by omega)
  have w1:bn 71 90=some ⟨71,90000⟩:=cr (by omega) (by omega)
  have w2:bn 71 49=some ⟨71,49000⟩:=cr (by omega) (by omega)
  have w3:bn 71 98=some ⟨71,98000⟩:=cr (by omega) (by omega)
  have w4:bn 77 30=some ⟨77,30000⟩:=cr (by omega) (by omega)
  simp only[w0,w1,w2,w3,w4,bG,ah,cq]
  rw[aR (by omega),aD,stages_loop (λe=>Ex.ret (([]:List aa),e)) (λv=>Ex.go (v.1,v.2)) ?_ l 0 _ p (by simp;omega) hp hl2]
  ·cases hs:bO p l with
   | ret e=>rfl
   | go v =>
    have hv:=(jK l p v hs hp hl2).1
    simp only[kI,ah]
    rw[aZ (by simp;omega),aD]
    rfl
  ·intro i s acc q ha hq hs
   dsimp only
   rw[po_Change_eq,ah]
   by_cases h0:(chgV s.Tool).2=0
   ·have hc:(chgV s.Tool).1.length≤2:=by unfold chgV;split<;>simp[chgB]
    rw[h0,if_neg (by simp),if_pos rfl,aZ (by omega),aD,aR (by have:=hs.1;omega),aD]
    rw[po_moves (λe=>Ex.ret (Ex.ret (Ex.ret (([]:List aa),e)))) (λv=>Ex.go (v.1,v.2)) ?_ s.Moves 0 _ q (by simp only[zB];have:=hs.1;omega) hq hs.2]
    ·cases ce q s.Moves with
     | ret e=>rfl
     | go v=>rfl
    ·intro i m acc p ha hp hm
     dsimp only
     rw[po_Move_eq hp hm,ah]
     by_cases h1:(movB p m).2=0
     ·rw[h1,if_neg (by simp),if_pos rfl,aZ (by omega),aD]
     ·rw[if_pos (by simpa using h1),if_neg h1]
   ·rw[if_pos (by simpa using h0),if_neg h0]
    rfl
def goodB(b:aa):Prop:=goodW [] b.Words=true∧(∀w∈b.Words,u8W w)∧b.Words.length≤7
theorem good_chg{n:Int}{b:aa}(h0:(chgV n).2=0)(hb:b∈(chgV n).1):goodB b:=by
 unfold chgV at h0 hb
 split at h0
 ·omega
 ·rename_i hn
  rw[if_neg hn]at hb
  simp only[chgB,zI,zE,or_false]at hb
  have h1:Int.tmod (1000*n) 1000=0:=by simp
  have h2:(0:Int)≤1000*n:=by omega
  have h3:grp 43000=4:=by decide
  rcases hb with rfl | rfl
  ·exact⟨by simp[goodW,clsW,dW,h1,h2],by simp[u8W],by simp⟩
  ·exact⟨by simp[goodW,clsW,dW,h1,h2,h3],by simp[u8W],by simp⟩
theorem movV_rate{p:ae}{m:ay}(h:movV p m=0)(hk:m.Kind≠1):0≤m.Rate:=by
 unfold movV at h
 split at h
 ·omega
 ·split at h
  ·omega
  ·omega
theorem good_mov{p:ae}{m:ay}(h0:(movB p m).2=0):goodB (movB p m).1:=by
 unfold movB at h0 ⊢
 split at h0
 ·exact absurd h0 (by assumption)
 ·rename_i hv
  split at h0
  ·omega
  ·rename_i hr
   rw[if_neg hv,if_neg hr]
   have hv':movV p m=0:=by omega
   have g0:grp 0=1:=by decide
   have g1:grp 1000=1:=by decide
   have g2:grp 2000=1:=by decide
   have g3:grp 3000=1:=by decide
   rcases movV_kind hv' with k | k | k | k
   ·refine⟨?_,?_,?_⟩<;>simp[movW,k,goodW,clsW,dW,g0,u8W]
   ·have:=movV_rate hv' (by omega)
    refine⟨?_,?_,?_⟩<;>simp[movW,k,goodW,clsW,dW,g1,u8W];omega
   ·have:=movV_rate hv' (by omega)
    refine⟨?_,?_,?_⟩<;>simp[movW,k,goodW,clsW,dW,g2,u8W];omega
   ·have:=movV_rate hv' (by omega)
    refine⟨?_,?_,?_⟩<;>simp[movW,k,goodW,clsW,dW,g3,u8W];omega
theorem jP{l:List aW}{p:ae}{w:Int}(hl:di l)(hp:okPos p)(hw:grp w=3):(bj l p w).1.length≤131∧∀b∈(bj l p w).1,goodB b:=by
 unfold bj
 split
 ·exact⟨by simp,λb hb=>by simp at hb⟩
 ·cases hs:bO p l with
  | ret e=>exact⟨by simp,λb hb=>by simp at hb⟩
  | go v =>
   obtain⟨h1,h2⟩:=jK l p v hs hp hl.2
   have:=hl.1
   refine⟨by simp[headB,tailB];omega,λb hb=>?_⟩
   simp only[zU]at hb
   rcases hb with (q | q) | q
   ·simp only[headB,zI,zE,or_false]at q
    subst q
    have g0:grp 0=1:=by decide
    have g1:grp 90000=2:=by decide
    have g2:grp 49000=4:=by decide
    have g3:grp 98000=5:=by decide
    exact⟨by simp[goodW,clsW,dW,g0,g1,g2,g3,hw],by simp[u8W],by simp⟩
   ·rcases h2 b q with⟨q1,m1,_,a2,rfl⟩|⟨n,a1,a2⟩
    ·exact good_mov a2
    ·exact good_chg a1 a2
   ·simp only[tailB,zI,zE,or_false]at q
    have g2:grp 49000=4:=by decide
    rcases q with rfl | rfl
    ·exact⟨by simp[goodW,clsW,dW,g2],by simp[u8W],by simp⟩
    ·exact⟨by simp[goodW,clsW,dW],by simp[u8W],by simp⟩
def idleW(s:ak)(w:ap):Bool:=((w.Letter==71)||((w.Letter==70)||((w.Letter==84)||(w.Letter==72))))&&(!((w.Letter==71)&&(decide (w.Value≥80000)&&decide (w.Value≤83000)))&&decide (putW s w=s))
theorem state_eq(a b:ak):((a.Motion==b.Motion)&&((a.Distance==b.Distance)&&((a.Work==b.Work)&&((a.Length==b.Length)&&((a.Return==b.Return)&&((a.Feed==b.Feed)&&((a.Tool==b.Tool)&&(a.Offset==b.Offset))))))))=decide (a=b):=by
 obtain⟨a1,a2,a3,a4,a5,a6,a7,a8⟩:=a
 obtain⟨b1,b2,b3,b4,b5,b6,b7,b8⟩:=b
 rw[zG]
 simp
theorem md_idle_eq(s:ak)(w:ap)(h:w.Letter=71→grp w.Value≠0):md_idle s w=some (idleW s w):=by
 unfold md_idle idleW
 simp only[md_put_eq s w h,ah,state_eq]
 by_cases h1:w.Letter=71
 ·by_cases h2:w.Value≥80000<;>by_cases h3:w.Value≤83000<;>simp[h1,h2,h3]
 ·by_cases h2:w.Letter=70
  ·simp[h2]
  ·by_cases h3:w.Letter=84
   ·simp[h3]
   ·by_cases h4:w.Letter=72
    ·simp[h4]
    ·simp[h1,h2,h3,h4]
def cmpB(s:ak)(b:aa):List aa :=
 if (decide (((b.Words.filter λw=>!idleW s w).length:Int)>0)||(!(b.Comment==[])||b.Skip))=true then [⟨b.Skip,b.Words.filter λw=>!idleW s w,b.Comment⟩]else []
def cmpV:ak→List aa→List aa
 | _,[]=>[]
 | s,b::r=>cmpB s b++cmpV (b.Words.foldl putW s) r
theorem cmpV_len:∀(l:List aa) (s:ak),(cmpV s l).length≤l.length
 | [],_=>by simp[cmpV]
 | b::r,s=>by
  have:=cmpV_len r (b.Words.foldl putW s)
  rw[cmpV,zB,zD]
  have:(cmpB s b).length≤1:=by unfold cmpB;split<;>simp
  omega
theorem cmpV_drop{s0 s:ak}{l:List aa}{i:Nat}{b:aa}{acc:List aa}(hx:l[i]? = some b)(h:acc++cmpV s (l.drop i)=cmpV s0 l):(acc++cmpB s b)++cmpV (b.Words.foldl putW s) (l.drop (i+1))=cmpV s0 l:=by
 have hl:=aq hx
 have:l.drop i=b::l.drop (i+1):=by
  rw[zQ hl]
  rw[List.getElem?_eq_getElem hl]at hx
  injection hx with hx
  rw[hx]
 rw[this,cmpV]at h
 rw[←h,zN]
theorem good_cls{b:aa}(h:goodB b){w:ap}(hw:w∈b.Words):w.Letter=71→grp w.Value≠0:=cls_put (goodW_ne _ _ h.1 w hw)
theorem kC{α:Type}(q:α→Bool){l:List α}{j:Nat}{x:α}(hx:l[j]? = some x):(l.take (j+1)).filter q=(l.take j).filter q++(if q x=true then [x]else []):=by
 rw[kZ,hx,List.filter_append]
 congr 1
 cases h:q x<;>simp[h]
theorem set_take{α:Type}{c:List α}{i:Nat}{x:α}(h:i<c.length):(c.set i x).take (i+1)=c.take i++[x]:=by
 rw[kZ,List.getElem?_set_self h,List.take_set_of_le (Nat.le_refl _)]
 rfl
theorem set_drop{α:Type}{c:List α}{i j:Nat}{x:α}(h:i<j):(c.set i x).drop j=c.drop j:=by
 rw[List.drop_set_of_lt h]
theorem md_Compress_tot(s:ak)(l:List aa)(hl:l.length≤100000)(hg:∀b∈l,goodB b):dV s l=some (cmpV s l,0):=by
 have key:Tot (dV s l) (λy=>y=(cmpV s l,0)):=by
  unfold dV
  refine Tot.bindX (F:=λy=>y=(cmpV s l,0)) (E:=λv=>v.1=cmpV s l) (TotX.of (Tot.guard (aR (by omega)) (Tot.range (λi v=>v.1.length≤i∧v.1++cmpV v.2 (l.drop i)=cmpV s l) _ ⟨by simp,by simp⟩ (λi b v hx hr=>?_) (λv hr=>.ok ?_)))) (λv hv=>.ok (by rw[hv]))
  ·have hb:=hg b (List.mem_of_getElem? hx)
   have hlt:=aq hx
   obtain⟨b1,b2,b3⟩:=hb
   have hok:okB b:=⟨b2,by omega⟩
   refine TotX.bind (E:=λy=>y=(b.Words.foldl putW v.2,0)) (.eq (md_Apply_eq v.2 b hok) (by rw[if_pos b1])) (λy hy=>?_)
   subst hy
   refine TotX.ite (λq=>by simp at q) (λ_=>?_)
   have hcl:aX b.Words=some b.Words:=by
    unfold aX
    rw[aZ (by omega),aD]
   refine TotX.bind (.eq (E:=λy=>y=b.Words) hcl rfl) (λy hy=>?_)
   subst hy
   refine TotX.bind (E:=λy=>y=b.Words.filter λw=>!idleW v.2 w) ?_ (λy hy=>?_)
   ·refine Tot.bind (E:=λz=>(z=-1∧∀w∈b.Words,idleW v.2 w=false)∨∃(k:Nat) (w:ap),z=(k:Int)∧b.Words[k]? = some w∧idleW v.2 w=true∧∀j,j<k→∀u,b.Words[j]? = some u→idleW v.2 u=false) ?_ (λz hz=>?_)
    ·refine Tot.bindX (E:=λ_=>∀w∈b.Words,idleW v.2 w=false) (TotX.of (Tot.guard (aR (by omega)) (Tot.range (λk _=>∀j,j<k→∀u,b.Words[j]? = some u→idleW v.2 u=false) _ (λj q=>by omega) (λk w _ hw hk=>?_) (λ_ hk=>.ok ?_)))) (λ_ hk=>.ok (.inl ⟨rfl,hk⟩))
     ·rw[gt_k hw,ah,md_idle_eq v.2 w (good_cls ⟨b1,b2,b3⟩ (List.mem_of_getElem? hw)),ah,ah]
      refine TotX.ite (λq=>.ret (.inr ⟨k,w,rfl,hw,q,hk⟩)) (λq=>.go (λj hj u hu=>?_))
      rcases zM j k with z | z
      ·exact hk j z u hu
      ·obtain rfl:j=k:=by omega
       rw[hw]at hu;injection hu with hu;rw[←hu];exact q
     ·intro w hw
      obtain⟨j,hj⟩:=List.mem_iff_getElem?.1 hw
      exact hk j (aq hj) w hj
    ·rcases hz with⟨rfl,hz⟩|⟨k,w,rfl,hw,hi,hk⟩
     ·refine Tot.ite (λ_=>.ok ?_) (λq=>by simp at q)
      exact (List.filter_eq_self.2 λw hw=>by simp[hz w hw]).symm
     ·have hkl:=aq hw
      refine Tot.ite (λq=>by simp at q) (λ_=>?_)
      rw[wrap_i64 (by omega) (by omega)]
      refine Tot.bind (E:=λu=>∃i:Nat,u.1=(i:Int)∧i≤b.Words.length∧u.2.length=b.Words.length∧u.2.take i=b.Words.filter λw=>!idleW v.2 w) (Tot.loop (λm (u:Int×Int×List ap)=>∃i j:Nat,u.1=(i:Int)∧u.2.1=(j:Int)∧i<j∧j≤b.Words.length∧m=b.Words.length-j∧u.2.2.length=b.Words.length∧u.2.2.take i=(b.Words.take j).filter (λw=>!idleW v.2 w)∧u.2.2.drop j=b.Words.drop j) _ (b.Words.length-(k+1)) (iB (by omega)) ?_ (λm u hu=>?_)) (λu hu=>?_)
      ·refine⟨k,k+1,rfl,by simp,by omega,by omega,rfl,rfl,?_,rfl⟩
       rw[kC _ hw]
       simp only[hi,zV,zA,if_false,zF]
       symm
       refine List.filter_eq_self.2 λx hx=>?_
       obtain⟨j,hj⟩:=List.mem_iff_getElem?.1 hx
       have hjk:j<k:=by have:=aq hj;simp at this;omega
       rw[List.getElem?_take,if_pos hjk]at hj
       simp[hk j hjk x hj]
      ·obtain⟨i,j,u1,u2,u3,u4,u5,u6,u7,u8⟩:=hu
       obtain⟨a,b',c⟩:=u
       simp only at u1 u2 u6 u7 u8 ⊢
       subst u1;subst u2
       by_cases hj:j<b.Words.length
       ·have hjx:b.Words[j]? = some b.Words[j]:=List.getElem?_eq_getElem hj
        generalize hxx:b.Words[j]=x at hjx
        have hcx:c[j]? = some x:=by
         have h1:(c.drop j)[0]? = (b.Words.drop j)[0]?:=by rw[u8]
         simpa [hjx] using h1
        have hd1:c.drop (j+1)=b.Words.drop (j+1):=by
         have:=congrArg (List.drop 1) u8
         simpa using this
        refine TotX.ite (λ_=>?_) (λq=>by simp at q;omega)
        rw[gt_k hcx,ah,md_idle_eq v.2 x (good_cls ⟨b1,b2,b3⟩ (List.mem_of_getElem? hjx)),ah,ah]
        cases hix:idleW v.2 x with
        | true =>
         simp only[zV,zA,if_false,ah]
         refine .go ⟨b.Words.length-(j+1),by omega,i,j+1,rfl,by rw[wrap_i64 (by omega) (by omega)];simp,by omega,by omega,rfl,u6,?_,hd1⟩
         rw[kC _ hjx,u7,hix];simp
        | false =>
         have hci:c[i]? = some c[i]:=List.getElem?_eq_getElem (by omega)
         simp only[zX,if_true]
         rw[gt_k hci,ah,ah]
         refine .go ⟨b.Words.length-(j+1),by omega,i+1,j+1,by dsimp only;rw[wrap_i64 (by omega) (by omega)];simp,by dsimp only;rw[wrap_i64 (by omega) (by omega)];simp,by omega,by omega,rfl,by simpa using u6,?_,?_⟩
         ·simp only[zJ]
          rw[set_take (by omega),kC _ hjx,u7,hix];simp
         ·simp only[zJ]
          rw[set_drop (by omega),hd1]
       ·refine TotX.ite (λq=>by simp at q;omega) (λ_=>.ret ⟨i,rfl,by omega,u6,?_⟩)
        have:j=b.Words.length:=by omega
        rw[u7,this,kK]
      ·obtain⟨i,u1,u2,u3,u4⟩:=hu
       obtain⟨a,c⟩:=u
       simp only at u1 u3 u4 ⊢
       subst u1
       simp only[zJ,kV,Nat.sub_zero]
       refine Tot.guard (by simp;omega) (Tot.guard ?_ (.ok ?_))
       ·simp;omega
       ·rw[List.drop_zero,zN,List.take_append_of_le_length (by simp;omega),List.take_take,Nat.min_self,u4]
   ·subst hy
    refine TotX.bind (E:=λy=>y=v.1++cmpB v.2 b) ?_ (λy hy=>.go ⟨?_,?_⟩)
    ·unfold cmpB
     refine Tot.ite (λq=>?_) (λq=>.ok ?_)
     ·rw[if_pos q]
      exact Tot.guard (aZ (by have:=hr.1;omega)) (.ok rfl)
     ·rw[if_neg (by rw[q];simp)];simp
    ·rw[hy,zB]
     have:(cmpB v.2 b).length≤1:=by unfold cmpB;split<;>simp
     have:=hr.1
     omega
    ·simp only[hy]
     exact cmpV_drop hx hr.2
  ·have:=hr.2
   rw[List.drop_length]at this
   simpa [cmpV] using this
 obtain⟨e,he,rfl⟩:=key
 exact he
def hasV(b:aa)(c n:Int):Bool:=b.Words.any λw=>(w.Letter==c)&&(w.Value==n)
def letV(b:aa)(c:Int):Bool:=b.Words.any λw=>w.Letter==c
theorem codes_has(l:List ap)(c n:Int):(fu l c).any (λk=>n==k)=l.any λw=>(w.Letter==c)&&(w.Value==n):=by
 induction l with
 | nil=>rfl
 | cons w l ih =>
  unfold fu at ih ⊢
  rw[List.any_cons,←ih,List.filter_cons]
  have hc:(n==w.Value)=(w.Value==n):=by
   rw[zG];simp only[beq_iff_eq];exact⟨λh=>h.symm,λh=>h.symm⟩
  cases (w.Letter==c)with
  | true=>simp[hc]
  | false=>simp
theorem codes_let(l:List ap)(c:Int):decide (((fu l c).length:Int)>0)=l.any λw=>w.Letter==c:=by
 induction l with
 | nil=>rfl
 | cons w l ih =>
  unfold fu at ih ⊢
  rw[List.any_cons,←ih,List.filter_cons]
  cases (w.Letter==c)with
  | true=>simp
  | false=>simp
def fewB(b:aa):Prop:=b.Words.length≤1000
theorem fV{b:aa}{c n:Int}(hb:fewB b):iM b c n=some (hasV b c n):=by
 unfold fewB at hb
 unfold iM aM bA hasV
 have hl:=codesV_len b.Words c
 rw[fg b c (by omega),ah,aR (by omega),aD,←codes_has]
 have key:∀(l:List Int) (i:Nat),∃z:Ex Int Unit,aI (λ(i127:Nat) (e129:Int) (v128:Unit)=>if (n==e129)=true then some (.ret (.ret (i127:Int)))else some (.go ())) (λ(v128:Unit)=>some (.go ())) l i ()=some z∧(match z with | .ret k=>0≤k∧l.any (λk=>n==k)=true | .go _=>l.any (λk=>n==k)=false):=by
  intro l
  induction l with
  | nil=>intro i;exact⟨_,rfl,rfl⟩
  | cons x l ih =>
   intro i
   simp only[aI,List.any_cons]
   cases h:(n==x)with
   | true=>exact⟨.ret (i:Int),by simp,by omega,rfl⟩
   | false =>
    obtain⟨z,h1,h2⟩:=ih (i+1)
    exact⟨z,by simpa using h1,by simpa using h2⟩
 obtain⟨z,h1,h2⟩:=key (fu b.Words c) 0
 rw[h1]
 cases z with
 | ret k=>simp only[bindX_r,ah,h2.2];simp[h2.1]
 | go u=>simp only[kI,ah,h2];rfl
def foldB(b:aa):Bool:=!letV b 79&&(!hasV b 77 30000&&(!hasV b 77 99000&&(!letV b 78&&!hasV b 77 98000)))
theorem sp_foldable_eq{b:aa}(hb:fewB b):fW b=some (foldB b):=by
 have hb':b.Words.length≤1000000:=by unfold fewB at hb;omega
 have h78:((((fu b.Words 78).length:Int)==0))=!letV b 78:=by
  unfold letV;rw[←codes_let]
  rw[zG];simp
 unfold fW dB foldB
 simp only[fg b _ hb',fV hb,ah,codes_let,h78]
 rw[show (b.Words.any λw=>w.Letter==79)=letV b 79 from rfl]
 cases letV b 79<;>cases hasV b 77 30000<;>cases hasV b 77 99000<;>cases letV b 78<;>cases hasV b 77 98000<;>rfl
def runBB(l:List aa)(n i k:Nat):Bool:=(List.range n).all λj=>match l[i+j]?,l[k+j]? with | some a,some b=>foldB a&&decide (a=b) | _,_=>false
theorem runB_iff{l:List aa}{n i k:Nat}:runBB l n i k=true↔∀j,j<n→∃a,l[i+j]? = some a∧l[k+j]? = some a∧foldB a=true:=by
 unfold runBB
 rw[zZ]
 constructor
 ·intro h j hj
  have:=h j (List.mem_range.2 hj)
  cases h1:l[i+j]? with
  | none=>rw[h1]at this;simp at this
  | some a =>
   cases h2:l[k+j]? with
   | none=>rw[h1,h2]at this;simp at this
   | some b =>
    rw[h1,h2]at this
    simp at this
    exact⟨a,rfl,by rw[this.2],this.1⟩
 ·intro h j hj
  obtain⟨a,h1,h2,h3⟩:=h j (List.mem_range.1 hj)
  simp[h1,h2,h3]
theorem run_tot {l : List aa} {n i k : Nat} {eq fo : aa → Option Bool} {eqf : aa → aa → Option Bool} (hn : n ≤ 1000000) (hl : l.length ≤ 1000000) (hi : i + n ≤ l.length) (hk : k + n ≤ l.length) (hf : ∀ b ∈ l, fewB b)
    (hfo:∀b,fewB b→fo b=some (foldB b)) (heq:∀a b,fewB a→eqf a b=some (decide (a=b))) :
    bindX (loopX (λ(v163 : Int) =>
        if (decide (v163<(n:Int)))=true then
          bindO (bindO (gt l (IntKind.i64.wrap ((i : Int) + v163))) λ(e169 : aa) =>
              bindO (fo e169) λ(y170:Bool) =>
              if y170=true then
                bindO (gt l (IntKind.i64.wrap ((k:Int)+v163))) λ(e171:aa) =>
                bindO (eqf e169 e171) λ(y172:Bool) =>
                some (!y172)
              else
                some true) λ(v173:Bool) =>
          if v173=true then
            some (.ret (.ret false))
          else
            some (.go (IntKind.i64.wrap (v163+1)))
        else
          some (.ret (.go ()))) fuel 0) (λ(v137:Unit)=>some true)=some (runBB l n i k):=by
  have key : Tot (loopX (λ(v163 : Int) =>
        if (decide (v163<(n:Int)))=true then
          bindO (bindO (gt l (IntKind.i64.wrap ((i : Int) + v163))) λ(e169 : aa) =>
              bindO (fo e169) λ(y170:Bool) =>
              if y170=true then
                bindO (gt l (IntKind.i64.wrap ((k:Int)+v163))) λ(e171:aa) =>
                bindO (eqf e169 e171) λ(y172:Bool) =>
                some (!y172)
              else
                some true) λ(v173:Bool) =>
          if v173=true then
            some (.ret (.ret false))
          else
            some (.go (IntKind.i64.wrap (v163+1)))
        else
          some (.ret (.go ()))) fuel 0) (λ(e:Ex Bool Unit)=>(e=.ret false∧runBB l n i k=false)∨(e=.go ()∧runBB l n i k=true)):=by
    refine Tot.loop (λm (v:Int)=>∃j:Nat,v=(j:Int)∧j≤n∧m=n-j∧∀t,t<j→∃a,l[i+t]? = some a∧l[k+t]? = some a∧foldB a=true) _ n (iB (by omega)) ⟨0,rfl,by omega,rfl,λt ht=>by omega⟩ (λm v hv=>?_)
    obtain⟨j,rfl,h1,h2,h3⟩:=hv
    by_cases hj:j<n
    · have ha:l[i+j]? = some l[i+j]:=List.getElem?_eq_getElem (by omega)
      have hb:l[k+j]? = some l[k+j]:=List.getElem?_eq_getElem (by omega)
      generalize l[i+j]=a at ha
      generalize l[k+j]=b at hb
      have fa:=hf a (List.mem_of_getElem? ha)
      refine TotX.ite (λ_=>?_) (λq=>by simp at q<;>omega)
      rw[wrap_i64 (by omega) (by omega),show (i:Int)+(j:Int)=((i+j:Nat):Int) by omega,gt_k ha,ah,hfo a fa,ah]
      rw[wrap_i64 (n:=(k:Int)+(j:Int)) (by omega) (by omega),show (k:Int)+(j:Int)=((k+j:Nat):Int) by omega,gt_k hb,ah,heq a b fa,ah]
      have hno:(foldB a=false∨a≠b)→runBB l n i k=false:=by
        intro q
        cases hr:runBB l n i k with
        | false=>rfl
        | true =>
          obtain⟨c,c1,c2,c3⟩:=runB_iff.1 hr j hj
          rw[ha]at c1;injection c1 with c1
          rw[hb]at c2;injection c2 with c2
          rcases q with q | q
          · rw[c1,c3]at q;cases q
          · exact absurd (c1.trans c2.symm) q
      cases hfa:foldB a with
      | false =>
        simp only[zA,if_false,ah,if_true]
        exact .ret (.inl ⟨rfl,hno (.inl hfa)⟩)
      | true =>
        simp only[if_true,ah]
        by_cases hab:a=b
        · rw[decide_eq_true hab]
          simp only[zV,zA,if_false]
          refine .go ⟨n-(j+1),by omega,j+1,by rw[wrap_i64 (by omega) (by omega)];simp,by omega,rfl,λt ht=>?_⟩
          rcases zM t j with z | z
          · exact h3 t z
          · obtain rfl:t=j:=by omega
            exact⟨a,ha,by rw[hb,hab],hfa⟩
        · rw[decide_eq_false hab]
          simp only[zX,if_true]
          exact .ret (.inl ⟨rfl,hno (.inr hab)⟩)
    · refine TotX.ite (λq=>by simp at q<;>omega) (λ_=>.ret (.inr ⟨rfl,?_⟩))
      have:j=n:=by omega
      subst this
      exact runB_iff.2 h3
  obtain⟨e,he,h⟩:=key
  rw[he]
  rcases h with⟨rfl,h⟩|⟨rfl,h⟩<;>rw[h]<;>rfl
theorem sp_run_eq{l:List aa}{n i k:Nat}(hn:n≤1000000)(hl:l.length≤1000000)(hi:i+n≤l.length)(hk:k+n≤l.length)(hf:∀b∈l,fewB b):sp_run l (i:Int) (k:Int) (n:Int)=some (runBB l n i k) :=
 run_tot (eq:=λ_=>none) hn hl hi hk hf (λb h=>sp_foldable_eq h) (λa b h=>equal_eq a b (by unfold fewB at h;omega))
def ia(l:List aa)(n i:Nat):Bool:=(List.range (l.length+1)).any λk=>decide (i+n≤k)&&(decide (k+n≤l.length)&&runBB l n i k)
theorem g9{l:List aa}{n i:Nat}:ia l n i=true↔∃k,i+n≤k∧k+n≤l.length∧runBB l n i k=true:=by
 unfold ia
 rw[List.any_eq_true]
 constructor
 ·rintro⟨k,_,h⟩
  simp at h
  exact⟨k,h⟩
 ·rintro⟨k,h1,h2,h3⟩
  exact⟨k,List.mem_range.2 (by omega),by simp[h1,h2,h3]⟩
theorem jv{l:List aa}{n i:Nat}(h:∀k,i+n≤k→k+n≤l.length→runBB l n i k=false):ia l n i=false:=by
 cases hb:ia l n i with
 | false=>rfl
 | true =>
  obtain⟨k,h1,h2,h3⟩:=g9.1 hb
  rw[h k h1 h2]at h3;cases h3
def atV(l:List aa)(n:Nat):Option Nat:=(List.range (l.length+1)).find? (ia l n)
theorem find_range{p:Nat→Bool}:∀{m i:Nat},i<m→p i=true→(∀j,j<i→p j=false)→(List.range m).find? p=some i
 | 0,i,h,_,_=>by omega
 | m+1,i,h,hp,hn=>by
  rw[List.range_succ,List.find?_append]
  rcases zM i m with q | q
  ·rw[find_range q hp hn];rfl
  ·obtain rfl:i=m:=by omega
   have:(List.range i).find? p=none:=List.find?_eq_none.2 λx hx=>by simp[hn x (List.mem_range.1 hx)]
   rw[this]
   simp[hp]
theorem atV_some{l:List aa}{n i:Nat}(h:ia l n i=true)(hn:∀j,j<i→ia l n j=false):atV l n=some i:=by
 obtain⟨k,h1,h2,_⟩:=g9.1 h
 exact find_range (by omega) h hn
theorem atV_none{l:List aa}{n:Nat}(hn:∀j,ia l n j=false):atV l n=none:=List.find?_eq_none.2 λx _=>by simp[hn x]
theorem sp_first_tot{l:List aa}{n:Nat}(h1:1≤n)(h2:2*n≤l.length)(hl:l.length≤1000000)(hf:∀b∈l,fewB b):Tot (sp_first l (n:Int)) (λr=>match atV l n with | none=>r=-1 | some i=>r=(i:Int)):=by
 unfold sp_first
 refine Tot.bindX (E:=λ_=>∀j,ia l n j=false) (TotX.of (Tot.loop (λm (v:Int)=>∃i:Nat,v=(i:Int)∧i≤l.length∧m=l.length-i∧∀j,j<i→ia l n j=false) _ l.length (iB (by omega)) ⟨0,rfl,by omega,rfl,λj hj=>by omega⟩ (λm v hv=>?_))) (λv hv=>.ok ?_)
 ·obtain⟨i,rfl,a1,a2,a3⟩:=hv
  rw[wrap_i64 (n:=(i:Int)+(n:Int)) (by omega) (by omega),wrap_i64 (n:=(l.length:Int)-(n:Int)) (by omega) (by omega)]
  by_cases hi:i+n+n≤l.length
  ·refine TotX.ite (λ_=>?_) (λq=>by simp at q<;>omega)
   refine TotX.bindX (E:=λ_=>ia l n i=false) (TotX.of (Tot.loop (λm (v:Int)=>∃k:Nat,v=(k:Int)∧i+n≤k∧k≤l.length∧m=l.length-k∧∀j,i+n≤j→j<k→runBB l n i j=false) _ (l.length-(i+n)) (iB (by omega)) ⟨i+n,by omega,by omega,by omega,rfl,λj q1 q2=>by omega⟩ (λm v hv=>?_))) (λ_ hb=>.go ?_)
   ·obtain⟨k,rfl,b1,b2,b3,b4⟩:=hv
    rw[wrap_i64 (n:=(k:Int)+(n:Int)) (by omega) (by omega)]
    by_cases hk:k+n≤l.length
    ·refine TotX.ite (λ_=>?_) (λq=>by simp at q<;>omega)
     rw[sp_run_eq (by omega) hl (by omega) hk hf,ah]
     refine TotX.ite (λq=>.ret ?_) (λq=>.go ⟨l.length-(k+1),by omega,k+1,by rw[wrap_i64 (by omega) (by omega)];simp,by omega,by omega,rfl,λj q1 q2=>?_⟩)
     ·show match atV l n with | none=>(i:Int)=-1 | some j=>(i:Int)=(j:Int)
      rw[atV_some (g9.2 ⟨k,b1,hk,q⟩) a3]
     ·rcases zM j k with z | z
      ·exact b4 j q1 z
      ·obtain rfl:j=k:=by omega
       exact q
    ·refine TotX.ite (λq=>by simp at q<;>omega) (λ_=>.ret ?_)
     exact jv λj q1 q2=>b4 j q1 (by omega)
   ·refine⟨l.length-(i+1),by omega,i+1,by rw[wrap_i64 (by omega) (by omega)];simp,by omega,rfl,λj hj=>?_⟩
    rcases zM j i with z | z
    ·exact a3 j z
    ·obtain rfl:j=i:=by omega
     exact hb
  ·refine TotX.ite (λq=>by simp at q<;>omega) (λ_=>.ret ?_)
   intro j
   rcases zM j i with z | z
   ·exact a3 j z
   ·exact jv λk q1 q2=>by omega
 ·rw[atV_none hv]
def callB:aa:=⟨false,[⟨77,98000⟩,⟨80,1000000⟩],[]⟩
def foldM(l:List aa)(n a:Nat):Nat→Nat→List aa
 | 0,_=>[]
 | f+1,i=>match l[i]? with
  | none=>[]
  | some b=>if (decide (i+n≤l.length)&&runBB l n a i)=true then callB::foldM l n a f (i+n)else b::foldM l n a f (i+1)
theorem foldM_end{l:List aa}{n a f i:Nat}(h:l.length≤i):foldM l n a f i=[]:=by
 cases f with
 | zero=>rfl
 | succ f=>rw[foldM,List.getElem?_eq_none h]
theorem foldM_len(l:List aa)(n a:Nat)(hn:1≤n):∀(f i:Nat),i+(foldM l n a f i).length≤max i l.length
 | 0,i=>by simp[foldM];omega
 | f+1,i=>by
  rw[foldM]
  cases hx:l[i]? with
  | none=>simp;omega
  | some b =>
   have hlt:=aq hx
   simp only
   split
   ·rename_i q
    simp at q
    have:=foldM_len l n a hn f (i+n)
    simp only[zD];omega
   ·have:=foldM_len l n a hn f (i+1)
    simp only[zD];omega
theorem foldM_few{l:List aa}{n a:Nat}(hf:∀b∈l,b.Words.length≤7):∀(f i:Nat),∀b∈foldM l n a f i,b.Words.length≤7
 | 0,i,b,hb=>by simp[foldM]at hb
 | f+1,i,b,hb=>by
  rw[foldM]at hb
  cases hx:l[i]? with
  | none=>rw[hx]at hb;simp at hb
  | some c =>
   rw[hx]at hb
   simp only at hb
   split at hb
   ·rcases List.mem_cons.1 hb with q | q
    ·subst q;simp[callB]
    ·exact foldM_few hf f _ b q
   ·rcases List.mem_cons.1 hb with q | q
    ·subst q;exact hf _ (List.mem_of_getElem? hx)
    ·exact foldM_few hf f _ b q
def markB(c n:Int):aa:=⟨false,[⟨c,n⟩],[]⟩
def foldJ(l:List aa)(n:Nat):List aa:=match atV l n with
 | none=>l
 | some a=>foldM l n a l.length 0++[markB 79 1000000]++(l.drop a).take n++[markB 77 99000]
theorem cutL_at{α:Type}{l:List α}{a n:Nat}(h:a+n≤l.length):cutL l (a:Int) ((a+n:Nat):Int)=some ((l.drop a).take n):=by
 unfold cutL
 rw[if_neg (by omega)]
 simp only[zJ]
 rw[show a+n-a=n by omega]
theorem sp_Fold_tot{l:List aa}{n:Nat}(h1:1≤n)(hn:n≤100)(hl:l.length≤1000)(hf:∀b∈l,fewB b):Tot (kr l 1000 (n:Int)) (λr=>r.2=0∧match atV l n with | none=>r.1=⟨l,[]⟩ | some a=>r.1=⟨foldM l n a l.length 0,[⟨1000,(l.drop a).take n⟩]⟩):=by
 unfold kr
 refine Tot.ite (λq=>by simp at q<;>omega) (λ_=>?_)
 refine Tot.bind (E:=λr=>match atV l n with | none=>r=-1 | some i=>r=(i:Int)) ?_ (λr hr=>?_)
 ·have hq:Int.tdiv (l.length:Int) 2=((l.length / 2:Nat):Int):=by
   rw[kR (by omega)];omega
  rw[hq,wrap_i64 (by omega) (by omega)]
  refine Tot.ite (λq=>?_) (λq=>.ok ?_)
  ·simp at q
   refine Tot.bind (sp_first_tot h1 (by omega) (by omega) hf) (λx hx=>.ok hx)
  ·simp at q
   rw[atV_none λj=>jv λk q1 q2=>by omega]
 ·cases ha:atV l n with
  | none =>
   rw[ha]at hr
   subst hr
   refine Tot.ite (λ_=>?_) (λq=>by simp at q)
   unfold aC
   rw[aZ (by omega),aD,ah]
   exact .ok ⟨rfl,rfl⟩
  | some a =>
   rw[ha]at hr
   simp only at hr
   subst hr
   have hfa:ia l n a=true:=List.find?_some ha
   obtain⟨k0,c1,c2,c3⟩:=g9.1 hfa
   refine Tot.ite (λq=>by simp at q<;>omega) (λ_=>?_)
   refine Tot.bind (E:=λv=>v=foldM l n a l.length 0) (Tot.loop (λm (v:List aa×Int)=>∃(i f:Nat),v.2=(i:Int)∧i≤l.length∧v.1.length≤i∧l.length≤i+f∧m=f∧v.1++foldM l n a f i=foldM l n a l.length 0) _ l.length (iB (by omega)) ⟨0,l.length,rfl,by omega,by simp,by omega,rfl,by simp⟩ (λm v hv=>?_)) (λv hv=>?_)
   ·obtain⟨i,f,v2,d1,d2,d3,rfl,d4⟩:=hv
    obtain⟨acc,j⟩:=v
    simp only at v2 d2 d4 ⊢
    subst v2
    by_cases hi:i<l.length
    ·have hx:l[i]? = some l[i]:=List.getElem?_eq_getElem hi
     generalize l[i]=b at hx
     refine TotX.ite (λ_=>?_) (λq=>by simp at q<;>omega)
     cases m with
     | zero=>omega
     | succ m =>
      rw[foldM,hx]at d4
      simp only at d4
      rw[wrap_i64 (n:=(i:Int)+(n:Int)) (by omega) (by omega)]
      refine TotX.bind (E:=λr=>r=(decide (i+n≤l.length)&&runBB l n a i)) (Tot.ite (λq=>?_) (λq=>.ok ?_)) (λr hr=>?_)
      ·simp at q
       rw[sp_run_eq (by omega) (by omega) (by omega) (by omega) hf,ah]
       exact .ok (by rw[decide_eq_true (show i+n≤l.length by omega),Bool.true_and])
      ·simp at q
       rw[decide_eq_false (show ¬(i+n≤l.length) by omega),Bool.false_and]
      ·subst hr
       refine TotX.ite (λq=>?_) (λq=>?_)
       ·rw[if_pos q]at d4
        simp at q
        refine TotX.guard (aZ (by omega)) (.go ⟨m,by omega,i+n,m,by simp,by omega,by simp;omega,by omega,rfl,?_⟩)
        rw[←d4]
        simp[callB]
        rfl
       ·rw[if_neg (by rw[q];simp)]at d4
        rw[gt_k hx,ah]
        refine TotX.guard (aZ (by omega)) (.go ⟨m,by omega,i+1,m,by rw[wrap_i64 (by omega) (by omega)];simp,by omega,by simp;omega,by omega,rfl,?_⟩)
        rw[←d4];simp
    ·refine TotX.ite (λq=>by simp at q<;>omega) (λ_=>.ret ?_)
     rw[foldM_end (by omega),zF]at d4
     exact d4
   ·subst hv
    rw[wrap_i64 (n:=(a:Int)+(n:Int)) (by omega) (by omega),show (a:Int)+(n:Int)=((a+n:Nat):Int) by omega,cutL_at (by omega),ah]
    unfold aC
    rw[aZ (by simp;omega),aD,ah]
    exact .ok ⟨rfl,rfl⟩
theorem atV_run{l:List aa}{n a:Nat}(h:atV l n=some a):a+n+n≤l.length:=by
 have hfa:ia l n a=true:=List.find?_some h
 obtain⟨k,h1,h2,_⟩:=g9.1 hfa
 omega
theorem sp_folded{l:List aa}{n:Nat}(h1:1≤n)(hn:n≤100)(hl:l.length≤1000)(hf:∀b∈l,fewB b):∃p,kr l 1000 (n:Int)=some (p,0)∧sp_Join p=some (foldJ l n):=by
 obtain⟨⟨p,e⟩,hp,h0,h2⟩:=sp_Fold_tot h1 hn hl hf
 simp only at h0 h2
 subst h0
 refine⟨p,hp,?_⟩
 unfold foldJ sp_Join aC
 cases ha:atV l n with
 | none =>
  rw[ha]at h2
  simp only at h2
  subst h2
  simp only
  rw[aZ (by omega),aD,ah,aR (by simp),aD]
  rfl
 | some a =>
  rw[ha]at h2
  simp only at h2
  subst h2
  simp only
  have h3:=foldM_len l n a h1 l.length 0
  have h4:=atV_run ha
  have h5:((l.drop a).take n).length=n:=by simp;omega
  rw[aZ (by omega),aD,ah,aR (by simp),aD]
  simp only[aI]
  rw[aZ (by omega),aD,h5,aZ (by omega),aD,aZ (by omega),aD,wrap_i64 (by omega) (by omega)]
  rfl
def numB(n k:Int)(b:aa):aa×Int:=if (!letV b 79&&!hasV b 77 99000)=true then (⟨b.Skip,[⟨78,IntKind.i64.wrap (1000*IntKind.i64.wrap (k+n))⟩]++b.Words,b.Comment⟩,IntKind.i64.wrap (k+n))else (b,k)
def numV(n:Int):Int→List aa→List aa
 | _,[]=>[]
 | k,b::r=>(numB n k b).1::numV n (numB n k b).2 r
theorem numV_len(n:Int):∀(l:List aa) (k:Int),(numV n k l).length=l.length
 | [],_=>rfl
 | b::r,k=>by rw[numV,zD,zD,numV_len n r]
theorem numV_few(n:Int):∀(l:List aa) (k:Int),(∀b∈l,b.Words.length≤7)→∀b∈numV n k l,b.Words.length≤8
 | [],_,_,b,hb=>by simp[numV]at hb
 | c::r,k,h,b,hb=>by
  rw[numV]at hb
  rcases List.mem_cons.1 hb with q | q
  ·subst q
   have:=h c (by simp)
   unfold numB
   split
   ·simp;omega
   ·simp only;omega
  ·exact numV_few n r _ (λx hx=>h x (by simp[hx])) b q
theorem numV_drop{n:Int}{k0 k:Int}{l:List aa}{i:Nat}{b:aa}{acc:List aa}(hx:l[i]? = some b)(h:acc++numV n k (l.drop i)=numV n k0 l):(acc++[(numB n k b).1])++numV n (numB n k b).2 (l.drop (i+1))=numV n k0 l:=by
 have hl:=aq hx
 have:l.drop i=b::l.drop (i+1):=by
  rw[zQ hl]
  rw[List.getElem?_eq_getElem hl]at hx
  injection hx with hx
  rw[hx]
 rw[this,numV]at h
 rw[←h,zN]
 rfl
theorem find_let(b:aa)(c:Int):(findV b.Words c).2=letV b c:=by
 unfold findV letV
 cases h:b.Words.find? (λw=>w.Letter==c)with
 | none =>
  rw[List.find?_eq_none]at h
  symm
  rw[List.any_eq_false]
  exact h
 | some w =>
  have h1:=List.find?_some h
  have h2:=List.mem_of_find?_eq_some h
  symm
  exact List.any_eq_true.2 ⟨w,h2,h1⟩
theorem po_returns_eq{b:aa}(hb:fewB b):gS b=some (hasV b 77 99000):=by
 unfold fewB at hb
 unfold gS hasV
 have hl:=codesV_len b.Words 77
 rw[fg b _ (by omega),ah,aR (by omega),aD,←codes_has,jg (p:=λk:Int=>k==99000) (r:=true) _ _ (λi x=>rfl)]
 have:(fu b.Words 77).any (λk=>k==99000)=(fu b.Words 77).any (λk=>99000==k):=any_congr' λx _=>by
  rw[zG];simp only[beq_iff_eq];exact⟨λh=>h.symm,λh=>h.symm⟩
 rw[this]
 cases (fu b.Words 77).any (λk=>99000==k)<;>rfl
theorem po_numbered_eq{l:List aa}{n:Int}(hl:l.length≤100000)(hf:∀b∈l,fewB b)(hn:IntKind.i64.wrap n=n):eM l n=some (numV n 0 l):=by
 have key:Tot (eM l n) (λy=>y=numV n 0 l):=by
  unfold eM
  refine Tot.bind (E:=λy=>y=numV n 0 l) (Tot.guard (aR (by omega)) (Tot.range (λi v=>∃k,v.2=IntKind.i64.wrap (k+n)∧v.1.length≤i∧v.1++numV n k (l.drop i)=numV n 0 l) _ ⟨0,by rw[Int.zero_add,hn],by simp,by simp⟩ (λi b v hx hr=>?_) (λv hr=>.ok ?_))) (λy hy=>.ok hy)
  ·obtain⟨k,h1,h2,h3⟩:=hr
   obtain⟨acc,z⟩:=v
   simp only at h1 h2 h3 ⊢
   subst h1
   have hb:=hf b (List.mem_of_getElem? hx)
   have hlt:=aq hx
   rw[bk_Find_eqB b 79 (by unfold fewB at hb;omega),ah,find_let]
   refine TotX.bind (E:=λy=>y=(!letV b 79&&!hasV b 77 99000)) (Tot.ite (λq=>.ok (by rw[q];rfl)) (λq=>?_)) (λy hy=>?_)
   ·rw[po_returns_eq hb,ah,q];exact .ok rfl
   ·subst hy
    refine TotX.bind (E:=λy=>y.1=IntKind.i64.wrap ((numB n k b).2+n)∧(⟨b.Skip,y.2,b.Comment⟩:aa)=(numB n k b).1) ?_ (λy hy=>?_)
    ·unfold numB
     refine Tot.ite (λq=>?_) (λq=>.ok ?_)
     ·rw[if_pos q]
      unfold bn bG
      rw[ah,ah]
      unfold fewB at hb
      exact Tot.guard (aZ (by omega)) (.ok ⟨rfl,rfl⟩)
     ·rw[if_neg (by rw[q];simp)]
      exact⟨rfl,rfl⟩
    ·obtain⟨y1,y2⟩:=hy
     refine TotX.guard (aZ (by omega)) (.go ⟨(numB n k b).2,y1,by simp;omega,?_⟩)
     simp only[y2]
     exact numV_drop hx h3
  ·obtain⟨k,_,_,h3⟩:=hr
   rw[List.drop_length]at h3
   simpa [numV] using h3
 obtain⟨e,he,rfl⟩:=key
 exact he
def bodyV(l:List aW)(p:ae)(w:Int)(c:Bool)(f:Int):List aa :=
 (λb=>if f=0 then b else foldJ b f.toNat) (if c=true then cmpV newS (bj l p w).1 else (bj l p w).1)
def bH(l:List aW)(p:ae)(w:Int)(c:Bool)(n f:Int):List aa×Int :=
 if optV w n f≠0 then ([],optV w n f)else if (bj l p w).2≠0 then ([],(bj l p w).2)else ((if n=0 then bodyV l p w c f else numV n 0 (bodyV l p w c f)),0)
theorem cmpV_few:∀(l:List aa) (s:ak),(∀b∈l,goodB b)→∀b∈cmpV s l,b.Words.length≤7
 | [],_,_,b,hb=>by simp[cmpV]at hb
 | c::r,s,h,b,hb=>by
  rw[cmpV]at hb
  rcases List.mem_append.1 hb with q | q
  ·unfold cmpB at q
   split at q
   ·simp only[zI,zE,or_false]at q
    subst q
    have h1:=List.length_filter_le (λw=>!idleW s w) c.Words
    have:=(h c (by simp)).2.2
    simp only;omega
   ·simp at q
  ·exact cmpV_few r _ (λx hx=>h x (by simp[hx])) b q
theorem foldJ_few{l:List aa}{n:Nat}(h1:1≤n)(hl:l.length≤131)(hf:∀b∈l,b.Words.length≤7):(foldJ l n).length≤300∧∀b∈foldJ l n,b.Words.length≤7:=by
 unfold foldJ
 cases ha:atV l n with
 | none=>exact⟨by simp only;omega,hf⟩
 | some a =>
  have h3:=foldM_len l n a h1 l.length 0
  have h4:=atV_run ha
  refine⟨by simp;omega,λb hb=>?_⟩
  simp only[zU,zI,zE,or_false]at hb
  rcases hb with ((q | q) | q) | q
  ·exact foldM_few hf _ _ b q
  ·subst q;simp[markB]
  ·exact hf b (List.mem_of_mem_drop (List.mem_of_mem_take q))
  ·subst q;simp[markB]
theorem optV_ok{w n f:Int}(h:optV w n f=0):grp w=3∧0≤n∧n≤1000∧(f=0∨(2≤f∧f≤100)):=by
 unfold optV at h
 split at h
 ·omega
 ·rename_i q
  simp only[not_or,not_and,ne_eq,Decidable.not_not]at q
  refine⟨q.1,by omega,by omega,?_⟩
  by_cases hf:f=0
  ·exact .inl hf
  ·have:=q.2.2.2 hf;right;omega
theorem body_few{l:List aW}{p:ae}{w n f:Int}{c:Bool}(hl:di l)(hp:okPos p)(ho:optV w n f=0):(bodyV l p w c f).length≤300∧∀b∈bodyV l p w c f,b.Words.length≤7:=by
 obtain⟨o1,o2,o3,o4⟩:=optV_ok ho
 obtain⟨g1,g2⟩:=jP hl hp o1
 have hc:(if c=true then cmpV newS (bj l p w).1 else (bj l p w).1).length≤131∧∀b∈(if c=true then cmpV newS (bj l p w).1 else (bj l p w).1),b.Words.length≤7:=by
  cases c with
  | true=>exact⟨by have:=cmpV_len (bj l p w).1 newS;simp only[if_true];omega,cmpV_few _ _ g2⟩
  | false=>exact⟨g1,λb hb=>(g2 b hb).2.2⟩
 unfold bodyV
 by_cases hf:f=0
 ·simp only[hf,if_true]
  exact⟨by have:=hc.1;omega,hc.2⟩
 ·simp only[hf,if_false]
  exact foldJ_few (by omega) hc.1 hc.2
theorem blocks_few{l:List aW}{p:ae}{w n f:Int}{c:Bool}(hl:di l)(hp:okPos p):(bH l p w c n f).1.length≤300∧∀b∈(bH l p w c n f).1,b.Words.length≤8:=by
 unfold bH
 split
 ·exact⟨by simp,λb hb=>by simp at hb⟩
 ·rename_i ho
  split
  ·exact⟨by simp,λb hb=>by simp at hb⟩
  ·obtain⟨h1,h2⟩:=body_few (c:=c) hl hp (n:=n) (f:=f) (w:=w) (by omega)
   by_cases hn:n=0
   ·simp only[hn,if_true]
    exact⟨h1,λb hb=>by have:=h2 b hb;omega⟩
   ·simp only[hn,if_false]
    exact⟨by rw[numV_len];exact h1,numV_few _ _ _ h2⟩
theorem jl{l:List aW}{p:ae}{w n f:Int}{c:Bool}(hl:di l)(hp:okPos p):jm l p ⟨w,c,n,f⟩=some (bH l p w c n f):=by
 unfold jm bH
 rw[po_Valid_eq,ah]
 simp only
 by_cases ho:optV w n f=0
 ·obtain⟨o1,o2,o3,o4⟩:=optV_ok ho
  obtain⟨g1,g2⟩:=jP hl hp o1
  have hbf:=body_few (c:=c) hl hp ho
  rw[ho,if_neg (show ¬((0:Int) != 0)=true by decide),if_neg (show ¬(0:Int)≠0 by decide),po_plain_eq hl hp,ah]
  simp only
  by_cases he:(bj l p w).2=0
  ·rw[he,if_neg (show ¬((0:Int) != 0)=true by decide),if_neg (show ¬(0:Int)≠0 by decide)]
   have hcm:(if c=true then bindO md_New λy=>bindO (dV y (bj l p w).1) λz=>if (z.2 != 0)=true then some (.ret ([],z.2))else some (.go z.1)else some (.go (bj l p w).1))=(some (.go (if c=true then cmpV newS (bj l p w).1 else (bj l p w).1)):Option (Ex (List aa×Int) (List aa))):=by
    cases c with
    | false=>rfl
    | true =>
     simp only[if_true,md_New,ah]
     rw[show ak.mk 0 90000 54000 49000 98000 0 0 0=newS from rfl,md_Compress_tot newS _ (by omega) g2,ah]
     rfl
   rw[hcm,kI]
   have hC:∀b∈(if c=true then cmpV newS (bj l p w).1 else (bj l p w).1),b.Words.length≤7:=by
    cases c with
    | true=>exact cmpV_few _ _ g2
    | false=>exact λb hb=>(g2 b hb).2.2
   have hCl:(if c=true then cmpV newS (bj l p w).1 else (bj l p w).1).length≤131:=by
    cases c with
    | true=>have:=cmpV_len (bj l p w).1 newS;simp only[if_true];omega
    | false=>exact g1
   have hfo:(if (f != 0)=true then bindO (kr (if c=true then cmpV newS (bj l p w).1 else (bj l p w).1) 1000 f) λy=>if (y.2 != 0)=true then some (.ret ([],y.2))else bindO (sp_Join y.1) λz=>some (.go z)else some (.go (if c=true then cmpV newS (bj l p w).1 else (bj l p w).1)))=(some (.go (bodyV l p w c f)):Option (Ex (List aa×Int) (List aa))):=by
    unfold bodyV
    by_cases hf:f=0
    ·simp[hf]
    ·have hf2:f=((f.toNat:Nat):Int):=by omega
     rw[if_pos (by simpa using hf)]
     simp only[hf,if_false]
     obtain⟨q,q1,q2⟩:=sp_folded (l:=(if c=true then cmpV newS (bj l p w).1 else (bj l p w).1)) (n:=f.toNat) (by omega) (by omega) (by omega) (λb hb=>by have:=hC b hb;unfold fewB;omega)
     rw[←hf2]at q1
     rw[q1,ah]
     simp only[bne_self_eq_false,zA,if_false]
     rw[q2,ah]
   rw[hfo,kI,decide_eq_false (by omega),if_neg (by simp)]
   by_cases hn:n=0
   ·simp[hn]
   ·rw[if_pos (by simpa using hn),po_numbered_eq (by omega) (λb hb=>by have:=hbf.2 b hb;unfold fewB;omega) (wrap_i64 (by omega) (by omega)),ah,ah,if_neg hn]
  ·rw[if_pos (by simpa using he),if_pos he]
 ·rw[if_pos (by simpa using ho),if_pos ho]
def fldS(s:ak)(c:Int):Int:=if c=1 then s.Motion else if c=2 then s.Distance else if c=3 then s.Work else if c=4 then s.Length else if c=5 then s.Return else if c=80 then s.Feed else if c=94 then s.Tool else if c=82 then s.Offset else 0
theorem fld_put{s:ak}{w:ap}{c:Int}(hw:clsW w≠0)(hu:u8W w)(hc:c≠clsW w):fldS (putW s w) c=fldS s c:=by
 obtain⟨u1,u2⟩:=hu
 unfold putW
 unfold clsW at hw hc
 by_cases h1:w.Letter=71
 ·rw[if_pos h1]at hw hc ⊢
  rcases grp_in w.Value with q | q | q | q | q | q
  ·exact absurd q hw
  all_goals (rw[q]at hc;simp[q,fldS];intros;omega)
 ·rw[if_neg h1]at hw hc ⊢
  by_cases h2:w.Letter=70
  ·rw[h2]at hc;simp[h2,fldS];intros;omega
  ·by_cases h3:w.Letter=84
   ·rw[h3]at hc;simp[h3,fldS];intros;omega
   ·by_cases h4:w.Letter=72
    ·rw[h4]at hc;simp[h4,fldS];intros;omega
    ·simp[h2,h3,h4]
theorem idle_fld{s v:ak}{w:ap}(hw:clsW w≠0)(hi:idleW s w=true)(hv:fldS v (clsW w)=fldS s (clsW w)):putW v w=v:=by
 unfold idleW at hi
 simp only[zH,decide_eq_true_eq]at hi
 obtain⟨hk,_,hp⟩:=hi
 obtain⟨s1,s2,s3,s4,s5,s6,s7,s8⟩:=s
 obtain⟨v1,v2,v3,v4,v5,v6,v7,v8⟩:=v
 unfold putW at hp ⊢
 unfold clsW at hw hv
 by_cases h1:w.Letter=71
 ·rw[if_pos h1]at hw hv hp ⊢
  rcases grp_in w.Value with q | q | q | q | q | q
  ·exact absurd q hw
  all_goals (rw[q]at hv;simp[q]at hp;simp[fldS]at hv;simp[q];omega)
 ·rw[if_neg h1]at hw hv hp ⊢
  by_cases h2:w.Letter=70
  ·rw[h2]at hv;simp[h2]at hp;simp[fldS]at hv;simp[h2];omega
  ·by_cases h3:w.Letter=84
   ·rw[h3]at hv;simp[h3]at hp;simp[fldS]at hv;simp[h3];omega
   ·by_cases h4:w.Letter=72
    ·rw[h4]at hv;simp[h4]at hp;simp[fldS]at hv;simp[h4];omega
    ·simp[h2,h3,h4]
theorem put_filter(s:ak):∀(ws:List ap) (seen:List Int) (v:ak),goodW seen ws=true→(∀w∈ws,u8W w)→(∀c,c∉seen→fldS v c=fldS s c)→(ws.filter λw=>!idleW s w).foldl putW v=ws.foldl putW v
 | [],_,_,_,_,_=>rfl
 | w::r,seen,v,h,hu,hf=>by
  simp only[goodW,zH,bne_iff_ne,ne_eq,Bool.not_eq_true',List.contains_eq_mem,decide_eq_false_iff_not]at h
  obtain⟨⟨⟨h1,_⟩,h2⟩,h3⟩:=h
  rw[List.filter_cons,kT]
  cases hi:idleW s w with
  | true =>
   rw[if_neg (by simp),idle_fld h1 hi (hf _ h2)]
   exact put_filter s r _ v h3 (λx hx=>hu x (by simp[hx])) λc hc=>hf c (λq=>hc (by simp[q]))
  | false =>
   rw[if_pos (by simp),kT]
   refine put_filter s r _ _ h3 (λx hx=>hu x (by simp[hx])) λc hc=>?_
   rw[fld_put h1 (hu w (by simp)) (λq=>hc (by simp[q]))]
   exact hf c (λq=>hc (by simp[q]))
theorem kA(q:ap→Bool):∀(ws:List ap) (seen seen':List Int),(∀c,c∈seen'→c∈seen)→goodW seen ws=true→goodW seen' (ws.filter q)=true
 | [],_,_,_,_=>rfl
 | w::r,seen,seen',hs,h=>by
  simp only[goodW,zH,bne_iff_ne,ne_eq,Bool.not_eq_true',List.contains_eq_mem,decide_eq_false_iff_not]at h
  obtain⟨⟨⟨h1,h0⟩,h2⟩,h3⟩:=h
  rw[List.filter_cons]
  cases q w with
  | true =>
   rw[if_pos rfl]
   simp only[goodW,zH,bne_iff_ne,ne_eq,Bool.not_eq_true',List.contains_eq_mem,decide_eq_false_iff_not]
   refine⟨⟨⟨h1,h0⟩,λz=>h2 (hs _ z)⟩,kA q r _ _ (λc hc=>?_) h3⟩
   rcases List.mem_cons.1 hc with z | z
   ·simp[z]
   ·simp[hs c z]
  | false =>
   rw[if_neg (by simp)]
   exact kA q r _ _ (λc hc=>by simp[hs c hc]) h3
def fxA{α:Type}(p:α→Bool):List α→Nat→Int
 | [],_=>-1
 | x::l,i=>if p x=true then (i:Int)else fxA p l (i+1)
theorem ix_eq{α β:Type}{p:α→Bool}{f:α→Option Bool}(k:Int→Option β)(l:List α)(hl:l.length≤9223372036854775807)(hf:∀x∈l,f x=some (p x)) :
  bindO (bindX (az (okIdx l) (aI (λ(i:Nat) (e:α) (v:Unit)=>bindO (f e) λ(y:Bool)=>if y=true then some (.ret (.ret (i:Int)))else some (.go ())) (λ(v:Unit)=>some (.go ())) l 0 ())) λ(_:Unit)=>some (-1)) k=k (fxA p l 0):=by
 rw[aR hl,aD]
 have key:∀(l:List α) (i:Nat),(∀x∈l,f x=some (p x))→bindX (aI (λ(i:Nat) (e:α) (v:Unit)=>bindO (f e) λ(y:Bool)=>if y=true then some (.ret (.ret (i:Int)))else some (.go ())) (λ(v:Unit)=>some (.go ())) l i ()) (λ(_:Unit)=>some (-1))=some (fxA p l i):=by
  intro l
  induction l with
  | nil=>intro i _;rfl
  | cons x l ih =>
   intro i hf
   simp only[aI,hf x (by simp),ah,fxA]
   cases p x with
   | true=>rfl
   | false=>exact ih (i+1) (λy hy=>hf y (by simp[hy]))
 rw[key l 0 hf,ah]
theorem fxA_none{α:Type}{p:α→Bool}:∀(l:List α) (i:Nat),(∀x∈l,p x=false)→fxA p l i=-1
 | [],_,_=>rfl
 | x::l,i,h=>by rw[fxA,h x (by simp),if_neg (by simp)];exact fxA_none l (i+1) (λy hy=>h y (by simp[hy]))
theorem fxA_app{α:Type}{p:α→Bool}{x:α}{r:List α}(hx:p x=true):∀(l:List α) (i:Nat),(∀y∈l,p y=false)→fxA p (l++x::r) i=((i+l.length:Nat):Int)
 | [],i,_=>by simp[fxA,hx]
 | y::l,i,h=>by
  rw[zL,fxA,h y (by simp),if_neg (by simp),fxA_app hx l (i+1) (λz hz=>h z (by simp[hz])),zD]
  congr 1;omega
def mkV(b:aa):Bool:=letV b 79||(hasV b 77 30000||hasV b 77 99000)
theorem sp_marked_eq{b:aa}(hb:fewB b):dB b=some (mkV b):=by
 have hb':b.Words.length≤1000000:=by unfold fewB at hb;omega
 unfold dB mkV
 simp only[fg b _ hb',fV hb,ah,codes_let]
 rw[show (b.Words.any λw=>w.Letter==79)=letV b 79 from rfl]
 cases letV b 79<;>cases hasV b 77 30000<;>cases hasV b 77 99000<;>rfl
structure EndB (b:aa):Prop where
 few:fewB b
 o:letV b 79=false
 m:hasV b 77 30000=true
 r:hasV b 77 99000=false
structure FreeB (b:aa):Prop where
 few:fewB b
 o:letV b 79=false
 m:hasV b 77 30000=false
 r:hasV b 77 99000=false
theorem FreeB.mk'{b:aa}(h:FreeB b):mkV b=false:=by simp[mkV,h.o,h.m,h.r]
theorem ordered_c1{s:aE}(h:∀b∈s.Blocks,FreeB b)(hl:s.Blocks.length≤9223372036854775807):df s=some false:=by
 unfold df
 rw[ix_eq (p:=mkV) (f:=dB) _ s.Blocks hl (λb hb=>sp_marked_eq (h b hb).few),fxA_none _ _ (λb hb=>(h b hb).mk')]
 rfl
theorem cutT_app{α:Type}{l r:List α}:cutT (l++r) (l.length:Int)=some l:=by
 unfold cutT
 rw[if_neg (by simp;omega)];simp
theorem cutF_app{α:Type}{l r:List α}:cutF (l++r) (l.length:Int)=some r:=by
 unfold cutF
 rw[if_neg (by simp;omega)];simp
theorem gt_app{α:Type}{l r:List α}{x:α}:gt (l++x::r) (l.length:Int)=some x:=by
 unfold gt
 rw[if_neg (by omega)];simp
theorem ordered_eq{X:List aa}{E:aa}{S:List aE}(hX:∀b∈X,FreeB b)(hE:EndB E)(hS:∀s∈S,s.Blocks.length≤100000∧∀b∈s.Blocks,FreeB b)(hl:X.length≤100000)(hs:S.length≤100000):fK ⟨X++[E],S⟩=some true:=by
 have hw:IntKind.i64.wrap (((X++[E]).length:Int)-1)=(X.length:Int):=by rw[wrap_i64 (by simp only[zB,zR];omega) (by simp only[zB,zR];omega)];simp
 have hE':E.Words.length≤1000000:=by have:=hE.few;unfold fewB at this;omega
 have hco:decide (((fu E.Words 79).length:Int)>0)=false:=by rw[codes_let];exact hE.o
 unfold fK
 simp only[hw,decide_eq_false (show ¬(X.length:Int)<0 by omega),gt_app,ah,fV hE.few,hE.m,hE.r,fg E _ hE',hco,cutT_app,if_true,zA,if_false]
 rw[ix_eq (p:=mkV) (f:=dB) _ X (by omega) (λb hb=>sp_marked_eq (hX b hb).few),fxA_none _ _ (λb hb=>(hX b hb).mk')]
 simp only[ah,show decide ((-1:Int)≥0)=false from rfl,zA,if_false]
 rw[ix_eq (p:=λ_=>false) (f:=df) _ S (by omega) (λs hs'=>ordered_c1 (hS s hs').2 (by have:=(hS s hs').1;omega)),fxA_none _ _ (λ_ _=>rfl)]
 rfl
theorem repeated_nil:dL []=some false:=rfl
theorem repeated_one(s:aE):dL [s]=some false:=rfl
theorem clone_eq{l:List aa}(h:l.length≤100000):aC l=some l:=by unfold aC;rw[aZ (by omega),aD]
theorem split_c1{b:aa}(h:fewB b):dM b=some (hasV b 77 30000):=by unfold dM;rw[fV h,ah]
theorem split_plain{X:List aa}{E:aa}(hX:∀b∈X,FreeB b)(hE:EndB E)(hl:X.length≤1000):eS (X++[E])=some (⟨X++[E],[]⟩,0):=by
  unfold eS
  rw[ix_eq (p:=λb=>hasV b 77 30000) (f:=dM) _ (X++[E]) (by simp;omega) (λb hb=>by
    rcases List.mem_append.1 hb with hb | hb
    · exact split_c1 (hX b hb).few
    · simp at hb;subst hb;exact split_c1 hE.few),fxA_app (p:=λb=>hasV b 77 30000) hE.m X 0 (λb hb=>(hX b hb).m),kV]
  have hw:IntKind.i64.wrap ((X.length:Int)+1)=((X++[E]).length:Int):=by rw[wrap_i64 (by omega) (by omega)];simp
  have h1:cutT (X++[E]) ((X++[E]).length:Int)=some (X++[E]):=by have:=cutT_app (l:=X++[E]) (r:=[]);rwa [zF]at this
  have h2:cutF (X++[E]) ((X++[E]).length:Int)=some []:=by have:=cutF_app (l:=X++[E]) (r:=[]);rwa [zF]at this
  simp only[decide_eq_false (show ¬(X.length:Int)<0 by omega),zA,if_false,hw,h1,h2,ah,clone_eq (show (X++[E]).length≤100000 by simp;omega)]
  have hlp:∀{f:(List aa)×(List aE)→Option (Ex (Ex (aA×Int) (List aE)) ((List aa)×(List aE)))},f ([],[])=some (.ret (.go []))→loopX f fuel ([],[])=some (.go []):=by
    intro f hf
    unfold fuel
    rw[loopX,hf]
  rw[hlp rfl]
  simp only[kI]
  rw[ordered_eq hX hE (λs hs=>by simp at hs) (by omega) (by simp),ah,repeated_nil]
  rfl
def plnB(b:aa):Bool:=((b.Words.length:Int)==1)&&(!b.Skip&&(b.Comment==[]))
theorem split_c2{b:aa}(h:fewB b):eL b=some (plnB b&&hasV b 77 99000):=by
 unfold eL jL
 rw[ah,show ((((b.Words.length:Int)==1)&&(!b.Skip&&(b.Comment==[]))))=plnB b from rfl]
 cases plnB b with
 | true=>simp only[if_true,fV h,ah,Bool.true_and]
 | false=>rfl
theorem begin_mark{q:Int}(h1:1≤q)(h2:q≤9999):eX (markB 79 (1000*q))=some (q,true):=by
 have e1:Int.tdiv (1000*q) 1000=q:=by rw[kR (by omega)];omega
 have e2:Int.tmod (1000*q) 1000=0:=by rw[Int.tmod_eq_emod_of_nonneg (by omega)];omega
 unfold eX jL sp_whole
 simp only[markB,ah,show gt [ap.mk 79 (1000*q)] 0=some ⟨79,1000*q⟩ from rfl,e1,e2,wrap_i64 (show -9223372036854775808≤q by omega) (show q≤9223372036854775807 by omega),decide_eq_true (show q≥1 by omega),decide_eq_true (show q≤9999 by omega)]
 rfl
theorem split_fold {q : Int} (hq1 : 1 ≤ q) (hq2 : q ≤ 9999) {X Y : List aa} {E : aa} (hX : ∀ b ∈ X, FreeB b) (hE : EndB E) (hY : ∀ b ∈ Y, FreeB b) (hl : X.length ≤ 1000) (hl2 : Y.length ≤ 1000) :
    eS ((X++[E])++markB 79 (1000*q)::(Y++[markB 77 99000]))=some (⟨X++[E],[⟨q,Y⟩]⟩,0):=by
  have hO:fewB (markB 79 (1000*q)):=by simp[fewB,markB]
  have hR:fewB (markB 77 99000):=by simp[fewB,markB]
  unfold eS
  have hfew:∀b∈(X++[E])++markB 79 (1000*q)::(Y++[markB 77 99000]),fewB b:=by
    intro b hb
    simp only[zU,zI,zE,or_false]at hb
    rcases hb with (hb | rfl) | rfl | hb | rfl
    · exact (hX b hb).few
    · exact hE.few
    · exact hO
    · exact (hY b hb).few
    · exact hR
  rw[ix_eq (p:=λb=>hasV b 77 30000) (f:=dM) _ _ (by simp;omega) (λb hb=>split_c1 (hfew b hb)),zN X [E],List.singleton_append,fxA_app (p:=λb=>hasV b 77 30000) hE.m X 0 (λb hb=>(hX b hb).m),kV]
  have hw:IntKind.i64.wrap ((X.length:Int)+1)=((X++[E]).length:Int):=by rw[wrap_i64 (by omega) (by omega)];simp
  have ha:X++E::markB 79 (1000*q)::(Y++[markB 77 99000])=(X++[E])++(markB 79 (1000*q)::(Y++[markB 77 99000])):=by simp
  rw[ha]
  simp only[decide_eq_false (show ¬(X.length:Int)<0 by omega),zA,if_false,hw,cutT_app,cutF_app,ah,clone_eq (show (X++[E]).length≤100000 by simp;omega)]
  have hlp:∀{f:(List aa)×(List aE)→Option (Ex (Ex (aA×Int) (List aE)) ((List aa)×(List aE)))} {a b:List aa×List aE},f a=some (.go b)→f b=some (.ret (.go b.2))→loopX f fuel a=some (.go b.2):=by
    intro f a b h1 h2
    unfold fuel
    rw[loopX,h1]
    simp only
    rw[loopX,h2]
  rw[hlp (b:=([],[⟨q,Y⟩])) ?_ rfl]
  · simp only[kI]
    rw[ordered_eq hX hE (λs hs=>by simp at hs;subst hs;exact⟨by simp only;omega,hY⟩) (by omega) (by simp),ah,repeated_one]
    rfl
  · simp only[decide_eq_true (show (((markB 79 (1000*q)::(Y++[markB 77 99000])).length:Int)>0) by simp;omega),if_true]
    rw[show gt (markB 79 (1000*q)::(Y++[markB 77 99000])) 0=some (markB 79 (1000*q)) from rfl,ah,begin_mark hq1 hq2,ah]
    rw[ix_eq (p:=λb=>plnB b&&hasV b 77 99000) (f:=eL) _ _ (by simp;omega) (λb hb=>split_c2 (hfew b (List.mem_append.2 (.inr hb))))]
    rw[show markB 79 (1000*q)::(Y++[markB 77 99000])=(markB 79 (1000*q)::Y)++markB 77 99000::[] by simp,fxA_app (p:=λb=>plnB b&&hasV b 77 99000) (by rfl) _ 0 (λb hb=>by
      rcases List.mem_cons.1 hb with rfl | hb
      · rfl
      · simp[(hY b hb).r])]
    have hw2:IntKind.i64.wrap (((0+(markB 79 (1000*q)::Y).length:Nat):Int)+1)=(((markB 79 (1000*q)::Y)++[markB 77 99000]).length:Int):=by rw[wrap_i64 (by simp;omega) (by simp;omega)];simp
    have hc:cutL ((markB 79 (1000*q)::Y)++[markB 77 99000]) 1 ((0+(markB 79 (1000*q)::Y).length:Nat):Int)=some Y:=by
      unfold cutL
      rw[if_neg (by simp;omega)]
      simp
    have hc2:cutF ((markB 79 (1000*q)::Y)++[markB 77 99000]) (((markB 79 (1000*q)::Y)++[markB 77 99000]).length:Int)=some []:=by have:=cutF_app (l:=(markB 79 (1000*q)::Y)++[markB 77 99000]) (r:=[]);rwa [zF]at this
    simp only[decide_eq_false (show ¬((0+(markB 79 (1000*q)::Y).length:Nat):Int)<0 by omega),zV,Bool.or_self,zA,if_false,hc,ah,clone_eq (show Y.length≤100000 by omega),hw2,hc2,List.nil_append]
    rfl
def callR(q:Int)(c:Bool):Int×Int×Bool×Int:=if c=true then (q,1,true,0)else (0,0,false,0)
theorem concat1{M:List aa}(h:M.length≤1000):aO [M]=some M:=by
 unfold aO
 have h1:IntKind.i64.wrap (0+(M.length:Int))=(M.length:Int):=by rw[Int.zero_add,wrap_i64 (by omega) (by omega)]
 rw[aR (by simp),aD]
 simp only[aI,h1,decide_eq_false (show ¬((M.length:Int)<0) by omega),zA,if_false,ah,aD,decide_eq_true (show 0≤(M.length:Int)∧(M.length:Int)≤16777216 by omega),List.nil_append,kU,kV,aZ (show M.length≤_ by omega)]
theorem concat2{M Y:List aa}(h:M.length≤1000)(h2:Y.length≤1000):aO [M,Y]=some (M++Y):=by
 unfold aO
 have h1:IntKind.i64.wrap (0+(M.length:Int))=(M.length:Int):=by rw[Int.zero_add,wrap_i64 (by omega) (by omega)]
 have h3:IntKind.i64.wrap ((M.length:Int)+(Y.length:Int))=(M.length:Int)+(Y.length:Int):=by rw[wrap_i64 (by omega) (by omega)]
 rw[aR (by simp),aD]
 simp only[aI,h1,h3,decide_eq_false (show ¬((M.length:Int)<0) by omega),decide_eq_false (show ¬((M.length:Int)+(Y.length:Int)<0) by omega),zA,if_false,ah,aD,decide_eq_true (show 0≤(M.length:Int)+(Y.length:Int)∧(M.length:Int)+(Y.length:Int)≤16777216 by omega),List.nil_append,kU,kV,aZ (show M.length≤_ by omega),aZ (show M.length+Y.length≤_ by omega)]
theorem im{α:Type}{l:List α}{i:Nat}{x:α}(h:l[i]? = some x):l.take (i+1)=l.take i++[x]:=by rw[kZ,h];rfl
theorem mmI_maxB(a b:Int):mmI true a b=max a b:=by simp only[mmI];split<;>omega
theorem mmI_min(a b:Int):mmI false a b=min a b:=by simp only[mmI];split<;>omega
theorem expand_eq{q:Int}{M Y:List aa}{S:List aE}{cl:aa→Bool}(hp:gN ⟨M,S⟩=some true)(hS:(S=[]∧∀b∈M,cl b=false)∨S=[⟨q,Y⟩])
  (hM:∀b∈M,dN b=some (callR q (cl b))) (hY:∀b∈Y,dN b=some (callR q false)) (hl:M.length≤1000) (hl2:Y.length≤1000) (ht:(M.flatMap λb=>if cl b=true then Y else [b]).length≤10000)
  (hw:∀b∈M++Y,fewB b):eg ⟨M,S⟩=some (M.flatMap (λb=>if cl b=true then Y else [b]),0):=by
 obtain⟨SM,hSM⟩:∃SM:List (Int×List aa),(S=[]∧(∀b∈M,cl b=false)∧SM=[])∨(S=[⟨q,Y⟩]∧SM=[(q,Y)]):=by
  rcases hS with⟨h,h2⟩ | h
  ·exact⟨[],.inl ⟨h,h2,rfl⟩⟩
  ·exact⟨[(q,Y)],.inr ⟨h,rfl⟩⟩
 have hcl:∀b∈M,cl b=true→SM=[(q,Y)]:=by
  intro b hb h
  rcases hSM with⟨_,h2,_⟩|⟨_,h2⟩
  ·rw[h2 b hb]at h;cases h
  ·exact h2
 have htk:∀i,((M.take i).flatMap λb=>if cl b=true then Y else [b]).length≤10000:=by
  intro i
  have:=List.take_append_drop i M
  have h2:((M.take i).flatMap (λb=>if cl b=true then Y else [b])++(M.drop i).flatMap (λb=>if cl b=true then Y else [b])).length≤10000:=by rw[←zW,this];exact ht
  rw[zB]at h2;omega
 suffices h:Tot (eg ⟨M,S⟩) (λe=>e=(M.flatMap (λb=>if cl b=true then Y else [b]),0)) by
  obtain⟨e,h1,h2⟩:=h
  rw[h1,h2]
 unfold eg
 refine Tot.bind (E:=λv=>v.2.1=SM) (Tot.bind (E:=λv=>v.1=SM∧(mget v.2.2.1 q).getD 0=0∧(mget v.2.2.2 q).getD 0=((((mget SM q).getD []).length:Nat):Int)) ?_ (λv hv=>?_)) (λv hv=>?_)
 ·rw[hp,ah]
  simp only[zV,zA,if_false]
  refine Tot.bind (E:=λv=>v.2=SM∧∃W,aO v.1=some W∧W.length≤2000∧∀b∈W,∃c,dN b=some (callR q c)∧(c=true→SM=[(q,Y)])) ?_ (λv2 h2=>?_)
  ·rcases hSM with⟨rfl,hn,rfl⟩|⟨rfl,rfl⟩
   ·exact⟨_,rfl,rfl,M,concat1 hl,by omega,λb hb=>⟨_,hM b hb,hcl b hb⟩⟩
   ·refine⟨_,rfl,rfl,M++Y,concat2 hl hl2,by simp;omega,λb hb=>?_⟩
    rcases List.mem_append.1 hb with hb | hb
    ·exact⟨_,hM b hb,hcl b hb⟩
    ·exact⟨false,hY b hb,λh=>by cases h⟩
  ·obtain⟨e2,W,hW,hWl,hWc⟩:=h2
   rw[hW,ah,e2]
   refine Tot.bindX (E:=λv=>v.length≤2000∧∀n∈v,n=q∧SM=[(q,Y)]) (TotX.guard (aR (by omega)) (TotX.of (Tot.range (λi v=>v.length≤i∧∀n∈v,n=q∧SM=[(q,Y)]) _ ⟨by simp,by simp⟩ (λi b v hb hv=>?_) (λv hv=>.ok ⟨by have:=hv.1;omega,hv.2⟩)))) (λv5 h5=>?_)
   ·obtain⟨c,hc,hc2⟩:=hWc b (List.mem_of_getElem? hb)
    have hi:=aq hb
    rw[hc,ah]
    cases c with
    | false=>exact TotX.go ⟨by omega,hv.2⟩
    | true =>
     refine TotX.bindX (E:=λu=>u=v++[q]) (TotX.guard (aZ (by omega)) (TotX.go rfl)) (λu hu=>TotX.go ?_)
     subst hu
     refine⟨by simp;omega,λn hn=>?_⟩
     rcases List.mem_append.1 hn with hn | hn
     ·exact hv.2 n hn
     ·simp at hn;exact⟨hn,hc2 rfl⟩
   ·refine Tot.bindX (E:=λ_=>True) (TotX.guard (aR (by omega)) (TotX.of (Tot.range (λ_ _=>True) _ trivial (λi n v hn _=>?_) (λv _=>.ok trivial)))) (λv7 _=>?_)
    ·obtain⟨h1,h2⟩:=h5.2 n (List.mem_of_getElem? hn)
     rw[h1,h2]
     simp only[mget,beq_self_eq_true,if_true,Option.isSome_some,zV,zA,if_false]
     exact TotX.go trivial
    ·rcases hSM with⟨rfl,hn,rfl⟩|⟨rfl,rfl⟩
     ·exact⟨_,rfl,rfl,rfl,rfl⟩
     ·refine Tot.bindX (E:=λv=>(mget v.2.1 q).getD 0=0∧(mget v.2.2 q).getD 0=(Y.length:Int)) (TotX.guard rfl (TotX.of (Tot.range (λi v=>(i=0→v=([],[],[]))∧(1≤i→(mget v.2.1 q).getD 0=0∧(mget v.2.2 q).getD 0=(Y.length:Int))) _ ⟨λ_=>rfl,λh=>by omega⟩ (λi s v hs hv=>?_) (λv hv=>.ok (hv.2 (by simp)))))) (λv hv=>⟨_,rfl,rfl,hv.1,by show _=((((mget [(q,Y)] q).getD []).length:Nat):Int);rw[show mget [(q,Y)] q=some Y by simp[mget]];exact hv.2⟩)
      have hi:=aq hs
      simp only[zR]at hi
      have h0:i=0:=by omega
      subst h0
      have hv0:=hv.1 rfl
      subst hv0
      simp only[List.getElem?_cons_zero,Option.some.injEq]at hs
      subst hs
      simp only[mget,Option.getD_none,show ((0:Int)==1)=false from rfl,show ((0:Int)==2)=false from rfl,zA,if_false,show (q==q)=true from beq_self_eq_true q,if_true,Option.getD_some]
      refine TotX.bind (E:=λv=>v.1=true∧(mget v.2.2.1 q).getD 0=0∧(mget v.2.2.2 q).getD 0=(Y.length:Int)) ?_ (λv hv=>?_)
      ·refine Tot.bind (E:=λ_=>True) (Tot.guard (aR (by omega)) (Tot.range (λ_ _=>True) _ trivial (λi b v hb _=>?_) (λv _=>.ok trivial))) (λ_ _=>?_)
       ·rw[hY b (List.mem_of_getElem? hb),ah]
        exact TotX.go trivial
       ·refine Tot.bind (E:=λv=>v=(0,(Y.length:Int))) (Tot.bind (E:=λv=>v=(0,(Y.length:Int))) (Tot.guard (aR (by omega)) (Tot.range (λi v=>v=(0,(i:Int))) _ rfl (λi b v hb hv=>?_) (λv hv=>.ok hv))) (λv hv=>.ok (by rw[hv]))) (λv hv=>.ok ?_)
        ·subst hv
         have hi:=aq hb
         rw[hY b (List.mem_of_getElem? hb),ah]
         have e1:IntKind.i64.wrap ((i:Int)+1)=(i:Int)+1:=by rw[wrap_i64 (by omega) (by omega)]
         refine TotX.go ?_
         simp only[callR,zA,if_false,e1,mmI_min,Prod.mk.injEq,true_and]
         omega
        ·subst hv
         exact⟨rfl,by simp[mput,mget],by simp[mput,mget]⟩
      ·rw[hv.1]
       exact TotX.go ⟨λh=>by omega,λ_=>hv.2⟩
 ·obtain⟨h1,h2,h3⟩:=hv
  refine Tot.bind (E:=λv=>v.1≤1∧v.2≤10000) (Tot.bind (E:=λv=>v.1≤1∧v.2≤10000) (Tot.guard (aR (by simp only;omega)) (Tot.range (λi v=>(0≤v.1∧v.1≤1)∧v.2=((((M.take i).flatMap λb=>if cl b=true then Y else [b]).length:Nat):Int)) _ ⟨⟨by simp,by simp⟩,by simp⟩ (λi b v hb hv=>?_) (λv hv=>.ok ?_))) (λv hv=>.ok hv)) (λv hv=>?_)
  ·have hbm:=List.mem_of_getElem? hb
   have hti:=htk (i+1)
   have hti0:=htk i
   rw[im hb,zW]at hti
   simp only[zO,kP,zF,zB]at hti
   rw[hM b hbm,ah]
   cases hc:cl b with
   | false =>
    refine TotX.go ⟨hv.1,?_⟩
    rw[im hb,zW,hv.2]
    simp only[callR,hc,zA,if_false,mmI_min,zO,kP,zF,zB,zR]
    rw[wrap_i64 (by omega) (by omega),Int.min_eq_left (by omega)]
    omega
   | true =>
    have hsm:=hcl b hbm hc
    rw[hsm]at h3
    simp only[mget,show (q==q)=true from beq_self_eq_true q,if_true,Option.getD_some]at h3
    rw[hc,if_pos rfl]at hti
    refine TotX.go ?_
    simp only[callR,if_true,zV,zA,if_false,h2,h3,mmI_min,mmI_maxB]
    rw[im hb,zW,hv.2]
    simp only[hc,if_true,zO,kP,zF,zB]
    rw[wrap_i64 (n:=1+0) (by omega) (by omega),wrap_i64 (n:=1*(Y.length:Int)) (by omega) (by omega),wrap_i64 (by omega) (by omega)]
    have:=hv.1
    refine⟨⟨by omega,by omega⟩,by omega⟩
  ·rw[kK]at hv
   simp only at hv
   exact⟨hv.1.2,by rw[hv.2];omega⟩
  ·refine Tot.ite (λq=>?_) (λ_=>.ok h1)
   exfalso
   simp at q
   omega
 ·refine Tot.bind (E:=λv=>v.1=M.flatMap λb=>if cl b=true then Y else [b]) (Tot.bind (E:=λv=>v.1=M.flatMap λb=>if cl b=true then Y else [b]) (Tot.guard (aR (by simp only;omega)) (Tot.range (λi v=>(v.1=(M.take i).flatMap λb=>if cl b=true then Y else [b])∧(v.2=[]∨v.2=[(q,Y)])) _ ⟨by simp,.inl rfl⟩ (λi b v2 hb hv2=>?_) (λv hv=>.ok (by rw[hv.1,kK])))) (λv hv=>.ok hv)) (λv2 hv2=>?_)
  ·have hbm:=List.mem_of_getElem? hb
   have hti:=htk (i+1)
   have hti0:=htk i
   rw[im hb,zW]at hti
   simp only[zO,kP,zF,zB]at hti
   rw[hM b hbm,ah]
   obtain⟨e1,e2⟩:=hv2
   rw[im hb,zW]
   simp only[zO,kP,zF]
   cases hc:cl b with
   | false =>
    simp only[callR,zX,if_true,zA,if_false]
    rw[←e1]at hti0 ⊢
    rw[aZ (by omega),aD,ah]
    exact TotX.go ⟨rfl,e2⟩
   | true =>
    have hsm:=hcl b hbm hc
    simp only[callR,zV,if_true,zA,if_false,hv,hsm]
    rw[hc,if_pos rfl,←e1]at hti
    rw[←e1]
    refine TotX.bind (E:=λu=>u.1=v2.1++Y∧u.2=[(q,Y)]) (Tot.bind (E:=λu=>u.1=Y∧u.2=[(q,Y)]) ?_ (λu hu=>?_)) (λu hu=>TotX.go ⟨hu.1,.inr hu.2⟩)
    ·rcases e2 with e2 | e2
     ·rw[e2]
      simp only[mget,Option.isSome_none,zX,if_true,show (q==q)=true from beq_self_eq_true q,Option.getD_some]
      refine Tot.bind (E:=λu=>u=Y) (Tot.bind (E:=λu=>u=Y) (Tot.guard (aR (by omega)) (Tot.range (λj u=>u=Y.take j) _ rfl (λj c u hj hu=>?_) (λu hu=>.ok (by rw[hu,kK])))) (λu hu=>.ok hu)) (λu hu=>.ok ⟨hu,by rw[hu];rfl⟩)
      subst hu
      rw[hY c (List.mem_of_getElem? hj),ah]
      simp only[callR,zA,if_false,zX,if_true]
      rw[aZ (by simp;omega),aD,ah,im hj]
      exact TotX.go rfl
     ·rw[e2]
      simp only[mget,beq_self_eq_true,if_true,Option.isSome_some,Option.getD_some,zV,zA,if_false]
      exact .ok ⟨rfl,rfl⟩
    ·obtain⟨u1,u2⟩:=hu
     rw[u1,u2]
     refine Tot.ite (λq=>.ok ⟨?_,rfl⟩) (λ_=>?_)
     ·have:Y.length=0:=by simpa using q
      rw[List.length_eq_zero_iff.1 this,zF]
     ·have hlp:∀{f:(List aa)×Int→Option (Ex ((List aa)×(List (Int×(List aa)))) ((List aa)×Int))} {a b:List aa×Int} {r:(List aa)×(List (Int×(List aa)))},f a=some (.go b)→f b=some (.ret r)→loopX f fuel a=some r:=by
       intro f a b r h1 h2
       unfold fuel
       rw[loopX,h1]
       simp only
       rw[loopX,h2]
      refine⟨(v2.1++Y,[(q,Y)]),hlp (b:=(v2.1++Y,1)) ?_ ?_,rfl,rfl⟩
      ·simp only[show decide ((0:Int)<1)=true from rfl,if_true]
       rw[aZ (by omega),aD]
       rfl
      ·rfl
  ·rw[hv2]
   refine Tot.bind (E:=λu=>u=M.flatMap λb=>if cl b=true then Y else [b]) (Tot.guard (aR (by omega)) (Tot.range (λi u=>u=(M.flatMap λb=>if cl b=true then Y else [b]).take i) _ rfl (λi b u hb hu=>?_) (λu hu=>.ok (by rw[hu,kK])))) (λu hu=>.ok (by rw[hu]))
   subst hu
   have hi:=aq hb
   have hbf:fewB b:=by
    obtain⟨c,hc1,hc2⟩:=List.mem_flatMap.1 (List.mem_of_getElem? hb)
    split at hc2
    ·exact hw b (List.mem_append.2 (.inr hc2))
    ·simp at hc2;subst hc2;exact hw _ (List.mem_append.2 (.inl hc1))
   unfold fewB at hbf
   unfold aX
   rw[aZ (by omega),aD,ah,aZ (by simp;omega),aD,im hb]
   exact TotX.go rfl
def StdB(b:aa):Prop:=b.Words.length≤7∧∀w∈b.Words,w.Letter≠78∧w.Letter≠79∧(w.Letter=77→w.Value=6000)
def endBB:aa:=markB 77 30000
theorem any_not{l:List ap}{q:ap→Bool}(h:∀w∈l,q w=false):l.any q=false:=by
 rw[List.any_eq_false]
 intro w hw
 simp[h w hw]
theorem StdB.has{b:aa}(h:StdB b){n:Int}(hn:n≠6000):hasV b 77 n=false:=any_not λw hw=>by
 by_cases e:w.Letter=77
 ·have:=(h.2 w hw).2.2 e
  simp[e,this];omega
 ·simp[e]
theorem StdB.let{b:aa}(h:StdB b):letV b 79=false∧letV b 78=false:=⟨any_not λw hw=>by simp[(h.2 w hw).2.1],any_not λw hw=>by simp[(h.2 w hw).1]⟩
theorem moves_ret:∀(l:List ay) (p:ae) (e:Int),ce p l=.ret e→e≠0
 | [],p,e,h=>by cases h
 | m::r,p,e,h=>by
  rw[ce]at h
  split at h
  ·cases hm:ce m.To r with
   | ret e'=>rw[hm]at h;simp only at h;injection h with h;subst h;exact moves_ret r _ _ hm
   | go v=>rw[hm]at h;cases h
  ·rename_i q;injection h with h;rw[←h];exact q
theorem jJ:∀(l:List aW) (p:ae) (e:Int),bO p l=.ret e→e≠0
 | [],p,e,h=>by cases h
 | s::r,p,e,h=>by
  rw[bO]at h
  split at h
  ·cases hm:ce p s.Moves with
   | ret e'=>rw[hm]at h;simp only at h;injection h with h;subst h;exact moves_ret _ _ _ hm
   | go v =>
    rw[hm]at h
    simp only at h
    cases hr:bO v.2 r with
    | ret e'=>rw[hr]at h;simp only at h;injection h with h;subst h;exact jJ r _ _ hr
    | go u=>rw[hr]at h;cases h
  ·rename_i q;injection h with h;rw[←h];exact q
theorem std_plain{l:List aW}{p:ae}{w:Int}(hl:di l)(hp:okPos p)(hg:grp w=3)(h0:(bj l p w).2=0):∃X,(bj l p w).1=X++[endBB]∧∀b∈X,StdB b:=by
 obtain⟨_,hgood⟩:=jP hl hp hg
 revert hgood
 unfold bj at h0 ⊢
 split at h0
 ·simp at h0
 ·rename_i hc
  rw[if_neg hc]
  cases hs:bO p l with
  | ret e =>
   rw[hs]at h0
   simp only at h0
   exact absurd h0 (jJ _ _ _ hs)
  | go v =>
   intro hgood
   obtain⟨h1,h2⟩:=jK l p v hs hp hl.2
   refine⟨headB w++v.1++[⟨false,[⟨71,49000⟩],[]⟩],by simp[tailB,endBB,markB],λb hb=>?_⟩
   have hlen:b.Words.length≤7:=(hgood b (by simp only[zU,tailB,zI,zE,or_false]at hb ⊢;rcases hb with (h | h) | h<;>simp[h])).2.2
   refine⟨hlen,?_⟩
   simp only[zU]at hb
   rcases hb with (q | q) | q
   ·simp only[headB,zI,zE,or_false]at q
    subst q
    intro x hx
    simp only[zI,zE,or_false]at hx
    rcases hx with rfl | rfl | rfl | rfl | rfl<;>simp
   ·rcases h2 b q with⟨q1,m1,_,a2,rfl⟩|⟨n,a1,a2⟩
    ·intro x hx
     unfold movB at hx
     split at hx
     ·simp at hx
     ·split at hx
      ·simp at hx
      ·unfold movW at hx
       simp only[zU]at hx
       rcases hx with (hx | hx) | hx
       ·simp only[zI,zE,or_false]at hx
        rcases hx with rfl | rfl | rfl | rfl<;>simp
       ·split at hx
        ·simp only[zI,zE,or_false]at hx
         rcases hx with rfl | rfl<;>simp
        ·simp at hx
       ·split at hx
        ·simp at hx
        ·simp only[zI,zE,or_false]at hx
         subst hx;simp
    ·unfold chgV at a1 a2
     split at a1
     ·omega
     ·rename_i hn
      rw[if_neg hn]at a2
      simp only[chgB,zI,zE,or_false]at a2
      intro x hx
      rcases a2 with rfl | rfl<;>(simp only[zI,zE,or_false]at hx;rcases hx with rfl | rfl<;>simp)
   ·simp only[zI,zE,or_false]at q
    subst q
    intro x hx
    simp only[zI,zE,or_false]at hx
    subst hx;simp
theorem cmp_std:∀(X:List aa) (s:ak),(∀b∈X,StdB b)→∃Y,cmpV s (X++[endBB])=Y++[endBB]∧∀b∈Y,StdB b
 | [],s,_=>⟨[],by simp[cmpV,cmpB,endBB,markB,idleW],by simp⟩
 | c::r,s,h=>by
  obtain⟨Y,e,hY⟩:=cmp_std r (c.Words.foldl putW s) (λb hb=>h b (by simp[hb]))
  refine⟨cmpB s c++Y,by rw[zL,cmpV,e,zN],λb hb=>?_⟩
  rcases List.mem_append.1 hb with q | q
  ·unfold cmpB at q
   split at q
   ·simp only[zI,zE,or_false]at q
    subst q
    have hc:=h c (by simp)
    refine⟨?_,λw hw=>hc.2 w (List.mem_filter.1 hw).1⟩
    have h1:=List.length_filter_le (λw=>!idleW s w) c.Words
    have:=hc.1
    simp only;omega
   ·simp at q
  ·exact hY b q
theorem base_std{l:List aW}{p:ae}{w:Int}{c:Bool}(hl:di l)(hp:okPos p)(hg:grp w=3)(h0:(bj l p w).2=0):∃X,(if c=true then cmpV newS (bj l p w).1 else (bj l p w).1)=X++[endBB]∧X.length≤130∧∀b∈X,StdB b:=by
 obtain⟨X,hX,hs⟩:=std_plain hl hp hg h0
 have hlen:=(jP hl hp hg).1
 cases c with
 | false =>
  refine⟨X,by simpa using hX,?_,hs⟩
  rw[hX]at hlen;simp at hlen;omega
 | true =>
  rw[hX]
  obtain⟨Y,e,hY⟩:=cmp_std X newS hs
  refine⟨Y,by simpa using e,?_,hY⟩
  have h2:=cmpV_len (X++[endBB]) newS
  rw[e]at h2
  rw[hX]at hlen
  simp at hlen h2;omega
def Num(b' b:aa):Prop:=b'=b∨((letV b 79=false∧hasV b 77 99000=false)∧∃v,b'=⟨b.Skip,[⟨78,v⟩]++b.Words,b.Comment⟩)
inductive NumL:List aa→List aa→Prop
 | nil:NumL [] []
 | cons {b' b:aa} {A X:List aa} (h:Num b' b) (t:NumL A X):NumL (b'::A) (b::X)
theorem NumL.refl:∀X:List aa,NumL X X
 | []=>.nil
 | _::X=>.cons (.inl rfl) (NumL.refl X)
theorem NumL.of(n:Int):∀(l:List aa) (k:Int),NumL (numV n k l) l
 | [],_=>.nil
 | b::r,k=>by
  rw[numV]
  refine .cons ?_ (NumL.of n r _)
  unfold numB
  split
  ·rename_i h
   simp only[zH,Bool.not_eq_true']at h
   exact .inr ⟨h,_,rfl⟩
  ·exact .inl rfl
theorem NumL.split:∀(X:List aa) {A Y:List aa},NumL A (X++Y)→∃A1 A2,A=A1++A2∧NumL A1 X∧NumL A2 Y
 | [],A,Y,h=>⟨[],A,rfl,.nil,h⟩
 | x::X,A,Y,h=>by
  cases h with
  | cons h1 t =>
   obtain⟨A1,A2,e,g1,g2⟩:=NumL.split X t
   exact⟨_::A1,A2,by rw[e];rfl,.cons h1 g1,g2⟩
theorem NumL.one{A:List aa}{x:aa}(h:NumL A [x]):∃y,A=[y]∧Num y x:=by
 cases h with
 | cons h1 t=>cases t with | nil=>exact⟨_,rfl,h1⟩
theorem NumL.mem{A X:List aa}(h:NumL A X):∀b'∈A,∃b∈X,Num b' b:=by
 induction h with
 | nil=>intro b hb;simp at hb
 | cons h1 t ih =>
  intro b hb
  rcases List.mem_cons.1 hb with rfl | hb
  ·exact⟨_,by simp,h1⟩
  ·obtain⟨c,hc,hn⟩:=ih b hb
   exact⟨c,by simp[hc],hn⟩
theorem NumL.len{A X:List aa}(h:NumL A X):A.length=X.length:=by
 induction h with
 | nil=>rfl
 | cons h1 t ih=>simp[ih]
theorem Num.has{b' b:aa}(h:Num b' b){x:Int}:hasV b' 77 x=hasV b 77 x:=by
 rcases h with rfl | ⟨_,v,rfl⟩
 ·rfl
 ·simp[hasV]
theorem Num.let{b' b:aa}(h:Num b' b):letV b' 79=letV b 79:=by
 rcases h with rfl | ⟨_,v,rfl⟩
 ·rfl
 ·simp[letV]
theorem Num.len{b' b:aa}(h:Num b' b)(hl:b.Words.length≤7):b'.Words.length≤8:=by
 rcases h with rfl | ⟨_,v,rfl⟩
 ·omega
 ·simp;omega
def bareB(b:aa):aa:=⟨b.Skip,b.Words.filter (λw=>w.Letter != 78),b.Comment⟩
theorem Num.bare{b' b:aa}(h:Num b' b):bareB b'=bareB b:=by
 rcases h with rfl | ⟨_,v,rfl⟩
 ·rfl
 ·simp[bareB]
theorem Num.free{b' b:aa}(h:Num b' b)(hs:StdB b∨b=callB):FreeB b':=by
 rcases hs with hs | rfl
 ·exact⟨by have:=h.len hs.1;unfold fewB;omega,by rw[h.let];exact hs.let.1,by rw[h.has];exact hs.has (by omega),by rw[h.has];exact hs.has (by omega)⟩
 ·exact⟨by have:=h.len (by simp[callB]);unfold fewB;omega,by rw[h.let];rfl,by rw[h.has];rfl,by rw[h.has];rfl⟩
theorem Num.end{b':aa}(h:Num b' endBB):EndB b':=⟨by have:=h.len (by simp[endBB,markB]);unfold fewB;omega,by rw[h.let];rfl,by rw[h.has];rfl,by rw[h.has];rfl⟩
theorem call_no{q:Int}{b:aa}(hf:fewB b)(h:hasV b 77 98000=false):dN b=some (callR q false):=by
 unfold dN
 rw[fV hf,ah,h];rfl
theorem call_yes{b':aa}(h:Num b' callB):dN b'=some (callR 1000 true):=by
 have hf:fewB b':=by have:=h.len (by simp[callB]);unfold fewB;omega
 have hh:hasV b' 77 98000=true:=by rw[h.has];rfl
 unfold dN
 rw[fV hf,ah,hh]
 rcases h with rfl | ⟨_,v,rfl⟩
 ·rfl
 ·rfl
theorem proper_q{q:Int}(h1:1≤q)(h2:q≤9999){X:List aa}{E:aa}{S:List aE}(hX:∀b∈X,FreeB b)(hE:EndB E)(hl:X.length≤1000)(hS:S=[]∨∃Y:List aa,S=[⟨q,Y⟩]∧Y.length≤1000∧∀b∈Y,FreeB b):gN ⟨X++[E],S⟩=some true:=by
 have hS2:S.length≤1∧∀s∈S,s.Blocks.length≤1000∧(∀b∈s.Blocks,FreeB b)∧s.Number=q:=by
  rcases hS with rfl | ⟨Y,rfl,a,b⟩
  ·exact⟨by simp,λs hs=>by simp at hs⟩
  ·refine⟨by simp,λs hs=>?_⟩
   simp at hs;subst hs
   exact⟨a,b,rfl⟩
 unfold gN
 have ho:=ordered_eq hX hE (S:=S) (λs hs=>⟨by have:=(hS2.2 s hs).1;omega,(hS2.2 s hs).2.1⟩) (by omega) (by omega)
 have hr:∀{f:Nat→aE→Unit→Option (Ex (Ex Bool Unit) Unit)} (l:List aE) (i:Nat),(∀i s,s∈l→f i s ()=some (.go ()))→aI f (λ_=>some (.go ())) l i ()=some (.go ()):=by
  intro f l
  induction l with
  | nil=>intro i _;rfl
  | cons x l ih =>
   intro i hf
   simp only[aI,hf i x (by simp)]
   exact ih (i+1) (λj s hs=>hf j s (by simp[hs]))
 dsimp only
 have hrep:dL S=some false:=by
  rcases hS with rfl | ⟨Y,rfl,_,_⟩
  ·exact repeated_nil
  ·exact repeated_one _
 rw[aR (by omega),aD,hr S 0 (λi s hs=>by
  have:=(hS2.2 s hs).2.2
  rw[this,decide_eq_false (by omega),decide_eq_false (by omega)];rfl)]
 rw[bindX_go,ho,ah,if_pos rfl,hrep]
 rfl
theorem run_at{X:List aa}{n a i:Nat}(hr:runBB (X++[endBB]) n a i=true)(hn:1≤n)(hi:i+n≤X.length+1):i+n≤X.length∧((X++[endBB]).drop a).take n=(X.drop i).take n:=by
 have h:=runB_iff.1 hr
 have hi2:i+n≤X.length:=by
  rcases zM X.length (i+n)with q | q
  ·exfalso
   obtain⟨b,_,h2,h3⟩:=h (n-1) (by omega)
   rw[show i+(n-1)=X.length by omega]at h2
   simp at h2
   subst h2
   exact absurd h3 (by decide)
  ·exact q
 refine⟨hi2,?_⟩
 apply List.ext_getElem?
 intro j
 rw[List.getElem?_take,List.getElem?_take]
 by_cases hj:j<n
 ·rw[if_pos hj,if_pos hj,List.getElem?_drop,List.getElem?_drop]
  obtain⟨b,h1,h2,_⟩:=h j hj
  rw[h1,←h2,List.getElem?_append_left (by omega)]
 ·rw[if_neg hj,if_neg hj]
theorem call_has:hasV callB 77 98000=true:=by rfl
theorem foldM_std{X Y:List aa}{n a:Nat}(hX:∀b∈X,StdB b)(hn:1≤n)(hY:Y=((X++[endBB]).drop a).take n):∀(f i:Nat),i≤X.length→X.length+1-i≤f→∃Z,foldM (X++[endBB]) n a f i=Z++[endBB]∧(∀b∈Z,StdB b∨b=callB)∧(Z.flatMap λb=>if hasV b 77 98000=true then Y else [b])=X.drop i
 | 0,i,hi,hf=>by omega
 | f+1,i,hi,hf=>by
  rw[foldM]
  have hsome:(X++[endBB])[i]? = some ((X++[endBB])[i]'(by simp;omega)):=List.getElem?_eq_getElem _
  obtain⟨x,hx⟩:∃x,(X++[endBB])[i]? = some x:=⟨_,hsome⟩
  rw[hx]
  simp only
  by_cases hr:(decide (i+n≤(X++[endBB]).length)&&runBB (X++[endBB]) n a i)=true
  ·rw[if_pos hr]
   simp only[zH,decide_eq_true_eq]at hr
   obtain⟨h1,h2⟩:=run_at hr.2 hn (by have:=hr.1;simp at this;omega)
   obtain⟨Z,g1,g2,g3⟩:=foldM_std hX hn hY f (i+n) h1 (by omega)
   refine⟨callB::Z,by rw[g1];rfl,λb hb=>?_,?_⟩
   ·rcases List.mem_cons.1 hb with rfl | hb
    ·exact .inr rfl
    ·exact g2 b hb
   ·rw[zO,g3,call_has,if_pos rfl,hY,h2,←kY,List.take_append_drop]
  ·rw[if_neg hr]
   rcases zM i X.length with q | q
   ·obtain⟨Z,g1,g2,g3⟩:=foldM_std hX hn hY f (i+1) q (by omega)
    rw[List.getElem?_append_left q]at hx
    have hxm:=hX x (List.mem_of_getElem? hx)
    refine⟨x::Z,by rw[g1];rfl,λb hb=>?_,?_⟩
    ·rcases List.mem_cons.1 hb with rfl | hb
     ·exact .inl hxm
     ·exact g2 b hb
    ·rw[zO,g3,hxm.has (by omega),if_neg (by simp),zQ q]
     rw[List.getElem?_eq_getElem q]at hx
     injection hx with hx
     rw[hx];rfl
   ·obtain rfl:i=X.length:=by omega
    simp at hx
    subst hx
    refine⟨[],by rw[foldM_end (by simp)];rfl,by simp,by simp⟩
theorem foldJ_std{X:List aa}{n:Nat}(hX:∀b∈X,StdB b)(hn:1≤n):(atV (X++[endBB]) n=none∧foldJ (X++[endBB]) n=X++[endBB]) ∨
  ∃Z Y,foldJ (X++[endBB]) n=(Z++[endBB])++markB 79 (1000*1000)::(Y++[markB 77 99000])∧(∀b∈Z,StdB b∨b=callB)∧(∀b∈Y,StdB b)∧(Z.flatMap λb=>if hasV b 77 98000=true then Y else [b])=X∧Y.length≤X.length:=by
 unfold foldJ
 cases ha:atV (X++[endBB]) n with
 | none=>exact .inl ⟨rfl,rfl⟩
 | some a =>
  right
  have h4:=atV_run ha
  simp at h4
  have hYX:((X++[endBB]).drop a).take n=(X.drop a).take n:=by
   rw[List.drop_append_of_le_length (by omega),List.take_append_of_le_length (by simp;omega)]
  obtain⟨Z,g1,g2,g3⟩:=foldM_std hX hn (Y:=((X++[endBB]).drop a).take n) (a:=a) rfl (X++[endBB]).length 0 (by omega) (by simp)
  refine⟨Z,((X++[endBB]).drop a).take n,by simp only[g1];simp,g2,λb hb=>?_,by simpa using g3,by rw[hYX];simp;omega⟩
  rw[hYX]at hb
  exact hX b (List.mem_of_mem_drop (List.mem_of_mem_take hb))
theorem NumL.app{A X B Y:List aa}(h:NumL A X)(h2:NumL B Y):NumL (A++B) (X++Y):=by
 induction h with
 | nil=>exact h2
 | cons h1 t ih=>exact .cons h1 ih
theorem num_flat{Y Y':List aa}(hY:NumL Y' Y){A Z:List aa}(h:NumL A Z):NumL (A.flatMap λb=>if hasV b 77 98000=true then Y' else [b]) (Z.flatMap λb=>if hasV b 77 98000=true then Y else [b]):=by
 induction h with
 | nil=>exact .nil
 | cons h1 t ih =>
  rw[zO,zO,h1.has]
  refine NumL.app ?_ ih
  split
  ·exact hY
  ·exact .cons h1 .nil
theorem round {X A : List aa} {n : Nat} (hX : ∀ b ∈ X, StdB b) (hl : X.length ≤ 130) (hn : n = 0 ∨ 1 ≤ n) (hA : NumL A (if n = 0 then X ++ [endBB] else foldJ (X ++ [endBB]) n)) (hAl : A.length ≤ 300) :
    ∃p l,eS A=some (p,0)∧eg p=some (l,0)∧NumL l (X++[endBB])∧∀b∈l,b∈A:=by
  have plainC:NumL A (X++[endBB])→∃p l,eS A=some (p,0)∧eg p=some (l,0)∧NumL l (X++[endBB])∧∀b∈l,b∈A:=by
    intro h
    obtain⟨A1,A2,rfl,h1,h2⟩:=h.split
    obtain⟨E,rfl,hE⟩:=h2.one
    have hf:∀b∈A1,FreeB b:=λb hb=>by
      obtain⟨c,hc,hn⟩:=h1.mem b hb
      exact hn.free (.inl (hX c hc))
    have hno:∀b∈A1++[E],hasV b 77 98000=false:=λb hb=>by
      rcases List.mem_append.1 hb with hb | hb
      · obtain⟨c,hc,hn⟩:=h1.mem b hb
        rw[hn.has];exact (hX c hc).has (by omega)
      · simp at hb;subst hb;rw[hE.has];rfl
    have hfew:∀b∈A1++[E],fewB b:=λb hb=>by
      rcases List.mem_append.1 hb with hb | hb
      · exact (hf b hb).few
      · simp at hb;subst hb;exact hE.end.few
    have hlen:A1.length≤300:=by simp at hAl;omega
    have hex:=expand_eq (q:=1000) (M:=A1++[E]) (Y:=[]) (S:=[]) (cl:=λ_=>false) (proper_q (q:=1000) (by omega) (by omega) hf hE.end (by omega) (.inl rfl)) (.inl ⟨rfl,λ_ _=>rfl⟩) (λb hb=>call_no (hfew b hb) (hno b hb)) (λb hb=>by simp at hb) (by omega) (by simp) (by simp;omega) (λb hb=>hfew b (by simpa using hb))
    have hfm:((A1++[E]).flatMap λb=>if false=true then []else [b])=A1++[E]:=by simp
    rw[hfm]at hex
    exact⟨_,_,split_plain hf hE.end (by omega),hex,NumL.app h1 (.cons hE .nil),λb hb=>hb⟩
  rcases hn with rfl | hn
  · exact plainC (by simpa using hA)
  · rw[if_neg (by omega)]at hA
    rcases foldJ_std hX hn with⟨_,h2⟩|⟨Z,Y,h2,hZ,hY,hflat,hYl⟩
    · rw[h2]at hA;exact plainC hA
    · rw[h2]at hA
      obtain⟨A1,A2,rfl,h3,h4⟩:=hA.split
      obtain⟨A3,A4,rfl,h5,h6⟩:=h3.split
      obtain⟨E,rfl,hE⟩:=h6.one
      cases h4 with
      | cons hO h7 =>
        obtain⟨A5,A6,rfl,h8,h9⟩:=h7.split
        obtain⟨R,rfl,hR⟩:=h9.one
        have eO:_=markB 79 (1000*1000):=hO.resolve_right (by rintro⟨⟨q,_⟩,_⟩;exact absurd q (by decide))
        have eR:R=markB 77 99000:=hR.resolve_right (by rintro⟨⟨_,q⟩,_⟩;exact absurd q (by decide))
        subst eO
        subst eR
        have hf:∀b∈A3,FreeB b:=λb hb=>by
          obtain⟨c,hc,hn⟩:=h5.mem b hb
          exact hn.free (hZ c hc)
        have hf2:∀b∈A5,FreeB b:=λb hb=>by
          obtain⟨c,hc,hn⟩:=h8.mem b hb
          exact hn.free (.inl (hY c hc))
        have hlen:A3.length≤300∧A5.length≤300:=by simp at hAl;omega
        have hl5:=h8.len
        have hfew:∀b∈A3++[E],fewB b:=λb hb=>by
          rcases List.mem_append.1 hb with hb | hb
          · exact (hf b hb).few
          · simp at hb;subst hb;exact hE.end.few
        have hnf:=num_flat h8 h5
        rw[hflat]at hnf
        have hEh:hasV E 77 98000=false:=by rw[hE.has];rfl
        have hfm:((A3++[E]).flatMap λb=>if hasV b 77 98000=true then A5 else [b])=(A3.flatMap λb=>if hasV b 77 98000=true then A5 else [b])++[E]:=by simp[hEh]
        have hl6:(A3.flatMap λb=>if hasV b 77 98000=true then A5 else [b]).length=X.length:=hnf.len
        have hex:=expand_eq (q:=1000) (M:=A3++[E]) (Y:=A5) (S:=[⟨1000,A5⟩]) (cl:=λb=>hasV b 77 98000) (proper_q (q:=1000) (by omega) (by omega) hf hE.end (by omega) (.inr ⟨A5,rfl,by omega,hf2⟩)) (.inr rfl) (λb hb=>?_) (λb hb=>call_no (hf2 b hb).few (by
          obtain⟨c,hc,hn⟩:=h8.mem b hb
          rw[hn.has];exact (hY c hc).has (by omega))) (by simp;omega) (by omega) (by rw[hfm,zB,zR];omega) (λb hb=>?_)
        · rw[hfm]at hex
          refine⟨_,_,split_fold (by omega) (by omega) hf hE.end hf2 (by omega) (by omega),hex,NumL.app hnf (.cons hE .nil),λb hb=>?_⟩
          simp only[zU,zI,zE,or_false]at hb ⊢
          rcases hb with hb | hb
          · obtain⟨c,hc1,hc2⟩:=List.mem_flatMap.1 hb
            split at hc2
            · exact .inr (.inr (.inl hc2))
            · simp only[zI,zE,or_false]at hc2;subst hc2;exact .inl (.inl hc1)
          · exact .inl (.inr hb)
        · rcases List.mem_append.1 hb with hb' | hb'
          · obtain⟨c,hc,hn⟩:=h5.mem b hb'
            rcases hZ c hc with q | q
            · have:hasV b 77 98000=false:=by rw[hn.has];exact q.has (by omega)
              rw[this];exact call_no (hfew b hb) this
            · subst q
              have:hasV b 77 98000=true:=by rw[hn.has];rfl
              rw[this];exact call_yes hn
          · simp at hb';subst hb'
            rw[hEh];exact call_no hE.end.few hEh
        · rcases List.mem_append.1 hb with hb | hb
          · exact hfew b hb
          · exact (hf2 b hb).few
theorem dd_len9:∀(k n:Nat),n<10 ^ (k+1)→(Lib.decDigits n).length≤k+1:=by
 intro k
 induction k with
 | zero =>
  intro n h
  unfold Lib.decDigits
  rw[dif_pos (by simpa using h)];simp
 | succ k ih =>
  intro n h
  unfold Lib.decDigits
  split
  ·simp
  ·rw[zB,zR]
   have:=ih (n / 10) (by rw[Nat.pow_succ]at h;omega)
   omega
theorem txt_len16(n:Int)(h1:-1000000000000≤n)(h2:n≤1000000000000):(txtV n).length≤16:=by
 unfold txtV txtU
 have hl:=dd_len9 9 (n.natAbs / 1000) (by omega)
 have hf':(frac (n.natAbs % 1000)).length≤3:=fr3_len _ _ _
 rw[zB,zB]
 have e1:(if n<0 then ([45]:List UInt8)else []).length≤1:=by split<;>simp
 have e2:(if n.natAbs % 1000=0 then []else 46::frac (n.natAbs % 1000)).length≤4:=by split<;>simp;omega
 omega
theorem fmt_len400(b:aa)(h:bL b):(fmtV b).length≤400:=by
  have hjA:∀(l:List (List UInt8)) (c:List (List UInt8)),c.length≤1→(∀x∈l,x.length≤17)→(∀x∈c,x.length≤102)→(jn (l++c)).length≤l.length*18+102:=by
    intro l
    induction l with
    | nil =>
      intro c hc _ h2
      match c,hc,h2 with
      | [],_,_=>simp[jn]
      | [x],_,h2=>have:=h2 x (by simp);simp[jn];omega
    | cons x l ih =>
      intro c hc h1 h2
      have hx:=h1 x (by simp)
      have:=ih c hc (λy hy=>h1 y (by simp[hy])) h2
      rw[zL]
      cases hlc:l++c with
      | nil=>simp[jn];omega
      | cons y r =>
        rw[jn_cons,←hlc]
        simp only[zB,zD];omega
  have hc1:(cmT b.Comment).length≤1:=by unfold cmT;split<;>simp
  have:=hjA (b.Words.map wt) (cmT b.Comment) hc1 (λx hx=>by
    obtain⟨w,hw,rfl⟩:=List.mem_map.1 hx
    obtain⟨_,_,h3,h4⟩:=h.2.2.1 w hw
    have:=txt_len16 w.Value h3 h4
    unfold wt;simp;omega) (λx hx=>parts_len h x (List.mem_append.2 (.inr hx)))
  have hwl:=h.1
  unfold fmtV
  rw[zB]
  have e1:(if b.Skip=true then ([47]:List UInt8)else []).length≤1:=by split<;>simp
  rw[List.length_map]at this
  omega
theorem prt_len4:∀l:List aa,(∀b∈l,bL b)→l.length≤(prt l).length∧(prt l).length≤l.length*401
 | [],_=>by simp[prt]
 | b::l,h=>by
  have hp:prt (b::l)=(fmtV b++[10])++prt l:=by simp[prt]
  have ih:=prt_len4 l (λx hx=>h x (by simp[hx]))
  have:=fmt_len400 b (h b (by simp))
  rw[hp,zB,zB,zR,zD,Nat.add_mul]
  omega
theorem prt_snoc4(l:List aa)(i:Nat)(x:aa)(h:l[i]? = some x):prt (l.take (i+1))=(prt (l.take i)++fmtV x)++[10]:=by
 have hlt:=aq h
 rw[kZ,h]
 simp[prt]
theorem print_ok(l:List aa)(hl:l.length≤10000)(hv:∀b∈l,bL b):j0 l=some (prt l,0):=by
 suffices h:Tot (j0 l) (λe=>e=(prt l,0)) by
  obtain⟨e,h1,h2⟩:=h
  rw[h1,h2]
 unfold j0
 refine Tot.bindX (E:=λv:List UInt8=>v=prt l) (TotX.of (Tot.mono (E:=λx=>match x with | .ret e=>e=(prt l,(0:Int)) | .go v=>v=prt l) ?_ (λx h=>by cases x<;>exact h))) (λv hv=>.ok (by rw[hv]))
 refine Tot.guard (aR (by omega)) (Tot.range (λi v=>v=prt (l.take i)) _ rfl (λi x v hx hr=>?_) (λv hr=>.ok (by rw[hr,kK])))
 have hlt:=aq hx
 have hval:=hv x (List.mem_of_getElem? hx)
 have hfl:=fmt_len400 x hval
 have hpl:=(prt_len4 (l.take i) (λb hb=>hv b (List.mem_of_mem_take hb))).2
 have hil:(l.take i).length≤10000:=by simp;omega
 rw[bk_Format_ok x hval,ah,if_neg (by simp),hr,aZ (by simp only;omega),aD,aZ (by simp only[zB];omega),aD]
 exact .go (by rw[prt_snoc4 l i x hx])
def motEq9(a b:am):Bool:=(a.From.X==b.From.X)&&((a.From.Y==b.From.Y)&&((a.From.Z==b.From.Z)&&((a.To.X==b.To.X)&&((a.To.Y==b.To.Y)&&((a.To.Z==b.To.Z)&&((a.Rate==b.Rate)&&((a.Tool==b.Tool)&&(a.Block==b.Block))))))))
theorem equal_self(l:List am)(hl:l.length≤9223372036854775807):be l l=some true:=by
  unfold be
  simp only[bne_self_eq_false,zA,if_false]
  obtain ⟨e, h1, h2⟩ := Tot.bindX (E := λ_ => True) (F := λb => b = true) (f := λ(_ : Unit) => some true) (TotX.guard (b := okIdx l) (aR hl) (TotX.of (Tot.range (f := λ(i141 : Nat) (e143 : am) (_ : Unit) =>
          bindO (gt l (i141:Int)) λ(e145:am) =>
          if (!(motEq9 e143 e145))=true then
            some (.ret (.ret false))
          else
            some (.go ())) (d:=λ_=>some (.go ())) (λ_ _=>True) _ trivial (λi x v hx _=>by
    rw[gt_k hx,ah]
    have:motEq9 x x=true:=by simp[motEq9]
    rw[this]
    exact .go trivial) (λv _=>.ok trivial)))) (λ_ _=>.ok rfl)
  rw[h2]at h1
  exact h1
end Go.Proofs.YtgojngpeaknbnaaGreatDoor
