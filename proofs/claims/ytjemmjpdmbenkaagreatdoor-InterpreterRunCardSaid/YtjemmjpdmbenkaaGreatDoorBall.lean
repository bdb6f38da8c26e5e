/-
  Bx, Bcg in one text.
-/
import Derived.Test.YtjemmjpdmbenkaaGreatDoorAall
import Derived.Test.YtjemmjpdmbenkaaGreatDoorMB
import Derived.Test.YtjemmjpdmbenkaaGreatDoorMP
import Derived.Test.YtjemmjpdmbenkaaGreatDoorPz
import Derived.Test.YtjemmjpdmbenkaaGreatDoorGog
import Derived.Lib.IndexLaws
import Derived.Lib.Join
open Bool renaming and_eq_true → zA,eq_iff_iff → zB,false_eq_true → zE,or_eq_false_iff → zQ,and_false → zU
open List renaming takeWhile_append_dropWhile → zD,all_cons → zF,length_cons → zG,append_nil → zH,takeWhile_cons → zJ,drop_eq_getElem_cons → zL,cons_append → zN,dropWhile_cons → zO,eq_nil_of_length_eq_zero → zP,foldl_cons → zR,drop_drop → zT,length → zV,all_append → zW,length_nil → zX,contains_cons → zY,length_append → zZ
open Int renaming toNat_natCast → zI
open Nat renaming eq_or_lt_of_le → zK,pow_le_pow_right → zM
namespace Go.Proofs.YtjemmjpdmbenkaaGreatDoor
open Go.RowKit
set_option linter.unusedVariables false
set_option linter.unusedSimpArgs false
def kr(l:List ay)(c:Int):List Int:=(l.filter λw=>w.Letter==c).map (·.Value)
theorem n6(c:Int):∀(l:List ay) (o:List Int),l.foldl (λ(v:List Int) (w:ay)=>if w.Letter==c then v++[w.Value]else v) o=o++kr l c
 | [],o=>by simp[kr]
 | w::l,o=>by
  rw[zR,n6 c l]
  unfold kr
  cases h:(w.Letter==c)with
  | true=>simp[h]
  | false=>simp[h]
theorem codesV_len(l:List ay)(c:Int):(kr l c).length≤l.length:=by
 unfold kr
 rw[List.length_map]
 exact List.length_filter_le _ _
theorem l9(b:aa)(c:Int)(hb:b.Words.length≤1000000):gk b c=some (kr b.Words c):=by
 (unfold gk;try delta jB rF gF)
 rw[aK (by omega),aN,dc (g:=λ(v:List Int) (w:ay)=>if w.Letter==c then v++[w.Value]else v) (R:=λi v=>v.length≤i) (L:=b.Words) ?_ b.Words 0 [] rfl (by simp),n6]
 ·rfl
 ·intro i x v hx hr
  have hlt:=ak hx
  cases h:(x.Letter==c)with
  | true=>simp only[og];rw[aQ (by omega),aN,ae];exact⟨rfl,by simp;omega⟩
  | false=>exact⟨rfl,by simp;omega⟩
theorem r41_Codes_eq(b:aa)(c:Int)(hb:b.Words.length≤1000000):i7 b c=some (kr b.Words c):=by
 (unfold i7;try delta jB rF gF)
 rw[aK (by omega),aN,dc (g:=λ(v:List Int) (w:ay)=>if w.Letter==c then v++[w.Value]else v) (R:=λi v=>v.length≤i) (L:=b.Words) ?_ b.Words 0 [] rfl (by simp),n6]
 ·rfl
 ·intro i x v hx hr
  have hlt:=ak hx
  cases h:(x.Letter==c)with
  | true=>simp only[og];rw[aQ (by omega),aN,ae];exact⟨rfl,by simp;omega⟩
  | false=>exact⟨rfl,by simp;omega⟩
def isD(c:UInt8):Bool:=decide (48≤c.toNat)&&decide (c.toNat≤57)
def dv(c:UInt8):Nat:=c.toNat-48
def numA(a:Nat)(l:List UInt8):Nat:=l.foldl (λa c=>10*a+dv c) a
def num(l:List UInt8):Nat:=numA 0 l
variable {c:UInt8}
theorem lU:isD c=true↔48≤c.toNat∧c.toNat≤57:=by simp[isD]
theorem numA_nil(a:Nat):numA a []=a:=rfl
theorem numA_cons(a:Nat)(c:UInt8)(l:List UInt8):numA a (c::l)=numA (10*a+dv c) l:=by unfold numA;rw[zR]
theorem numA_append(a:Nat)(l m:List UInt8):numA a (l++m)=numA (numA a l) m:=by simp[numA,List.foldl_append]
theorem pow10_pos(n:Nat):1≤10 ^ n:=Nat.pos_of_ne_zero (by simp)
theorem numA_eq(l:List UInt8):∀a:Nat,numA a l=a*10 ^ l.length+num l:=by
 induction l with
 | nil=>intro a;simp[numA,num]
 | cons c l ih =>
  intro a
  show numA (10*a+dv c) l=a*10 ^ (l.length+1)+numA (10*0+dv c) l
  rw[ih (10*a+dv c),ih (10*0+dv c),Nat.pow_succ,Nat.add_mul,Nat.mul_zero,Nat.zero_add,←Nat.mul_assoc,Nat.mul_assoc 10 a]
  omega
theorem numA_ge(l:List UInt8)(a:Nat):a≤numA a l:=by
 rw[numA_eq]
 have:=Nat.le_mul_of_pos_right a (pow10_pos l.length)
 omega
theorem num_snoc(l:List UInt8)(c:UInt8):num (l++[c])=10*num l+dv c:=by
 unfold num;rw[numA_append];rfl
theorem dv_lt(h:isD c=true):dv c<10:=by
 have:=lU.1 h
 unfold dv;omega
theorem num_lt:∀(l:List UInt8),l.all isD=true→num l<10 ^ l.length
 | [],_=>by simp[num,numA]
 | c::l,h=>by
  simp only[zF,zA]at h
  have h1:=num_lt l h.2
  have h2:=dv_lt h.1
  rw[show num (c::l)=numA (10*0+dv c) l from rfl,numA_eq,zG,Nat.pow_succ]
  have:(10*0+dv c)*10 ^ l.length≤9*10 ^ l.length:=Nat.mul_le_mul_right _ (by omega)
  omega
theorem ofNat_toNat{r:Nat}(h:r<208):(UInt8.ofNat (48+r)).toNat=48+r:=by
 rw[UInt8.toNat_ofNat']
 omega
theorem of_dv(h:isD c=true):UInt8.ofNat (48+dv c)=c:=by
 have:=lU.1 h
 apply UInt8.toNat_inj.1
 rw[ofNat_toNat (by unfold dv;omega)]
 unfold dv;omega
theorem dd_small{u:Nat}(h:u<10):Lib.decDigits u=[UInt8.ofNat (48+u)]:=by rw[Lib.decDigits,dif_pos h]
theorem dd_big{u:Nat}(h:¬u<10):Lib.decDigits u=Lib.decDigits (u / 10)++[UInt8.ofNat (48+u % 10)]:=by conv=>lhs;rw[Lib.decDigits,dif_neg h]
def canW(l:List UInt8):Prop:=l.all isD=true∧l≠[]∧(1<l.length→l.head?≠some 48)
theorem num_pos{l:List UInt8}(h:l.all isD=true)(hne:l≠[])(hh:l.head?≠some 48):10 ^ (l.length-1)≤num l:=by
 cases l with
 | nil=>exact absurd rfl hne
 | cons c l =>
  simp only[zF,zA]at h
  simp only[List.head?_cons,ne_eq,Option.some.injEq]at hh
  have h1:=lU.1 h.1
  have h2:c.toNat≠48:=λe=>hh (UInt8.toNat_inj.1 e)
  rw[show num (c::l)=numA (10*0+dv c) l from rfl,numA_eq,zG,Nat.add_sub_cancel]
  have:1*10 ^ l.length≤(10*0+dv c)*10 ^ l.length:=Nat.mul_le_mul_right _ (by unfold dv;omega)
  omega
theorem dd_uniq:∀(n:Nat) (l:List UInt8),l.length=n→canW l→Lib.decDigits (num l)=l
 | 0,l,hl,h=>absurd (zP hl) h.2.1
 | n+1,l,hl,h=>by
  obtain⟨xs,c,rfl⟩:∃xs c,l=xs++[c]:=⟨l.dropLast,l.getLast h.2.1,(List.dropLast_concat_getLast h.2.1).symm⟩
  obtain⟨h1,h2,h3⟩:=h
  simp only[zW,zA,zF,List.all_nil,Bool.and_true]at h1
  have hd:=dv_lt h1.2
  rw[num_snoc]
  cases xs with
  | nil =>
   simp only[List.nil_append]
   rw[show num []=0 from rfl,dd_small (by omega),Nat.mul_zero,Nat.zero_add,of_dv h1.2]
  | cons a r =>
   have hh:(a::r).head?≠some 48:=by
    have:=h3 (by simp)
    simpa using this
   have hp:=num_pos h1.1 (by simp) hh
   have hp1:1≤num (a::r):=Nat.le_trans (Nat.pos_of_ne_zero (by simp)) hp
   rw[dd_big (by omega),show (10*num (a::r)+dv c) / 10=num (a::r) by omega,show (10*num (a::r)+dv c) % 10=dv c by omega,of_dv h1.2,dd_uniq n (a::r) (by simpa using hl) ⟨h1.1,by simp,λ_=>hh⟩]
def fr3(a b c:UInt8):List UInt8:=if c=48 then (if b=48 then (if a=48 then []else [a])else [a,b])else [a,b,c]
def d3(r:Nat):UInt8×UInt8×UInt8:=(UInt8.ofNat (48+r / 100),UInt8.ofNat (48+r / 10 % 10),UInt8.ofNat (48+r % 10))
def frac(r:Nat):List UInt8:=fr3 (d3 r).1 (d3 r).2.1 (d3 r).2.2
def txtU(u:Nat):List UInt8:=Lib.decDigits (u / 1000)++(if u % 1000=0 then []else 46::frac (u % 1000))
def txtV(n:Int):List UInt8:=(if n<0 then [45]else [])++txtU n.natAbs
theorem okStr_of{a b:List UInt8}(h:a.length+b.length≤9223372036854775807):okStr a b=true:=oh h
def kC:List UInt8→Bool×List UInt8
 | []=>(false,[])
 | c::r=>if c=45 then (true,r)else (false,c::r)
theorem mf(c:UInt8)(r:List UInt8):kC (c::r)=if c=45 then (true,r)else (false,c::r):=rfl
theorem strip_len(s:List UInt8):(kC s).2.length≤s.length:=by
 cases s with
 | nil=>simp[kC]
 | cons c r=>rw[mf];split<;>simp
def cutV(l:List UInt8):List UInt8×List UInt8×Bool:=(l.takeWhile (· != 46),(l.dropWhile (· != 46)).drop 1,l.contains 46)
def zer(k:Nat):List UInt8:=List.replicate k 48
def digB(l:List UInt8):Bool:=l.all isD&&!l.isEmpty
def badP(neg:Bool)(body p:List UInt8)(pt:Bool):Bool:=(pt&&(!digB p||(decide (3<p.length)||p.getLast? == some 48)))||(neg&&body==[48])
def badV(neg:Bool)(body w p:List UInt8)(pt:Bool):Bool:=!digB w||((decide (1<w.length)&&w.head? == some 48)||badP neg body p pt)
def valN(neg:Bool)(w p:List UInt8):Int×Int:=if w.length>10 then (0,11)else if num (w++p++zer (3-p.length))>1000000000000 then (0,11)else (if neg=true then -(num (w++p++zer (3-p.length)):Int)else num (w++p++zer (3-p.length)),0)
def valV(s:List UInt8):Int×Int :=
 if badV (kC s).1 (kC s).2 (cutV (kC s).2).1 (cutV (kC s).2).2.1 (cutV (kC s).2).2.2=true then (0,2)else valN (kC s).1 (cutV (kC s).2).1 (cutV (kC s).2).2.1
theorem cutPre(s:List UInt8)(hs:s.length≤1000000):da s [45]=some ((kC s).2,(kC s).1):=by
 (unfold da cm ck;try delta jR)
 cases s with
 | nil=>rfl
 | cons c r =>
  have h1:decide (((c::r).length:Int)≥(([45]:List UInt8).length:Int))=true:=by simp;omega
  have h2:cutT (c::r) (([45]:List UInt8).length:Int)=some [c]:=by unfold cutT;rw[oc (by simp;omega)];rfl
  have h3:cutF (c::r) (([45]:List UInt8).length:Int)=some r:=by unfold cutF;rw[oc (by simp;omega)];rfl
  rw[h1,od rfl,h2,ae,ae,ae,h3]
  rw[mf]
  by_cases hc:c=45
  ·subst hc;rfl
  ·rw[oc hc,show (([c]:List UInt8)==[45])=false by simpa using hc]
   rfl
theorem idx_facts:∀l:List UInt8,(Lib.indexByte l 46=-1∧l.takeWhile (· != 46)=l∧l.dropWhile (· != 46)=[]∧l.contains 46=false)∨(∃o:Nat,Lib.indexByte l 46=(o:Int)∧o<l.length∧l.take o=l.takeWhile (· != 46)∧l.drop o=l.dropWhile (· != 46)∧l.contains 46=true)
 | []=>.inl ⟨rfl,rfl,rfl,rfl⟩
 | b::l=>by
  unfold Lib.indexByte
  by_cases hb:b=46
  ·subst hb
   exact .inr ⟨0,rfl,by simp,rfl,by simp,by simp⟩
  ·have hb1:(b==46)=false:=by simpa using hb
   have hb2:(b != 46)=true:=by simp[hb]
   have hb3:((46:UInt8)==b)=false:=by simpa using fun e=>hb e.symm
   rw[hb1]
   simp only[zE,oe,zJ,zO,hb2,og,zY,hb3,Bool.false_or]
   rcases idx_facts l with⟨h1,h2,h3,h4⟩|⟨o,h1,h2,h3,h4,h5⟩
   ·left
    rw[h1,h2]
    exact⟨rfl,rfl,h3,h4⟩
   ·right
    have hne:((o:Int)==-1)=false:=by simp
    rw[h1,hne]
    refine⟨o+1,by simp,by simpa using h2,?_,by simpa using h4,h5⟩
    rw[List.take_succ_cons,h3]
theorem cutEq(s:List UInt8)(hs:s.length≤1000000):dU s [46]=some (cutV s):=by
 have hi:bO s [46]=some (Lib.indexByte s 46):=by
  (unfold bO;try delta jV)
  by_cases he:s=[46]
  ·subst he;rfl
  ·have:(((([46]:List UInt8).length:Int)==0)||(([46]:List UInt8)==s))=false:=by
    simp
    exact λe=>he e.symm
   rw[this]
   rfl
 unfold dU dR
 rw[hi,ae]
 unfold cutV
 rcases idx_facts s with⟨h1,h2,h3,h4⟩|⟨o,h1,h2,h3,h4,h5⟩
 ·rw[h1,h2,h3,h4];rfl
 ·rw[h1,h5,←h3,←h4]
  have hw:IntKind.i64.wrap ((o:Int)+(([46]:List UInt8).length:Int))=((o+1:Nat):Int):=by
   simp only[zG,zX]
   rw[am (by omega) (by omega)];omega
  have hc1:cutT s (o:Int)=some (s.take o):=by unfold cutT;rw[oc (by omega),zI]
  have hc2:cutF s ((o+1:Nat):Int)=some (s.drop (o+1)):=by unfold cutF;rw[oc (by omega),zI]
  rw[oh (show (o:Int)≥0 by omega),od rfl,hc1,ae,hw,hc2,ae,ae,zT]
theorem digs_contains(c:UInt8):([48,49,50,51,52,53,54,55,56,57]:List UInt8).contains c=isD c:=by
 have key:∀k,k<256→([48,49,50,51,52,53,54,55,56,57]:List UInt8).contains (UInt8.ofNat k)=(decide (48≤k)&&decide (k≤57)):=oj (by kernel_rfl)
 have:=key c.toNat (UInt8.toNat_lt c)
 rw[UInt8.ofNat_toNat]at this
 rw[this];rfl
theorem dw_nil{p:UInt8→Bool}:∀{l:List UInt8},l.dropWhile p=[]↔∀x∈l,p x=true
 | []=>by simp
 | c::l=>by
  rw[zO]
  cases h:p c with
  | true=>rw[od rfl,dw_nil];simp[h]
  | false=>simp[h]
theorem trim_nil(l cs:List UInt8)(p:UInt8→Bool)(hp:∀c,cs.contains c=p c):(Lib.trimS l cs==[])=l.all p:=by
 have hfun:(cs.contains ·)=p:=funext hp
 unfold Lib.trimS Lib.trimLeftS Lib.trimRightS
 rw[hfun]
 cases hall:l.all p with
 | true =>
  have:l.reverse.dropWhile p=[]:=by
   rw[dw_nil]
   intro x hx
   exact List.all_eq_true.1 hall x (by simpa using hx)
  rw[this];rfl
 | false =>
  cases hd:l.reverse.dropWhile p with
  | nil =>
   rw[dw_nil]at hd
   have:l.all p=true:=List.all_eq_true.2 λx hx=>hd x (by simpa using hx)
   rw[this]at hall;cases hall
  | cons c r =>
   have hc:p c=false:=by
    have:=List.head?_dropWhile_not p l.reverse
    rw[hd]at this
    simpa using this
   have:(List.dropWhile p (c::r).reverse)≠[]:=by
    intro e
    rw[dw_nil]at e
    have:=e c (by simp)
    rw[hc]at this;cases this
   cases hx:List.dropWhile p (c::r).reverse with
   | nil=>exact absurd hx this
   | cons a b=>rfl
theorem bk_digits_eq(l:List UInt8)(hl:l.length≤1000000):eC l=some (digB l):=by
 (unfold eC digB;try delta jR)
 cases l with
 | nil=>rfl
 | cons c r =>
  have h1:((c::r)==([]:List UInt8))=false:=rfl
  rw[h1]
  unfold li
  rw[show (([48,49,50,51,52,53,54,55,56,57]:List UInt8).all (λc=>decide (c.toNat<128))&&(decide ((c::r).length≤9223372036854775807)&&decide (([48,49,50,51,52,53,54,55,56,57]:List UInt8).length<4294967281)))=true by
   simp only[zG]at hl ⊢
   simp;omega]
  simp only[zE,oe,aN,ae,trim_nil _ _ _ digs_contains,List.isEmpty_cons,Bool.not_false,Bool.and_true]
theorem parse_eq:∀(l:List UInt8) (a:Nat),l.all isD=true→numA a l<1000000000000000000→Lib.parseUintM 18446744073709551615 a l=.ok (numA a l)
 | [],a,_,_=>rfl
 | c::l,a,h,hn=>by
  simp only[zF,zA]at h
  have hc:=lU.1 h.1
  rw[numA_cons]at hn ⊢
  have hge:=numA_ge l (10*a+dv c)
  have hd:dv c=c.toNat-48:=rfl
  unfold Lib.parseUintM
  rw[od hc,oc (by omega),oc (by omega),show a*10+(c.toNat-48)=10*a+dv c by omega]
  exact parse_eq l _ h.2 hn
theorem parseInt_eq(l:List UInt8)(h:l.all isD=true)(hne:l≠[])(hl:l.length≤17):eK l 10 64=some (num l:Int):=by
 have hn:=num_lt l h
 have hp:(10:Nat) ^ l.length≤10 ^ 17:=zM (by omega) hl
 have hm:=parse_eq l 0 h (show num l<_ by omega)
 unfold eK
 rw[show ((10:Int)==10&&((64:Int)==64&&decide (l.length≤9223372036854775806)))=true by simp;omega,aN]
 have key:Lib.parseIntB 64 l=.ok (num l:Int):=by
  cases l with
  | nil=>exact absurd rfl hne
  | cons c r =>
   simp only[zF,zA]at h
   have hc:=lU.1 h.1
   unfold Lib.parseIntB
   simp only
   rw[oc (by omega)]
   unfold Lib.parseUintB
   rw[oc (by simp),show (2 ^ 64-1:Nat)=18446744073709551615 by rfl,hm]
   simp only
   have hx:numA 0 (c::r)=num (c::r):=rfl
   rw[oc (by omega),oc (by omega),oc (by omega),hx]
 rw[key]
theorem last_gt(p:List UInt8)(hp:p≠[])(hl:p.length≤1000000):∃c,gt p (IntKind.i64.wrap ((p.length:Int)-1))=some c∧p.getLast? = some c:=by
 have hpos:=List.length_pos_iff.2 hp
 rw[am (by omega) (by omega)]
 obtain⟨c,h1,h2⟩:=gt_ok' (l:=p) (i:=(p.length:Int)-1) (by omega) (by omega)
 refine⟨c,h1,?_⟩
 rw[List.getLast?_eq_getElem?,←h2]
 congr 1
 omega
theorem c48(c:UInt8):((c.toNat:Int)==48)=(c==48):=by
 rw[zB]
 simp only[beq_iff_eq]
 constructor
 ·intro h;exact UInt8.toNat_inj.1 (by have:(48:UInt8).toNat=48:=rfl;omega)
 ·intro h;subst h;rfl
theorem badP_eq (neg : Bool) (body p : List UInt8) (pt : Bool) (hl : p.length ≤ 1000000) : (if pt = true then
              ah (eC p) λ(y105:Bool) =>
              if y105=true then
                if (decide ((p.length:Int)>3))=true then
                  some true
                else
                  ah (gt p (IntKind.i64.wrap ((p.length:Int)-1))) λ(c106:UInt8) =>
                  if ((c106.toNat:Int)==48)=true then
                    some true
                  else
                    if neg=true then
                      some (body==[48])
                    else
                      some false
              else
                some true
            else
              if neg=true then
                some (body==[48])
              else
                some false)=some (badP neg body p pt):=by
  unfold badP
  cases pt with
  | false=>cases neg<;>simp
  | true =>
    rw[od rfl,bk_digits_eq p hl,ae]
    cases hd:digB p with
    | false=>simp
    | true =>
      rw[od rfl]
      have hne:p≠[]:=by intro e;subst e;cases hd
      obtain⟨c,h1,h2⟩:=last_gt p hne hl
      rw[h1,ae,h2,c48]
      have e3:decide ((p.length:Int)>3)=decide (3<p.length):=by
        rw[zB];simp only[oo];omega
      rw[e3]
      cases decide (3<p.length)<;>cases hc:(c==48)<;>cases neg<;>simp_all
theorem tw_len(p:UInt8→Bool)(l:List UInt8):(l.takeWhile p).length≤l.length∧(l.dropWhile p).length≤l.length:=by
 have h:=congrArg zV (zD (p:=p) (l:=l))
 rw[zZ]at h
 omega
theorem zer_dig(k:Nat):(zer k).all isD=true:=by
 unfold zer
 rw[List.all_eq_true]
 intro x hx
 rw[List.eq_of_mem_replicate hx]
 rfl
theorem bk_Value_eq(s:List UInt8)(hs:s.length≤100000):bk_Value s=some (valV s):=by
  (unfold bk_Value valV;try delta jC jR)
  rw[cutPre s (by omega),ae]
  have hb:=strip_len s
  generalize kC s=st at *
  obtain⟨neg,body⟩:=st
  simp only at hb ⊢
  rw[cutEq body (by omega),ae]
  have hw:=(tw_len (· != 46) body).1
  have hp:(cutV body).2.1.length≤body.length:=by
    have:=(tw_len (· != 46) body).2
    show ((body.dropWhile (· != 46)).drop 1).length≤_
    simp;omega
  have hpt:(cutV body).2.2=false→(cutV body).2.1=[]:=by
    intro h
    rcases idx_facts body with⟨_,_,h3,_⟩|⟨_,_,_,_,_,h5⟩
    · show (body.dropWhile (· != 46)).drop 1=[]
      rw[h3];rfl
    · have:(cutV body).2.2=true:=h5
      rw[this]at h;cases h
  have hw:(cutV body).1.length≤body.length:=hw
  generalize cutV body=cv at *
  obtain⟨w,p,pt⟩:=cv
  simp only at hw hp hpt ⊢
  rw[bk_digits_eq w (by omega),ae]
  have hbad : ∀ (k : Bool → Option (Int × Int)), (ah (if digB w = true then
        if (decide ((w.length:Int)>1))=true then
          ah (gt w 0) λ(c104:UInt8) =>
          if ((c104.toNat:Int)==48)=true then
            some true
          else
            if pt=true then
              ah (eC p) λ(y105:Bool) =>
              if y105=true then
                if (decide ((p.length:Int)>3))=true then
                  some true
                else
                  ah (gt p (IntKind.i64.wrap ((p.length:Int)-1))) λ(c106:UInt8) =>
                  if ((c106.toNat:Int)==48)=true then
                    some true
                  else
                    if neg=true then
                      some (body==[48])
                    else
                      some false
              else
                some true
            else
              if neg=true then
                some (body==[48])
              else
                some false
        else
          if pt=true then
            ah (eC p) λ(y107:Bool) =>
            if y107=true then
              if (decide ((p.length:Int)>3))=true then
                some true
              else
                ah (gt p (IntKind.i64.wrap ((p.length:Int)-1))) λ(c108:UInt8) =>
                if ((c108.toNat:Int)==48)=true then
                  some true
                else
                  if neg=true then
                    some (body==[48])
                  else
                    some false
            else
              some true
          else
            if neg=true then
              some (body==[48])
            else
              some false
      else
        some true) k)=k (badV neg body w p pt):=by
    intro k
    rw[badP_eq neg body p pt (by omega)]
    unfold badV
    cases hd:digB w with
    | false=>rfl
    | true =>
      cases w with
      | nil=>cases hd
      | cons c r =>
        rw[od rfl,show gt (c::r) 0=some c from rfl,ae,c48]
        have e3:decide (((c::r).length:Int)>1)=decide (1<(c::r).length):=by
          rw[zB];simp only[oo];omega
        rw[e3]
        have e4:((c::r).head? == some 48)=(c==48):=rfl
        rw[e4]
        cases decide (1<(c::r).length)<;>cases (c==48)<;>simp
  rw[hbad]
  cases hv:badV neg body w p pt with
  | true=>rfl
  | false =>
    simp only[zE,oe]
    unfold badV badP at hv
    simp only[zQ,Bool.not_eq_false']at hv
    obtain⟨hd,_,hv,_⟩:=hv
    have hdw:w.all isD=true∧w≠[]:=by
      unfold digB at hd
      simp only[zA]at hd
      exact⟨hd.1,λe=>by subst e;exact absurd hd.2 (by simp)⟩
    have hp3:p.all isD=true∧p.length≤3:=by
      cases pt with
      | false=>rw[hpt rfl];simp
      | true =>
        simp only[Bool.true_and,zQ,Bool.not_eq_false',decide_eq_false_iff_not]at hv
        unfold digB at hv
        simp only[zA]at hv
        exact⟨hv.1.1,by omega⟩
    unfold valN
    have e1:decide ((w.length:Int)>10)=decide (w.length>10):=by
      rw[zB];simp only[oo];omega
    rw[e1]
    by_cases h10:w.length>10
    · rw[oh h10,od rfl,od h10]
    · rw[oi h10,oc (by simp),oc h10]
      have hz:cutF ([48,48,48]:List UInt8) (p.length:Int)=some (zer (3-p.length)):=by
        have:p.length=0∨p.length=1∨p.length=2∨p.length=3:=by omega
        rcases this with e | e | e | e<;>rw[e]<;>rfl
      have hall:(w++p++zer (3-p.length)).all isD=true:=by
        simp only[zW,hdw.1,hp3.1,zer_dig,Bool.and_self]
      have hlen:(w++p++zer (3-p.length)).length=w.length+3:=by simp[zer];omega
      have hlen2:(zer (3-p.length)).length=3-p.length:=by simp[zer]
      rw[okStr_of (by omega),aN,hz,ae,okStr_of (by simp only[zZ];omega),aN,parseInt_eq _ hall (by intro e;rw[e]at hlen;simp at hlen) (by omega),ae]
      have hlt:=num_lt _ hall
      have hle:(10:Nat) ^ (w++p++zer (3-p.length)).length≤10 ^ 13:=zM (by omega) (by omega)
      generalize num (w++p++zer (3-p.length))=N at *
      by_cases hN:N>1000000000000
      · rw[oh (show (N:Int)>1000000000000 by omega),od rfl,od hN]
      · rw[oi (show ¬(N:Int)>1000000000000 by omega),oc (by simp),oc hN]
        cases neg with
        | true=>simp only[og,ae];rw[am (by omega) (by omega),Int.zero_sub]
        | false=>rfl
theorem fr3_self(p:List UInt8)(h1:p≠[])(h3:p.length≤3)(hl:p.getLast?≠some 48):∃a b c,p++zer (3-p.length)=[a,b,c]∧fr3 a b c=p:=by
 match p,h1,h3,hl with
 | [a],_,_,hl=>exact⟨a,48,48,rfl,by simp at hl;simp[fr3,hl]⟩
 | [a,b],_,_,hl=>exact⟨a,b,48,rfl,by simp at hl;simp[fr3,hl]⟩
 | [a,b,c],_,_,hl=>exact⟨a,b,c,rfl,by simp at hl;simp[fr3,hl]⟩
theorem d3_of{a b:UInt8}(ha:isD a=true)(hb:isD b=true)(hc:isD c=true):num [a,b,c]<1000∧d3 (num [a,b,c])=(a,b,c):=by
 have h1:=dv_lt ha;have h2:=dv_lt hb;have h3:=dv_lt hc
 have hn:num [a,b,c]=100*dv a+10*dv b+dv c:=by simp[num,numA];omega
 refine⟨by omega,?_⟩
 unfold d3
 rw[hn,show (100*dv a+10*dv b+dv c) / 100=dv a by omega,show (100*dv a+10*dv b+dv c) / 10 % 10=dv b by omega,show (100*dv a+10*dv b+dv c) % 10=dv c by omega,of_dv ha,of_dv hb,of_dv hc]
theorem dig_ne(h:isD c=true):c≠46∧c≠45:=by
 have:=lU.1 h
 refine⟨λe=>?_,λe=>?_⟩
 ·subst e;have:(46:UInt8).toNat=46:=rfl;omega
 ·subst e;have:(45:UInt8).toNat=45:=rfl;omega
theorem tw_all:∀(w r:List UInt8),w.all isD=true→(r=[]∨∃q,r=46::q)→(w++r).takeWhile (· != 46)=w∧(w++r).dropWhile (· != 46)=r
 | [],r,_,hr=>by rcases hr with rfl | ⟨q,rfl⟩<;>simp
 | c::w,r,h,hr=>by
  simp only[zF,zA]at h
  have hc:(c != 46)=true:=by simpa using (dig_ne h.1).1
  obtain⟨h1,h2⟩:=tw_all w r h.2 hr
  simp only[zN,zJ,zO,hc,og,h1,h2,and_self]
theorem cont_dig:∀(w:List UInt8),w.all isD=true→w.contains 46=false
 | [],_=>rfl
 | c::w,h=>by
  simp only[zF,zA]at h
  rw[zY,cont_dig w h.2,show ((46:UInt8)==c)=false by simpa using fun e=>(dig_ne h.1).1 e.symm];rfl
theorem cutV_of(w p:List UInt8)(pt:Bool)(hw:w.all isD=true)(hp:pt=false→p=[]):cutV (w++(if pt=true then 46::p else []))=(w,p,pt):=by
 unfold cutV
 cases pt with
 | true =>
  obtain⟨h1,h2⟩:=tw_all w (46::p) hw (.inr ⟨p,rfl⟩)
  rw[od rfl,h1,h2]
  simp
 | false =>
  obtain⟨h1,h2⟩:=tw_all w [] hw (.inl rfl)
  rw[oc (by simp),h1,h2,hp rfl,zH,cont_dig w hw];rfl
theorem digB_of{l:List UInt8}(h:l.all isD=true)(hne:l≠[]):digB l=true:=by
 unfold digB
 rw[h]
 cases l with
 | nil=>exact absurd rfl hne
 | cons c r=>rfl
theorem strip_inv(s:List UInt8):s=(if (kC s).1=true then [45]else [])++(kC s).2:=by
 cases s with
 | nil=>rfl
 | cons c r =>
  rw[mf]
  by_cases h:c=45
  ·rw[od h,h];rfl
  ·rw[oc h];rfl
theorem cutV_inv(l:List UInt8):l=(cutV l).1++(if (cutV l).2.2=true then 46::(cutV l).2.1 else [])∧((cutV l).2.2=false→(cutV l).2.1=[]):=by
 have h:=zD (p:=(· != 46)) (l:=l)
 unfold cutV
 simp only
 rcases idx_facts l with⟨_,h2,h3,h4⟩|⟨o,_,h2,h3,h4,h5⟩
 ·rw[h4,h2,h3]
  simp
 ·rw[h5]
  refine⟨?_,λq=>by cases q⟩
  rw[od rfl]
  cases hd:l.dropWhile (· != 46)with
  | nil =>
   rw[hd]at h4
   have:=congrArg zV h4
   simp at this;omega
  | cons c r =>
   have hc:=List.head?_dropWhile_not (· != 46) l
   rw[hd]at hc
   simp at hc
   rw[hd,hc]at h
   simpa using h.symm
theorem good_parts{neg:Bool}{body w p:List UInt8}{pt:Bool}(h:badV neg body w p pt=false):canW w∧(pt=true→p.all isD=true∧p≠[]∧p.length≤3∧p.getLast?≠some 48)∧¬(neg=true∧body=[48]):=by
 unfold badV badP at h
 simp only[zQ,Bool.not_eq_false']at h
 obtain⟨h1,h2,h3,h4⟩:=h
 have dig:∀l,digB l=true→l.all isD=true∧l≠[]:=by
  intro l hl
  unfold digB at hl
  simp only[zA]at hl
  exact⟨hl.1,λe=>by subst e;exact absurd hl.2 (by simp)⟩
 refine⟨⟨(dig w h1).1,(dig w h1).2,λq=>?_⟩,λq=>?_,λq=>?_⟩
 ·rw[oh q,Bool.true_and]at h2
  simpa using h2
 ·subst q
  simp only[Bool.true_and,zQ,Bool.not_eq_false',decide_eq_false_iff_not]at h3
  exact⟨(dig p h3.1).1,(dig p h3.1).2,by omega,by simpa using h3.2.2⟩
 ·rw[q.1,q.2]at h4
  cases h4
theorem num_app(w q:List UInt8):num (w++q)=num w*10 ^ q.length+num q:=by
 show numA 0 (w++q)=_
 rw[numA_append,numA_eq];rfl
theorem txt_val(s:List UInt8)(n:Int)(h:valV s=(n,0)):txtV n=s:=by
 have hs:=strip_inv s
 unfold valV at h
 generalize kC s=st at *
 obtain⟨neg,body⟩:=st
 simp only at h hs
 have hb:=cutV_inv body
 generalize cutV body=cv at *
 obtain⟨w,p,pt⟩:=cv
 simp only at h hb
 cases hbad:badV neg body w p pt with
 | true=>rw[hbad,od rfl]at h;injection h with _ h;cases h
 | false =>
  rw[hbad,oc (by simp)]at h
  obtain⟨hw,hp,hnz⟩:=good_parts hbad
  unfold valN at h
  by_cases h10:w.length>10
  ·rw[od h10]at h;injection h with _ h;cases h
  ·rw[oc h10]at h
   have hform:∃r,num (w++p++zer (3-p.length))=1000*num w+r∧r<1000∧(r=0↔pt=false)∧(pt=true→frac r=p):=by
    cases pt with
    | false =>
     refine⟨0,?_,by omega,by simp,λq=>by cases q⟩
     rw[hb.2 rfl,zH,num_app]
     show num w*10 ^ 3+0=_
     omega
    | true =>
     obtain⟨a1,a2,a3,a4⟩:=hp rfl
     obtain⟨a,b,c,e1,e2⟩:=fr3_self p a2 a3 a4
     have hall:([a,b,c]:List UInt8).all isD=true:=by
      rw[←e1,zW,a1,zer_dig];rfl
     simp only[zF,List.all_nil,Bool.and_true,zA]at hall
     obtain⟨d1,d2⟩:=d3_of hall.1 hall.2.1 hall.2.2
     refine⟨num [a,b,c],?_,d1,?_,λ_=>?_⟩
     ·rw[List.append_assoc,e1,num_app]
      show num w*10 ^ 3+_=_
      omega
     ·constructor
      ·intro q
       exfalso
       rw[q]at d2
       have e3:(48,48,48)=(a,b,c):=d2
       injection e3 with e3 e4
       injection e4 with e4 e5
       rw[←e3,←e4,←e5]at e2
       exact a2 e2.symm
      ·intro q;cases q
     ·unfold frac
      rw[d2]
      exact e2
   obtain⟨r,hN,hr,hr0,hfr⟩:=hform
   rw[hN]at h
   by_cases hbig:1000*num w+r>1000000000000
   ·rw[od hbig]at h;injection h with _ h;cases h
   ·rw[oc hbig]at h
    injection h with h _
    have hdd:=dd_uniq _ w rfl hw
    have htx:txtU (1000*num w+r)=body:=by
     unfold txtU
     rw[show (1000*num w+r) / 1000=num w by omega,show (1000*num w+r) % 1000=r by omega,hdd,hb.1]
     cases pt with
     | false=>rw[od (hr0.2 rfl)];rfl
     | true =>
      rw[oc (λq=>by have:=hr0.1 q;cases this),hfr rfl];rfl
    rw[hs]
    unfold txtV
    cases neg with
    | false =>
     rw[oc (by simp)]at h
     rw[←h,oc (by omega),oc (by simp),show ((1000*num w+r:Nat):Int).natAbs=1000*num w+r by omega,htx]
    | true =>
     rw[od rfl]at h
     have hne:1000*num w+r≠0:=by
      intro e
      have hw0:num w=0:=by omega
      have hr1:r=0:=by omega
      have hpt:=hr0.1 hr1
      subst hpt
      apply hnz
      refine⟨rfl,?_⟩
      rw[hw0,dd_small (by omega)]at hdd
      rw[hb.1,←hdd];rfl
     rw[←h,od (by omega),od rfl,show (-((1000*num w+r:Nat):Int)).natAbs=1000*num w+r by omega,htx]
abbrev V5:=Int×Int×Int×Bool×Bool
def vF (i206 : Nat) (c208 : UInt8) (v207 : V5) : Option (Ex (Ex (Int × Int) V5) V5) :=
        bindX (if (((i206 : Int) == 0) && ((c208.toNat : Int) == 45)) = true then
              some (.go (v207.1,v207.2.1,v207.2.2.1,true,v207.2.2.2.2))
            else
              if (((c208.toNat:Int)==46)&&((decide (v207.2.2.1<0))&&(decide ((i206:Int)>0))))=true then
                some (.go (v207.1,v207.2.1,0,v207.2.2.2.1,v207.2.2.2.2))
              else
                if ((decide ((c208.toNat:Int)≥48))&&((decide ((c208.toNat:Int)≤57))&&(decide (v207.2.2.1<0))))=true then
                  if (decide ((IntKind.u64.wrap ((IntKind.u64.wrap (10*v207.1))+(IntKind.u64.wrap (IntKind.u8.wrap ((c208.toNat:Int)-48)))))>1000000000000))=true then
                    some (.go (1000000000000,v207.2.1,v207.2.2.1,v207.2.2.2.1,true))
                  else
                    some (.go (IntKind.u64.wrap ((IntKind.u64.wrap (10*v207.1))+(IntKind.u64.wrap (IntKind.u8.wrap ((c208.toNat:Int)-48)))),v207.2.1,v207.2.2.1,v207.2.2.2.1,v207.2.2.2.2))
                else
                  if ((decide ((c208.toNat:Int)≥48))&&((decide ((c208.toNat:Int)≤57))&&(decide (v207.2.2.1<3))))=true then
                    some (.go (v207.1,IntKind.u64.wrap ((IntKind.u64.wrap (10*v207.2.1))+(IntKind.u64.wrap (IntKind.u8.wrap ((c208.toNat:Int)-48)))),IntKind.i64.wrap (v207.2.2.1+1),v207.2.2.2.1,v207.2.2.2.2))
                  else
                    some (.ret (.ret (.ret (0,2))))) λ(v209:Int×Int×Int×Bool×Bool) =>
        some (.go (v209.1,v209.2.1,v209.2.2.1,v209.2.2.2.1,v209.2.2.2.2))
def vD(v207:V5):Option (Ex (Int×Int) V5):=some (.go (v207.1,v207.2.1,v207.2.2.1,v207.2.2.2.1,v207.2.2.2.2))
variable {ν ε:Type}{d:ν→Option ε}{α:Type}{f:Nat→α→ν→Option (Ex ε ν)}{i:Nat}{l:List α}
theorem rx_go{x:α}{v v':ν}(h:f i x v=some (.go v')):az f d (x::l) i v=az f d l (i+1) v':=by
 conv=>lhs;unfold az
 rw[h]
theorem rx_ret{x:α}{v:ν}{e:ε}(h:f i x v=some (.ret e)):az f d (x::l) i v=some e:=by
 conv=>lhs;unfold az
 rw[h]
theorem tw_mem{p:UInt8→Bool}:∀(l:List UInt8),(l.takeWhile p).all p=true
 | []=>rfl
 | c::l=>by
  rw[zJ]
  cases h:p c with
  | true=>rw[od rfl,zF,h,tw_mem l];rfl
  | false=>rfl
theorem wrap_u8(n:Int):IntKind.u8.wrap n=n % 256:=by simp[IntKind.wrap,IntKind.bits,IntKind.signed]
theorem notD(h:isD c=false):(decide ((c.toNat:Int)≥48)&&decide ((c.toNat:Int)≤57))=false:=by
 rw[←h]
 unfold isD
 congr 1<;>(rw[zB];simp only[oo];omega)
theorem c46(c:UInt8):((c.toNat:Int)==46)=(c==46):=by
 rw[zB]
 simp only[beq_iff_eq]
 constructor
 ·intro h;exact UInt8.toNat_inj.1 (by have:(46:UInt8).toNat=46:=rfl;omega)
 ·intro h;subst h;rfl
theorem c45(c:UInt8):((c.toNat:Int)==45)=(c==45):=by
 rw[zB]
 simp only[beq_iff_eq]
 constructor
 ·intro h;exact UInt8.toNat_inj.1 (by have:(45:UInt8).toNat=45:=rfl;omega)
 ·intro h;subst h;rfl
def capS(v:Nat×Bool)(c:UInt8):Nat×Bool:=if 10*v.1+dv c>1000000000000 then (1000000000000,true)else (10*v.1+dv c,v.2)
theorem vF_dig(i:Nat)(c:UInt8)(a:Nat)(b:Int)(neg g:Bool)(hc:isD c=true)(ha:a≤1000000000000):vF i c ((a:Int),b,-1,neg,g)=some (.go (((capS (a,g) c).1:Int),b,-1,neg,(capS (a,g) c).2)):=by
 have h:=lU.1 hc
 obtain⟨n1,n2⟩:=dig_ne hc
 unfold vF
 rw[c45,c46,show (c==45)=false by simpa using n2,show (c==46)=false by simpa using n1]
 simp only[zU,zE,oe,Bool.false_and]
 rw[oh (show (c.toNat:Int)≥48 by omega),oh (show (c.toNat:Int)≤57 by omega),oh (show (-1:Int)<0 by omega)]
 simp only[Bool.and_self,og]
 have hw:IntKind.u64.wrap ((IntKind.u64.wrap (10*(a:Int)))+(IntKind.u64.wrap (IntKind.u8.wrap ((c.toNat:Int)-48))))=((10*a+dv c:Nat):Int):=by
  rw[eJ,eJ,eJ,wrap_u8]
  unfold dv
  omega
 rw[hw]
 unfold capS
 simp only
 by_cases hb:10*a+dv c>1000000000000
 ·rw[oh (show ((10*a+dv c:Nat):Int)>1000000000000 by omega),od rfl,od hb];rfl
 ·rw[oi (show ¬((10*a+dv c:Nat):Int)>1000000000000 by omega),oc (by simp),oc hb];rfl
theorem cap_le(v:Nat×Bool)(c:UInt8):(capS v c).1≤1000000000000:=by
 unfold capS;split<;>simp;omega
theorem vF_digs:∀(w r:List UInt8) (i a:Nat) (neg g:Bool),w.all isD=true→a≤1000000000000→az vF vD (w++r) i ((a:Int),0,-1,neg,g)=az vF vD r (i+w.length) (((w.foldl capS (a,g)).1:Int),0,-1,neg,(w.foldl capS (a,g)).2)
 | [],r,i,a,neg,g,_,_=>rfl
 | c::w,r,i,a,neg,g,h,ha=>by
  simp only[zF,zA]at h
  have ih:=vF_digs w r (i+1) (capS (a,g) c).1 neg (capS (a,g) c).2 h.2 (cap_le _ _)
  rw[zN,rx_go (vF_dig i c a 0 neg g h.1 ha),ih,zR,zG,show i+1+w.length=i+(w.length+1) by omega]
theorem cap_max:∀(w:List UInt8) (g:Bool),w.foldl capS (1000000000000,true)=(1000000000000,true)
 | [],_=>rfl
 | c::w,g=>by
  rw[zR]
  have:capS (1000000000000,true) c=(1000000000000,true):=by unfold capS;rw[od (by simp only;omega)]
  rw[this,cap_max w g]
theorem cap_num:∀(w:List UInt8) (a:Nat),a≤1000000000000→w.foldl capS (a,false)=if numA a w≤1000000000000 then (numA a w,false)else (1000000000000,true)
 | [],a,h=>by rw[numA_nil,od h];rfl
 | c::w,a,h=>by
  rw[zR,numA_cons]
  have hge:=numA_ge w (10*a+dv c)
  by_cases hb:10*a+dv c>1000000000000
  ·rw[show capS (a,false) c=(1000000000000,true) from od hb,cap_max w false,oc (by omega)]
  ·rw[show capS (a,false) c=(10*a+dv c,false) from oc hb]
   exact cap_num w _ (by omega)
theorem vF_part(i:Nat)(c:UInt8)(A:Int)(b k:Nat)(neg g:Bool)(hc:isD c=true)(hb:b≤1000000)(hk:k<3):vF i c (A,(b:Int),(k:Int),neg,g)=some (.go (A,((10*b+dv c:Nat):Int),((k+1:Nat):Int),neg,g)):=by
 have h:=lU.1 hc
 obtain⟨n1,n2⟩:=dig_ne hc
 unfold vF
 rw[c45,c46,show (c==45)=false by simpa using n2,show (c==46)=false by simpa using n1]
 simp only[zU,zE,oe,Bool.false_and]
 rw[oh (show (c.toNat:Int)≥48 by omega),oh (show (c.toNat:Int)≤57 by omega),oi (show ¬(k:Int)<0 by omega),oh (show (k:Int)<3 by omega)]
 simp only[Bool.and_self,zU,zE,oe,og]
 have hw:IntKind.u64.wrap ((IntKind.u64.wrap (10*(b:Int)))+(IntKind.u64.wrap (IntKind.u8.wrap ((c.toNat:Int)-48))))=((10*b+dv c:Nat):Int):=by
  rw[eJ,eJ,eJ,wrap_u8]
  unfold dv
  omega
 rw[hw,am (by omega) (by omega)]
 rfl
theorem vF_err(i:Nat)(c:UInt8)(v:V5)(h1:¬(i=0∧c=45))(h2:¬(c=46∧v.2.2.1<0∧0<i))(h3:isD c=false∨3≤v.2.2.1):vF i c v=some (.ret (.ret (0,2))):=by
 unfold vF
 rw[c45,c46]
 have e1:(((i:Int)==0)&&(c==45))=false:=by
  by_cases q:i=0
  ·by_cases q2:c=45
   ·exact absurd ⟨q,q2⟩ h1
   ·simp[q2]
  ·have:((i:Int)==0)=false:=by simp;omega
   rw[this];rfl
 have e2:((c==46)&&(decide (v.2.2.1<0)&&decide ((i:Int)>0)))=false:=by
  by_cases q:c=46
  ·by_cases q2:v.2.2.1<0
   ·have:¬0<i:=λq3=>h2 ⟨q,q2,q3⟩
    have:decide ((i:Int)>0)=false:=oi (by omega)
    rw[this];simp
   ·simp[q2]
  ·simp[q]
 rw[e1,e2]
 simp only[zE,oe]
 rcases h3 with h3 | h3
 ·have:=notD h3
  rw[←Bool.and_assoc,←Bool.and_assoc,this]
  rfl
 ·rw[oi (show ¬v.2.2.1<0 by omega),oi (show ¬v.2.2.1<3 by omega)]
  simp only[zU,zE,oe]
  rfl
theorem vF_parts:∀(p:List UInt8) (i:Nat) (A:Int) (b k:Nat) (neg g:Bool),0<i→k≤3→b<10 ^ k→az vF vD p i (A,(b:Int),(k:Int),neg,g)=if p.all isD=true∧k+p.length≤3 then some (.go (A,(numA b p:Int),((k+p.length:Nat):Int),neg,g))else some (.ret (0,2))
 | [],i,A,b,k,neg,g,_,hk,_=>by
  rw[od ⟨rfl,by simpa using hk⟩];rfl
 | c::p,i,A,b,k,neg,g,hi,hk,hb=>by
  have hb3:b≤1000000:=by
   have:10 ^ k≤10 ^ 3:=zM (by omega) hk
   omega
  by_cases hgo:isD c=true∧k<3
  ·rw[rx_go (vF_part i c A b k neg g hgo.1 hb3 hgo.2)]
   have hd:=dv_lt hgo.1
   rw[vF_parts p (i+1) A (10*b+dv c) (k+1) neg g (by omega) (by omega) (by rw[Nat.pow_succ];omega),numA_cons]
   by_cases hq:p.all isD=true∧k+1+p.length≤3
   ·rw[od hq,od ⟨by simp[hgo.1,hq.1],by simp;omega⟩,zG,show k+1+p.length=k+(p.length+1) by omega]
   ·rw[oc hq,oc]
    rintro⟨q1,q2⟩
    simp only[zF,zA,zG]at q1 q2
    exact hq ⟨q1.2,by omega⟩
  ·rw[rx_ret (vF_err i c _ (by omega) (by simp only;omega) (by
    simp only
    cases hc:isD c with
    | false=>exact .inl rfl
    | true=>right;have:¬k<3:=λq=>hgo ⟨hc,q⟩;omega)),oc]
   rintro⟨q1,q2⟩
   simp only[zF,zA,zG]at q1 q2
   exact hgo ⟨q1.1,by omega⟩
def vRun(neg:Bool)(w p:List UInt8)(pt:Bool):Ex (Int×Int) V5 :=
 .go (((w.foldl capS (0,false)).1:Int),(num p:Int),(if pt=true then (p.length:Int)else -1),neg,(w.foldl capS (0,false)).2)
theorem dw_cases(l:List UInt8):∃w r,l=w++r∧w.all isD=true∧(r=[]∨∃c q,r=c::q∧isD c=false):=by
 refine⟨l.takeWhile isD,l.dropWhile isD,List.takeWhile_append_dropWhile.symm,?_,?_⟩
 ·exact tw_mem l
 ·have:=List.head?_dropWhile_not isD l
  cases hd:l.dropWhile isD with
  | nil=>exact .inl rfl
  | cons c q=>rw[hd]at this;exact .inr ⟨c,q,rfl,by simpa using this⟩
theorem vRun_eq(s:List UInt8):∃neg body w p pt,kC s=(neg,body)∧cutV body=(w,p,pt)∧((badV neg body w p pt=true∧az vF vD s 0 (0,0,-1,false,false)=some (.ret (0,2)))∨(az vF vD s 0 (0,0,-1,false,false)=some (vRun neg w p pt)∧w.all isD=true∧(pt=true→p.all isD=true∧p.length≤3)∧(pt=false→p=[])∧body=w++(if pt=true then 46::p else [])∧s=(if neg=true then [45]else [])++body)):=by
 have hs:=strip_inv s
 obtain⟨⟨neg,body⟩,hst⟩:∃st,kC s=st:=⟨_,rfl⟩
 obtain⟨⟨w,p,pt⟩,hcv⟩:∃cv,cutV body=cv:=⟨_,rfl⟩
 refine⟨neg,body,w,p,pt,hst,hcv,?_⟩
 rw[hst]at hs
 simp only at hs
 have hb:=cutV_inv body
 rw[hcv]at hb
 simp only at hb
 -- the sign
 have h0:az vF vD s 0 (0,0,-1,false,false)=az vF vD body (if neg=true then 1 else 0) (((0:Nat):Int),0,-1,neg,false):=by
  rw[hs]
  cases neg with
  | false=>rfl
  | true=>rfl
 have hnd:neg=false→body.head?≠some 45:=by
  intro q e
  subst q
  cases s with
  | nil=>cases hst;cases e
  | cons c r =>
   rw[mf]at hst
   by_cases hc:c=45
   ·rw[od hc]at hst;cases hst
   ·rw[oc hc]at hst
    injection hst with _ hst
    subst hst
    exact hc (by simpa using e)
 obtain⟨W,R,hWR,hW,hR⟩:=dw_cases body
 have hrun:∀i,az vF vD body i (((0:Nat):Int),0,-1,neg,false)=az vF vD R (i+W.length) (((W.foldl capS (0,false)).1:Int),0,-1,neg,(W.foldl capS (0,false)).2):=λi=>by
  rw[hWR];exact vF_digs W R i 0 neg false hW (by omega)
 rw[h0,hrun]
 rcases hR with rfl | ⟨c,q,rfl,hc⟩
 ·right
  rw[zH]at hWR
  have h1:cutV body=(W,[],false):=by
   have:=cutV_of W [] false hW (λ_=>rfl)
   rw[oc (by simp),zH]at this
   rw[hWR];exact this
  rw[hcv]at h1
  injection h1 with h1 h2
  injection h2 with h2 h3
  subst h1;subst h2;subst h3
  exact⟨rfl,hW,(λq=>by cases q),(λ_=>rfl),hb.1,hs⟩
 ·by_cases h46:c=46
  ·subst h46
   have h1:cutV body=(W,q,true):=by
    have:=cutV_of W q true hW (λq=>by cases q)
    rw[od rfl]at this
    rw[hWR];exact this
   rw[hcv]at h1
   injection h1 with h1 h2
   injection h2 with h2 h3
   subst h1;subst h2;subst h3
   by_cases hpos:0<(if neg=true then 1 else 0)+w.length
   ·have hdot:az vF vD (46::p) ((if neg=true then 1 else 0)+w.length) (((w.foldl capS (0,false)).1:Int),0,-1,neg,(w.foldl capS (0,false)).2)=az vF vD p ((if neg=true then 1 else 0)+w.length+1) (((w.foldl capS (0,false)).1:Int),((0:Nat):Int),((0:Nat):Int),neg,(w.foldl capS (0,false)).2):=by
     refine rx_go ?_
     unfold vF
     have e1:((((((if neg=true then 1 else 0)+w.length:Nat):Int)==0))&&(((46:UInt8).toNat:Int)==45))=false:=by
      rw[show ((((46:UInt8).toNat:Int))==45)=false from rfl,zU]
     have e2:((((46:UInt8).toNat:Int)==46)&&((decide ((-1:Int)<0))&&(decide ((((if neg=true then 1 else 0)+w.length:Nat):Int)>0))))=true:=by
      rw[show ((((46:UInt8).toNat:Int))==46)=true from rfl,oh (show (((if neg=true then 1 else 0)+w.length:Nat):Int)>0 by omega)]
      rfl
     rw[e1,oc (by simp),e2,od rfl]
     rfl
    rw[hdot,vF_parts p _ _ 0 0 neg _ (by omega) (by omega) (by simp)]
    by_cases hq:p.all isD=true∧0+p.length≤3
    ·right
     rw[od hq]
     refine⟨?_,hW,λ_=>⟨hq.1,by omega⟩,(λq=>by cases q),hb.1,hs⟩
     unfold vRun
     rw[od rfl,Nat.zero_add];rfl
    ·left
     rw[oc hq]
     refine⟨?_,rfl⟩
     unfold badV badP digB
     by_cases q1:p.all isD=true
     ·have:decide (3<p.length)=true:=oh (Nat.lt_of_not_le λq=>hq ⟨q1,by omega⟩)
      rw[this];simp
     ·have:p.all isD=false:=by simpa using q1
      rw[this];simp
   ·left
    have hneg:neg=false:=by cases neg with | false=>rfl | true=>exact absurd (by rw[od rfl];omega) hpos
    subst hneg
    have hw0:w=[]:=zP (by rw[oc (by simp)]at hpos;omega)
    subst hw0
    exact⟨rfl,rx_ret (vF_err _ 46 _ (by rintro⟨_,e⟩;cases e) (by rintro⟨_,_,e⟩;exact absurd e (by simp)) (.inl rfl))⟩
  ·left
   refine⟨?_,?_⟩
   ·unfold badV
    have htw:w=(W++c::q).takeWhile (· != 46):=by
     have:=congrArg Prod.fst hcv
     rw[hWR]at this
     exact this.symm
    have hcw:c∈w:=by
     rw[htw,List.takeWhile_append_of_pos (by
      intro a ha
      have:=List.all_eq_true.1 hW a ha
      simpa using (dig_ne this).1)]
     rw[zJ,od (by simpa using h46)]
     simp
    have:digB w=false:=by
     unfold digB
     have:w.all isD=false:=by
      cases hh:w.all isD with
      | false=>rfl
      | true=>have:=List.all_eq_true.1 hh c hcw;rw[hc]at this;cases this
     rw[this];rfl
    rw[this];rfl
   ·refine rx_ret (vF_err _ c _ (by
     rintro⟨e1,e2⟩
     have hneg:neg=false:=by cases neg with | false=>rfl | true=>rw[od rfl]at e1;omega
     have hw0:W=[]:=zP (by omega)
     subst hw0
     apply hnd hneg
     rw[hWR,e2];rfl) (λe=>h46 e.1) (.inl hc))
def cF (i139 : Nat) (c141 : UInt8) (v140 : Int) : Option (Ex Int Int) :=
        ah (if ((c141.toNat : Int) == 46) = true then
              some (i139:Int)
            else
              some v140) λ(v142:Int) =>
        some (.go v142)
def cD(v140:Int):Option Int:=some v140
theorem cF_digs:∀(w r:List UInt8) (i:Nat) (v:Int),w.all isD=true→az cF cD (w++r) i v=az cF cD r (i+w.length) v
 | [],_,_,_,_=>rfl
 | c::w,r,i,v,h=>by
  simp only[zF,zA]at h
  have hc:cF i c v=some (.go v):=by
   unfold cF
   rw[c46,show (c==46)=false by simpa using (dig_ne h.1).1];rfl
  rw[zN,rx_go hc,cF_digs w r (i+1) v h.2,zG,show i+1+w.length=i+(w.length+1) by omega]
theorem point_eq(w p:List UInt8)(pt:Bool)(v:Int)(hw:w.all isD=true)(hp:pt=true→p.all isD=true):az cF cD (w++(if pt=true then 46::p else [])) 0 v=some (if pt=true then (w.length:Int)else v):=by
 rw[cF_digs w _ 0 v hw,Nat.zero_add]
 cases pt with
 | false=>rfl
 | true =>
  have h1:=cF_digs p [] (w.length+1) (w.length:Int) (hp rfl)
  rw[zH]at h1
  have h2:cF w.length 46 v=some (.go (w.length:Int)):=rfl
  rw[od rfl,od rfl,rx_go h2,h1]
  rfl
def canB(body:List UInt8):Option Bool :=
  ah (av (be body) (az cF cD body 0 (body.length:Int))) λ(v124:Int) =>
  ah (if (v124 == 0) = true then
        some true
      else
        if (decide (v124>1))=true then
          ah (gt body 0) λ(c143:UInt8) =>
          some ((c143.toNat:Int)==48)
        else
          some false) λ(v144:Bool) =>
  if v144=true then
    some false
  else
    ah (if (v124 == (body.length : Int)) = true then
          some true
        else
          if (decide (v124<(IntKind.i64.wrap ((body.length:Int)-1))))=true then
            ah (gt body (IntKind.i64.wrap ((body.length:Int)-1))) λ(c145:UInt8) =>
            some ((c145.toNat:Int) != 48)
          else
            some false) λ(v146:Bool) =>
    some v146
def badB(w p:List UInt8)(pt:Bool):Bool:=!digB w||((decide (1<w.length)&&w.head? == some 48)||(pt&&(!digB p||p.getLast? == some 48)))
theorem canB_eq(w p:List UInt8)(pt:Bool)(hw:w.all isD=true)(hp:pt=true→p.all isD=true)(hl:(w++(if pt=true then 46::p else [])).length≤1000000):canB (w++(if pt=true then 46::p else []))=some (!badB w p pt):=by
  obtain⟨body,hb⟩:∃body,body=w++(if pt=true then 46::p else []):=⟨_,rfl⟩
  unfold canB
  rw[aK (by omega),aN,point_eq w p pt _ hw hp,←hb,ae]
  rw[←hb]at hl
  have hv:(if pt=true then (w.length:Int)else (body.length:Int))=(w.length:Int):=by
    cases pt with
    | true=>rfl
    | false=>rw[hb];simp
  rw[hv]
  unfold badB
  cases w with
  | nil=>rfl
  | cons c r =>
    have hd:digB (c::r)=true:=digB_of hw (by simp)
    rw[hd,show ((((c::r).length:Nat):Int)==0)=false by simp;omega,oc (by simp)]
    have hg:gt body 0=some c:=by rw[hb];rfl
    have e1:decide (((c::r).length:Int)>1)=decide (1<(c::r).length):=by
      rw[zB];simp only[oo];omega
    rw[hg,e1,ae,c48,show ((c::r).head? == some 48)=(c==48) from rfl]
    have hrest : (if ((((c :: r).length : Nat) : Int) == (body.length : Int)) = true then
          some true
        else
          if (decide ((((c::r).length:Nat):Int)<(IntKind.i64.wrap ((body.length:Int)-1))))=true then
            ah (gt body (IntKind.i64.wrap ((body.length:Int)-1))) λ(c145:UInt8) =>
            some ((c145.toNat:Int) != 48)
          else
            some false)=some (!(pt&&(!digB p||p.getLast? == some 48))):=by
      cases pt with
      | false =>
        rw[oc (by simp),zH]at hb
        rw[hb]
        simp
      | true =>
        rw[od rfl]at hb
        have hlen:body.length=(c::r).length+(p.length+1):=by rw[hb];simp;omega
        rw[show ((((c::r).length:Nat):Int)==(body.length:Int))=false by rw[hlen];simp;omega,oc (by simp)]
        cases hpn:p with
        | nil =>
          rw[hpn]at hlen
          rw[am (by omega) (by omega),oi (by simp only[zX]at hlen;omega)]
          rfl
        | cons a q =>
          have hpne:p≠[]:=by rw[hpn];simp
          have hbne:body≠[]:=by rw[hb];simp
          obtain⟨x,h1,h2⟩:=last_gt body hbne hl
          have hlast:body.getLast? = p.getLast?:=by
            rw[hb,List.getLast?_append,List.getLast?_cons,hpn]
            simp[List.getLast?_cons]
          rw[hlast,hpn]at h2
          have hpos:0<p.length:=List.length_pos_iff.2 hpne
          have hdp:digB (a::q)=true:=by rw[←hpn];exact digB_of (hp rfl) hpne
          rw[oh (show (((c::r).length:Nat):Int)<IntKind.i64.wrap ((body.length:Int)-1) by rw[am (by omega) (by omega)];omega),od rfl,h1,ae,hdp,h2]
          have:((x.toNat:Int) != 48)=!(x==48):=by
            show (!((x.toNat:Int)==48))=_
            rw[c48]
          rw[this]
          rfl
    rw[hrest]
    cases decide (1<(c::r).length)<;>cases (c==48)<;>cases (pt&&(!digB p||p.getLast? == some 48))<;>rfl
theorem canon_eq (neg : Bool) (w p : List UInt8) (pt : Bool) (hw : w.all isD = true) (hp : pt = true → p.all isD = true ∧ p.length ≤ 3) (hp0 : pt = false → p = []) (hl : (w ++ (if pt = true then 46 :: p else [])).length ≤ 100000) :
    ed ((if neg=true then [45]else [])++(w++(if pt=true then 46::p else [])))=some (!badV neg (w++(if pt=true then 46::p else [])) w p pt):=by
  have hB:=canB_eq w p pt hw (λq=>(hp q).1) (by omega)
  have hbad:badV neg (w++(if pt=true then 46::p else [])) w p pt=(badB w p pt||(neg&&(w++(if pt=true then 46::p else []))==[48])):=by
    unfold badV badB badP
    have h3:(pt&&(!digB p||(decide (3<p.length)||p.getLast? == some 48)))=(pt&&(!digB p||p.getLast? == some 48)):=by
      cases pt with
      | false=>rfl
      | true=>rw[oi (show ¬3<p.length by have:=(hp rfl).2;omega),Bool.false_or]
    rw[h3]
    cases digB w<;>cases (decide (1<w.length)&&w.head? == some 48)<;>cases (pt&&(!digB p||p.getLast? == some 48))<;>rfl
  have hhead:(w++(if pt=true then 46::p else [])).head?≠some 45:=by
    cases w with
    | nil=>cases pt<;>simp
    | cons c r =>
      simp only[zF,zA]at hw
      simp only[zN,List.head?_cons,ne_eq,Option.some.injEq]
      exact (dig_ne hw.1).2
  generalize w++(if pt=true then 46::p else [])=body at *
  rw[hbad]
  have hsame : ∀ l : List UInt8, (ah (av (be l) (
      az (λ(i139:Nat) (c141:UInt8) (v140:Int) =>
        ah (if ((c141.toNat : Int) == 46) = true then
              some (i139:Int)
            else
              some v140) λ(v142:Int) =>
        some (.go v142)) (λ(v140:Int)=>some v140) l 0 (l.length:Int))) λ(v124:Int) =>
  ah (if (v124 == 0) = true then
        some true
      else
        if (decide (v124>1))=true then
          ah (gt l 0) λ(c143:UInt8) =>
          some ((c143.toNat:Int)==48)
        else
          some false) λ(v144:Bool) =>
  if v144=true then
    some false
  else
    ah (if (v124 == (l.length : Int)) = true then
          some true
        else
          if (decide (v124<(IntKind.i64.wrap ((l.length:Int)-1))))=true then
            ah (gt l (IntKind.i64.wrap ((l.length:Int)-1))) λ(c145:UInt8) =>
            some ((c145.toNat:Int) != 48)
          else
            some false) λ(v146:Bool) =>
    some v146)=canB l:=λl=>rfl
  (unfold ed;try delta jB jC jR rF)
  simp only[hsame]
  cases neg with
  | true =>
    have h1:decide (((([45]:List UInt8)++body).length:Int)>0)=true:=oh (by simp)
    rw[od rfl,h1,od rfl,show gt (([45]:List UInt8)++body) 0=some 45 from rfl,ae,ae]
    rw[show (((45:UInt8).toNat:Int)==45)=true from rfl,od rfl]
    have h2:((([45]:List UInt8)++body)==[45,48])=(body==[48]):=rfl
    rw[h2,Bool.true_and]
    cases (body==[48])with
    | true=>rw[Bool.or_true];rfl
    | false =>
      have h3:cutF (([45]:List UInt8)++body) 1=some body:=by unfold cutF;rw[oc (by simp;omega)];rfl
      rw[oc (by simp),h3,ae,d5,hB,Bool.or_false]
  | false =>
    rw[show ((if false=true then ([45]:List UInt8)else [])++body)=body from rfl,Bool.false_and,Bool.or_false]
    have h1 : (if (decide ((body.length : Int) > 0)) = true then
        ah (gt body 0) λ(c101:UInt8) =>
        some ((c101.toNat:Int)==45)
      else
        some false)=some false:=by
      cases body with
      | nil=>rfl
      | cons c r =>
        rw[oh (show ((c::r).length:Int)>0 by simp),od rfl,show gt (c::r) 0=some c from rfl,ae,c45]
        have:(c==45)=false:=by
          simp only[List.head?_cons,ne_eq,Option.some.injEq]at hhead
          simpa using hhead
        rw[this]
    rw[h1,ae,oc (by simp),d5,hB]
theorem places_eq (b k : Nat) (pt : Bool) (hb : b < 1000) (hk : pt = true → 1 ≤ k ∧ k ≤ 3) : bt (λ(v223 : Int × Int) =>
          if ((decide (v223.2≥0))&&(decide (v223.2<3)))=true then
            some (.go (IntKind.u64.wrap (10*v223.1),IntKind.i64.wrap (v223.2+1)))
          else
            some (.ret v223.1)) fuel ((b:Int),(if pt=true then (k:Int)else -1))=some (((if pt=true then b*10 ^ (3-k)else b:Nat)):Int):=by
  cases pt with
  | false =>
    have key : Tot (bt (λ(v223 : Int × Int) =>
          if ((decide (v223.2≥0))&&(decide (v223.2<3)))=true then
            some (.go (IntKind.u64.wrap (10*v223.1),IntKind.i64.wrap (v223.2+1)))
          else
            some (.ret v223.1)) fuel ((b:Int),-1)) (λo=>o=(b:Int)):=by
      refine Tot.loop (λm v=>v=((b:Int),-1)) _ 0 (bK (by omega)) rfl (λm v hr=>?_)
      subst hr
      exact .ret rfl
    obtain⟨o,ho,rfl⟩:=key
    exact ho
  | true =>
    obtain⟨k1,k3⟩:=hk rfl
    rw[od rfl,od rfl]
    have key : Tot (bt (λ(v223 : Int × Int) =>
          if ((decide (v223.2≥0))&&(decide (v223.2<3)))=true then
            some (.go (IntKind.u64.wrap (10*v223.1),IntKind.i64.wrap (v223.2+1)))
          else
            some (.ret v223.1)) fuel ((b:Int),(k:Int))) (λo=>o=((b*10 ^ (3-k):Nat):Int)):=by
      refine Tot.loop (λm v=>∃j:Nat,v=(((b*10 ^ j:Nat):Int),((k+j:Nat):Int))∧k+j≤3∧m=3-k-j) _ (3-k) (bK (by omega)) ⟨0,by simp,by omega,by omega⟩ (λm v hr=>?_)
      obtain⟨j,rfl,hj,hm⟩:=hr
      have hpow:b*10 ^ j≤1000*100:=by
        have:10 ^ j≤10 ^ 2:=zM (by omega) (by omega)
        exact Nat.mul_le_mul (by omega) this
      refine TotX.ite (λh=>.go ⟨3-k-(j+1),?_,j+1,?_,?_,rfl⟩) (λh=>.ret ?_)
      · simp only[zA,oo]at h;omega
      · simp only[zA,oo]at h
        rw[eJ,am (by omega) (by omega),Nat.pow_succ,←Nat.mul_assoc]
        congr 1<;>omega
      · simp only[zA,oo]at h;omega
      · simp only[Bool.and_eq_false_iff,decide_eq_false_iff_not]at h
        have:j=3-k:=by omega
        rw[this]
    obtain⟨o,ho,rfl⟩:=key
    exact ho
theorem num_zer(k:Nat):num (zer k)=0:=by
 induction k with
 | zero=>rfl
 | succ k ih =>
  have:zer (k+1)=zer k++[48]:=by
   unfold zer
   rw[List.replicate_succ']
  rw[this,num_snoc,ih];rfl
theorem r41_Value_eq(s:List UInt8)(hs:s.length≤100000):lJ s=some (valV s):=by
  obtain⟨neg,body,w,p,pt,h1,h2,h3⟩:=vRun_eq s
  have hv:valV s=if badV neg body w p pt=true then (0,2)else valN neg w p:=by
    unfold valV;rw[h1];simp only;rw[h2]
  have hun:lJ s=bindX (av (be s) (az vF vD s 0 (0,0,-1,false,false))) λ(v155:Int×Int×Int×Bool×Bool) =>
  ah (ed s) λ(y210:Bool) =>
  if (!y210)=true then
    some (0,2)
  else
    ah (bt (λ(v223 : Int × Int) =>
          if ((decide (v223.2≥0))&&(decide (v223.2<3)))=true then
            some (.go (IntKind.u64.wrap (10*v223.1),IntKind.i64.wrap (v223.2+1)))
          else
            some (.ret v223.1)) fuel (v155.2.1,v155.2.2.1)) λ(v217:Int) =>
    if (v155.2.2.2.2||(decide ((IntKind.u64.wrap ((IntKind.u64.wrap (1000*v155.1))+v217))>1000000000000)))=true then
      some (0,11)
    else
      if v155.2.2.2.1=true then
        some (IntKind.i64.wrap (0-(IntKind.i64.wrap (IntKind.u64.wrap ((IntKind.u64.wrap (1000*v155.1))+v217)))),0)
      else
        some (IntKind.i64.wrap (IntKind.u64.wrap ((IntKind.u64.wrap (1000*v155.1))+v217)),0):=rfl
  rw[hun,aK (by omega),aN,hv]
  rcases h3 with⟨h3,h4⟩|⟨h3,hw,hp,hp0,hb,hsb⟩
  · rw[h3,h4,od rfl];rfl
  · rw[h3]
    unfold vRun
    rw[d5]
    have hbl:body.length≤s.length:=by rw[hsb];simp
    have hcan:=canon_eq neg w p pt hw hp hp0 (by rw[←hb];omega)
    rw[←hb,←hsb]at hcan
    rw[hcan,ae]
    cases hbad:badV neg body w p pt with
    | true=>rfl
    | false =>
      simp only[Bool.not_false,Bool.not_true,zE,oe]
      obtain⟨hcw,hpp,hnz⟩:=good_parts hbad
      have hnp:num p<1000∧(pt=true→1≤p.length∧p.length≤3):=by
        cases pt with
        | false=>rw[hp0 rfl];exact⟨by decide,λq=>by cases q⟩
        | true =>
          obtain⟨a1,a2,a3,_⟩:=hpp rfl
          have:=num_lt p a1
          have h5:(10:Nat) ^ p.length≤10 ^ 3:=zM (by omega) a3
          exact⟨by omega,λ_=>⟨List.length_pos_iff.2 a2,a3⟩⟩
      rw[places_eq (num p) p.length pt hnp.1 hnp.2,ae]
      have hT:(if pt=true then num p*10 ^ (3-p.length)else num p)=num (p++zer (3-p.length)):=by
        rw[num_app,num_zer]
        have hzl:(zer (3-p.length)).length=3-p.length:=by simp[zer]
        rw[hzl]
        cases pt with
        | true=>simp
        | false=>rw[hp0 rfl];rfl
      have hpl:p.length≤3:=by
        cases pt with
        | true=>exact (hnp.2 rfl).2
        | false=>rw[hp0 rfl];simp
      have hTl:num (p++zer (3-p.length))<1000:=by
        have h5:=num_lt (p++zer (3-p.length)) (by
          rw[zW,zer_dig]
          cases pt with
          | true=>rw[(hp rfl).1];rfl
          | false=>rw[hp0 rfl];rfl)
        have h6:(p++zer (3-p.length)).length=3:=by simp[zer];omega
        rw[h6]at h5
        exact h5
      have hN:num (w++p++zer (3-p.length))=1000*num w+num (p++zer (3-p.length)):=by
        rw[List.append_assoc,num_app]
        have h6:(p++zer (3-p.length)).length=3:=by simp[zer];omega
        rw[h6]
        omega
      rw[hT]
      unfold valN
      rw[hN]
      have hcap:=cap_num w 0 (by omega)
      have hnum0:numA 0 w=num w:=rfl
      rw[hnum0]at hcap
      generalize num (p++zer (3-p.length))=T at *
      by_cases hbig:num w≤1000000000000
      · rw[od hbig]at hcap
        rw[hcap]
        simp only[Bool.false_or]
        have hwv:IntKind.u64.wrap (IntKind.u64.wrap (1000*(num w:Int))+(T:Int))=((1000*num w+T:Nat):Int):=by
          rw[eJ,eJ];omega
        rw[hwv]
        by_cases h10:w.length>10
        · rw[od h10]
          have hge:=num_pos hw hcw.2.1 (hcw.2.2 (by omega))
          have h5:(10:Nat) ^ 10≤10 ^ (w.length-1):=zM (by omega) (by omega)
          rw[oh (show ((1000*num w+T:Nat):Int)>1000000000000 by omega),od rfl]
        · rw[oc h10]
          by_cases hM:1000*num w+T>1000000000000
          · rw[oh (show ((1000*num w+T:Nat):Int)>1000000000000 by omega),od rfl,od hM]
          · rw[oi (show ¬((1000*num w+T:Nat):Int)>1000000000000 by omega),oc (by simp),oc hM]
            have hwi:IntKind.i64.wrap ((1000*num w+T:Nat):Int)=((1000*num w+T:Nat):Int):=am (by omega) (by omega)
            rw[hwi]
            cases neg with
            | true=>rw[od rfl,od rfl,am (by omega) (by omega),Int.zero_sub]
            | false=>rfl
      · rw[oc hbig]at hcap
        rw[hcap]
        have h10:w.length>10∨w.length≤10:=by omega
        simp only[Bool.true_or,og]
        rcases h10 with h10 | h10
        · rw[od h10]
        · rw[oc (by omega),od (by omega)]
def nch(c:UInt8):Bool:=isD c||(c==45||c==46)
abbrev PR:=aa×Int×Int
def badR(a:Nat)(e:Int):PR:=(aa.mk false [] [],(a:Int),e)
def prC(sk:Bool)(ws:List ay)(a:Nat)(r:List UInt8):PR :=
 if (r.takeWhile prn).length>100 then badR a 3
 else if r.takeWhile prn=[]∨(r.dropWhile prn).head?≠some 41 then badR (a+1+(r.takeWhile prn).length) 2
 else if (r.dropWhile prn).drop 1≠[]then badR (a+1+(r.takeWhile prn).length+1) 2
 else (aa.mk sk ws (r.takeWhile prn),0,0)
def wordV(c:UInt8)(t:List UInt8):ay:=ay.mk (c.toNat:Int) (valV t).1
def prN(sk:Bool)(a:Nat)(ws:List ay)(K:Nat→List UInt8→PR):List UInt8→PR
 | []=>(aa.mk sk ws [],0,0)
 | d::q=>if d≠32 then badR a 2 else K (a+1) q
theorem prN_eq(sk:Bool)(a:Nat)(ws:List ay)(K:Nat→List UInt8→PR)(q:List UInt8):prN sk a ws K (32::q)=K (a+1) q:=rfl
theorem prN_ne(sk:Bool)(a:Nat)(ws:List ay)(K:Nat→List UInt8→PR){d:UInt8}(q:List UInt8)(h:d≠32):prN sk a ws K (d::q)=badR a 2:=od h
def prW(sk:Bool):Nat→Bool→Nat→List ay→List UInt8→PR
 | 0,_,a,_,_=>badR a 2
 | _+1,sp,a,ws,[]=>if sp=true then badR a 2 else (aa.mk sk ws [],0,0)
 | n+1,_,a,ws,c::r =>
  if c=40 then prC sk ws a r
  else if c.toNat<65∨c.toNat>90 then badR a 2
  else if ws.length=16 then badR a 3
  else if (valV (r.takeWhile nch)).2≠0 then badR a (valV (r.takeWhile nch)).2
  else prN sk (a+1+(r.takeWhile nch).length) (ws++[wordV c (r.takeWhile nch)]) (λb q=>prW sk n true b (ws++[wordV c (r.takeWhile nch)]) q) (r.dropWhile nch)
def prsV(s:List UInt8):PR:=if s.head? = some 47 then prW true (s.length+1) false 1 [] (s.drop 1)else prW false (s.length+1) false 0 [] s
variable {p:UInt8→Bool}{s:List UInt8}
theorem scan{f:Int→Option (Ex Int Int)}(hs:s.length≤1000000)(h1:∀(i:Nat) c,s[i]? = some c→f (i:Int)=if p c=true then some (.go ((i+1:Nat):Int))else some (.ret (i:Int)))(h2:f (s.length:Int)=some (.ret (s.length:Int)))(a:Nat)(ha:a≤s.length) :
  bt f fuel (a:Int)=some ((a+((s.drop a).takeWhile p).length:Nat):Int):=by
 have key:Tot (bt f fuel (a:Int)) (λo=>o=((a+((s.drop a).takeWhile p).length:Nat):Int)):=by
  refine Tot.loop (λm v=>∃i:Nat,v=(i:Int)∧i≤s.length∧m=s.length-i∧i+((s.drop i).takeWhile p).length=a+((s.drop a).takeWhile p).length) _ (s.length-a) (bK (by omega)) ⟨a,rfl,ha,rfl,rfl⟩ (λm v hr=>?_)
  obtain⟨i,rfl,hi,hm,ht⟩:=hr
  rcases zK hi with e | q
  ·subst e
   rw[h2]
   refine .ret ?_
   rw[←ht];simp
  ·have hx:=List.getElem?_eq_getElem q
   rw[h1 i _ hx]
   rw[zL q,zJ]at ht
   cases hp:p s[i]with
   | true =>
    rw[hp,od rfl,zG]at ht
    rw[od rfl]
    exact .go ⟨s.length-(i+1),by omega,i+1,rfl,by omega,rfl,by omega⟩
   | false =>
    rw[hp,oc (by simp),zX]at ht
    rw[oc (by simp)]
    refine .ret ?_
    rw[←ht];rfl
 obtain⟨o,ho,rfl⟩:=key
 exact ho
theorem eS(h:s[i]? = some c):((i:Int)==(s.length:Int))=false:=by
 have:=ak h
 simp;omega
variable {a:Nat}{r:List UInt8}
theorem cut_mid{t:List UInt8}(hd:s.drop a=r)(ht:r.takeWhile p=t)(ha:a≤s.length)(hs:s.length≤1000000):cutL s (a:Int) ((a+t.length:Nat):Int)=some t:=by
 have hl:=(tw_len p r).1
 have hrl:r.length=s.length-a:=by rw[←hd];simp
 rw[ht]at hl
 unfold cutL
 rw[oc (by omega)]
 congr 1
 rw[zI,zI,hd,←ht]
 have:=zD (p:=p) (l:=r)
 conv=>lhs;arg 2;rw[←this]
 rw[List.take_left' (by omega)]
theorem drop_tw(hd:s.drop a=r):s.drop (a+(r.takeWhile p).length)=r.dropWhile p:=by
 rw[←zT,hd]
 have:=zD (p:=p) (l:=r)
 conv=>lhs;arg 2;rw[←this]
 rw[List.drop_left' rfl]
theorem dw_at(hd:s.drop a=r):s[a+(r.takeWhile p).length]? = (r.dropWhile p).head?:=by
 have:=drop_tw (p:=p) hd
 rw[←this,List.head?_drop]
theorem number_eq(c:UInt8):kb (c.toNat:Int)=some (nch c):=by
 (unfold kb nch;try delta jV)
 rw[c45,c46]
 have h:isD c=(decide ((c.toNat:Int)≥48)&&decide ((c.toNat:Int)≤57)):=by
  unfold isD
  congr 1<;>(rw[zB];simp only[oo];omega)
 rw[h]
 cases decide ((c.toNat:Int)≥48)<;>simp
theorem number_val(c:UInt8):(((decide ((c.toNat:Int)≥48))&&(decide ((c.toNat:Int)≤57)))||(((c.toNat:Int)==45)||((c.toNat:Int)==46)))=nch c:=by
 unfold nch
 rw[c45,c46]
 have h:isD c=(decide ((c.toNat:Int)≥48)&&decide ((c.toNat:Int)≤57)):=by
  unfold isD
  congr 1<;>(rw[zB];simp only[oo];omega)
 rw[h]
theorem c40(c:UInt8):((c.toNat:Int)==40)=decide (c=40):=by
 rw[zB]
 simp only[beq_iff_eq,oo]
 constructor
 ·intro h;exact UInt8.toNat_inj.1 (by have:(40:UInt8).toNat=40:=rfl;omega)
 ·intro h;subst h;rfl
theorem c41(c:UInt8):((c.toNat:Int) != 41)=decide (c≠41):=by
 rw[zB]
 simp only[bne_iff_ne,ne_eq,oo]
 constructor
 ·intro h e;subst e;exact h rfl
 ·intro h e;exact h (UInt8.toNat_inj.1 (by have:(41:UInt8).toNat=41:=rfl;omega))
theorem c32(c:UInt8):((c.toNat:Int) != 32)=decide (c≠32):=by
 rw[zB]
 simp only[bne_iff_ne,ne_eq,oo]
 constructor
 ·intro h e;subst e;exact h rfl
 ·intro h e;exact h (UInt8.toNat_inj.1 (by have:(32:UInt8).toNat=32:=rfl;omega))
theorem c47(c:UInt8):((c.toNat:Int) != 47)=decide (c≠47):=by
 rw[zB]
 simp only[bne_iff_ne,ne_eq,oo]
 constructor
 ·intro h e;subst e;exact h rfl
 ·intro h e;exact h (UInt8.toNat_inj.1 (by have:(47:UInt8).toNat=47:=rfl;omega))
def bkOut(r:Int×bs):PR:=if (r.1 != 0)=true then (aa.mk false [] [],r.2.at_,r.1)else (r.2.b,0,0)
set_option maxHeartbeats 4000000 in
theorem bk_Parse_tot(s:List UInt8)(hs:s.length≤65536):Tot (bk_Parse s) (λr=>r=prsV s):=by
 (unfold bk_Parse;try delta jB jR lF jV gF iF)
 refine Tot.ite (λh=>absurd (oj h) (by omega)) (λ_=>?_)
 refine Tot.bind (E:=λr=>bkOut r=prsV s) ?_ (λr hr=>?_)
 ·refine Tot.bind (E:=λx:Bool×Int=>x=if s.head? = some 47 then (true,1)else (false,0)) ?_ (λx hx=>?_)
  ·cases s with
   | nil=>exact .ok rfl
   | cons c q =>
    have h0:((0:Int)==(((c::q).length:Nat):Int))=false:=by simp;omega
    rw[ae,h0,oc (by simp),show gt (c::q) 0=some c from rfl,ae,ae,c47]
    by_cases hc:c=47
    ·subst hc;exact .ok rfl
    ·rw[oh hc,od rfl]
     refine .ok ?_
     rw[oc (by simpa using hc)]
  ·obtain⟨sk,a0,hx2,ha0,hT⟩:∃(sk:Bool) (a0:Nat),x=(sk,(a0:Int))∧a0≤s.length∧prsV s=prW sk (s.length+1) false a0 [] (s.drop a0):=by
    unfold prsV
    by_cases hc:s.head? = some 47
    ·rw[od hc]at hx ⊢
     refine⟨true,1,hx,?_,rfl⟩
     cases s with
     | nil=>cases hc
     | cons c q=>simp
    ·rw[oc hc]at hx ⊢
     exact⟨false,0,hx,by omega,rfl⟩
   subst hx2
   rw[hT]
   generalize hTT:prW sk (s.length+1) false a0 [] (s.drop a0)=T
   refine Tot.loop (λm v=>∃(sp:Bool) (a:Nat) (ws:List ay),v=(sp,bs.mk s (a:Int) (aa.mk sk ws []))∧a≤s.length∧ws.length≤16∧s.length-a<m∧prW sk m sp a ws (s.drop a)=T) _ (s.length+1) (bK (by omega)) ⟨false,a0,[],rfl,ha0,by simp,by omega,hTT⟩ (λm v hr=>?_)
   obtain⟨sp,a,ws,rfl,ha,hws,hm,ht⟩:=hr
   obtain⟨n,rfl⟩:∃n,m=n+1:=⟨m-1,by omega⟩
   simp only[ae]
   rcases zK ha with e | hlt
   ·have hnil:s.drop a=[]:=by rw[e];simp
    rw[hnil]at ht
    rw[show ((a:Int)==(s.length:Int))=true by simp;omega,od rfl]
    cases sp with
    | true=>rw[od rfl];exact .ret (by rw[←ht];rfl)
    | false=>rw[oc (by simp)];exact .ret (by rw[←ht];rfl)
   ·obtain⟨c,hc⟩:∃c,s[a]? = some c:=⟨_,List.getElem?_eq_getElem hlt⟩
    have hdr:s.drop a=c::s.drop (a+1):=by
     rw[zL hlt]
     rw[List.getElem?_eq_getElem hlt]at hc;injection hc with hc;rw[hc]
    obtain⟨r,hr⟩:∃r,s.drop (a+1)=r:=⟨_,rfl⟩
    rw[hdr,hr]at ht
    have hw1:IntKind.i64.wrap ((a:Int)+1)=((a+1:Nat):Int):=by rw[am (by omega) (by omega)];omega
    have hrl:r.length=s.length-(a+1):=by rw[←hr];simp
    rw[eS hc,oc (by simp),gt_k hc,ae,c40,hw1]
    unfold prW at ht
    by_cases h40:c=40
    ·-- a comment
     rw[od h40]at ht
     rw[oh h40,od rfl]
     rw[scan (s:=s) (p:=prn) (by omega) (λi x hx=>by
      rw[eS hx,oc (by simp),gt_k hx,ae]
      (unfold fk;try delta jV)
      rw[ae,ae,am (by omega) (by have:=ak hx;omega)]
      rfl) (by rw[beq_self_eq_true,od rfl];rfl) (a+1) (by omega),ae,hr]
     have htl:=(tw_len prn r).1
     rw[cut_mid (p:=prn) hr rfl (by omega) (by omega),ae]
     unfold prC at ht
     by_cases h100:(r.takeWhile prn).length>100
     ·rw[od h100]at ht
      rw[oh (show (((r.takeWhile prn).length:Nat):Int)>100 by omega),od rfl,ae]
      exact .ret (by rw[←ht];rfl)
     ·rw[oc h100]at ht
      rw[oi (show ¬(((r.takeWhile prn).length:Nat):Int)>100 by omega),oc (by simp)]
      by_cases hnil:r.takeWhile prn=[]
      ·rw[od (.inl hnil)]at ht
       rw[hnil]at ht ⊢
       exact .ret (by rw[←ht];rfl)
      ·have hbe:(r.takeWhile prn==[])=false:=by simpa using hnil
       rw[hbe,oc (by simp)]
       have hat:=dw_at (p:=prn) hr
       rcases zK (show a+1+(r.takeWhile prn).length≤s.length by omega)with e | hlt2
       ·have hh:(r.dropWhile prn).head? = none:=by rw[←hat,e];simp
        rw[od (.inr (by rw[hh];simp))]at ht
        rw[show (((a+1+(r.takeWhile prn).length:Nat):Int)==(s.length:Int))=true by simp;omega,od rfl]
        exact .ret (by rw[←ht];rfl)
       ·obtain⟨d,hd⟩:∃d,s[a+1+(r.takeWhile prn).length]? = some d:=⟨_,List.getElem?_eq_getElem hlt2⟩
        rw[hd]at hat
        rw[eS hd,oc (by simp),gt_k hd,ae,ae,c41]
        have hw2:IntKind.i64.wrap (((a+1+(r.takeWhile prn).length:Nat):Int)+1)=((a+1+(r.takeWhile prn).length+1:Nat):Int):=by rw[am (by omega) (by omega)];omega
        by_cases h41:d=41
        ·rw[oi (by simpa using h41),oc (by simp),hw2,ae,ae,oc (by simp)]
         dsimp only
         rw[oc (by rw[←hat,h41];simpa using hnil)]at ht
         have hq:(r.dropWhile prn).drop 1=s.drop (a+1+(r.takeWhile prn).length+1):=by
          rw[←drop_tw (p:=prn) hr,zT]
         rw[hq]at ht
         by_cases hend:a+1+(r.takeWhile prn).length+1=s.length
         ·rw[oc (by rw[hend];simp)]at ht
          rw[show (((a+1+(r.takeWhile prn).length+1:Nat):Int)==(s.length:Int))=true by simp;omega]
          exact .ret (by rw[←ht];rfl)
         ·rw[od (by
           intro e2
           have:=congrArg zV e2
           simp at this;omega)]at ht
          rw[show (((a+1+(r.takeWhile prn).length+1:Nat):Int)==(s.length:Int))=false by simp;omega]
          exact .ret (by rw[←ht];rfl)
        ·rw[oh h41,od rfl,ae,ae]
         rw[od (.inr (by rw[←hat];simpa using h41))]at ht
         exact .ret (by rw[←ht];rfl)
    ·-- a word
     rw[oc h40]at ht
     rw[oi h40,oc (by simp),ae]
     have hlet:(decide ((c.toNat:Int)<65)||decide ((c.toNat:Int)>90))=decide (c.toNat<65∨c.toNat>90):=by
      rw[zB];simp only[Bool.or_eq_true,oo];omega
     rw[hlet]
     by_cases hl:c.toNat<65∨c.toNat>90
     ·rw[od hl]at ht
      rw[oh hl,od rfl]
      exact .ret (by rw[←ht];rfl)
     ·rw[oc hl]at ht
      rw[oi hl,oc (by simp)]
      by_cases h16:ws.length=16
      ·rw[od h16]at ht
       rw[show ((ws.length:Int)==16)=true by simp;omega,od rfl]
       exact .ret (by rw[←ht];rfl)
      ·rw[oc h16]at ht
       rw[show ((ws.length:Int)==16)=false by simp;omega,oc (by simp)]
       rw[scan (s:=s) (p:=nch) (by omega) (λi x hx=>by
        have hlx:=ak hx
        rw[oh (show (i:Int)<(s.length:Int) by omega),od rfl,gt_k hx,ae]
        rw[←number_val x,am (by omega) (by omega)]
        cases decide ((x.toNat:Int)≥48)<;>cases decide ((x.toNat:Int)≤57)<;>cases ((x.toNat:Int)==45)<;>rfl) (by rw[oi (by omega)];rfl) (a+1) (by omega),ae,hr]
       have htl:=(tw_len nch r).1
       rw[cut_mid (p:=nch) hr rfl (by omega) (by omega),ae,bk_Value_eq _ (by omega),ae]
       have hat:=dw_at (p:=nch) hr
       have hdw:=drop_tw (p:=nch) hr
       by_cases hv:(valV (r.takeWhile nch)).2=0
       ·rw[oc (by simpa using hv)]at ht
        rw[hv]
        simp only[bne_self_eq_false,zE,oe]
        rw[aQ (by omega),aN,ae]
        simp only[bne_self_eq_false,zE,oe]
        rcases zK (show a+1+(r.takeWhile nch).length≤s.length by omega)with e | hlt2
        ·have hnil:r.dropWhile nch=[]:=by rw[←hdw,e];simp
         rw[hnil]at ht
         rw[show (((a+1+(r.takeWhile nch).length:Nat):Int)==(s.length:Int))=true by simp;omega,od rfl]
         exact .ret (by rw[←ht];rfl)
        ·obtain⟨d,hd⟩:∃d,s[a+1+(r.takeWhile nch).length]? = some d:=⟨_,List.getElem?_eq_getElem hlt2⟩
         have hcons:r.dropWhile nch=d::s.drop (a+1+(r.takeWhile nch).length+1):=by
          rw[←hdw,zL hlt2]
          rw[List.getElem?_eq_getElem hlt2]at hd;injection hd with hd;rw[hd]
         rw[hcons]at ht
         rw[eS hd,oc (by simp),oc (by simp),gt_k hd,ae,ae,c32]
         have hw2:IntKind.i64.wrap (((a+1+(r.takeWhile nch).length:Nat):Int)+1)=((a+1+(r.takeWhile nch).length+1:Nat):Int):=by rw[am (by omega) (by omega)];omega
         by_cases h32:d=32
         ·subst h32
          rw[prN_eq]at ht
          rw[oi (by simp),oc (by simp),hw2,ae,oc (by simp)]
          exact .go ⟨n,by omega,true,_,_,rfl,by omega,by simp;omega,by omega,ht⟩
         ·rw[prN_ne _ _ _ _ _ h32]at ht
          rw[oh h32,od rfl,ae]
          exact .ret (by rw[←ht];rfl)
       ·rw[od hv]at ht
        rw[show ((valV (r.takeWhile nch)).2 != 0)=true by simpa using hv,od rfl,ae]
        simp only[show ((valV (r.takeWhile nch)).2 != 0)=true by simpa using hv,og]
        refine .ret ?_
        rw[←ht]
        unfold bkOut
        rw[show ((valV (r.takeWhile nch)).2 != 0)=true by simpa using hv]
        rfl
 ·rw[←hr]
  unfold bkOut
  cases (r.1 != 0)with
  | true=>exact .ok rfl
  | false=>exact .ok rfl
def cmOut(sk:Bool)(ws:List ay)(y:List UInt8×Int×Int):PR:=if (y.2.2 != 0)=true then (aa.mk false [] [],y.2.1,y.2.2)else (aa.mk sk ws y.1,0,0)
theorem r41_comment_tot(s r:List UInt8)(a:Nat)(sk:Bool)(ws:List ay)(hs:s.length≤65536)(ha:a<s.length)(hr:s.drop (a+1)=r):Tot (iY s (a:Int)) (λy=>cmOut sk ws y=prC sk ws a r):=by
 (unfold iY;try delta jB jR lF)
 have hw1:IntKind.i64.wrap ((a:Int)+1)=((a+1:Nat):Int):=by rw[am (by omega) (by omega)];omega
 have hrl:r.length=s.length-(a+1):=by rw[←hr];simp
 have htl:=(tw_len prn r).1
 rw[hw1,scan (s:=s) (p:=prn) (by omega) (λi x hx=>by
  have hlx:=ak hx
  rw[oh (show (i:Int)<(s.length:Int) by omega),od rfl,gt_k hx,ae]
  (unfold ec;try delta jV)
  rw[ae,ae,am (by omega) (by omega)]
  rfl) (by rw[oi (by omega)];rfl) (a+1) (by omega),ae,hr]
 obtain⟨t,ht⟩:∃t,r.takeWhile prn=t:=⟨_,rfl⟩
 have hcut:=cut_mid (p:=prn) hr ht (by omega) (by omega)
 have hat:=dw_at (p:=prn) hr
 have hdw:=drop_tw (p:=prn) hr
 unfold prC
 rw[ht]at htl hat hdw ⊢
 have hw3:IntKind.i64.wrap (IntKind.i64.wrap (((a+1+t.length:Nat):Int)-(a:Int))-1)=(t.length:Int):=by
  rw[am (n:=((a+1+t.length:Nat):Int)-(a:Int)) (by omega) (by omega),am (by omega) (by omega)];omega
 have hw2:IntKind.i64.wrap (((a+1+t.length:Nat):Int)+1)=((a+1+t.length+1:Nat):Int):=by rw[am (by omega) (by omega)];omega
 rw[hw3,hw2,hcut]
 by_cases h100:t.length>100
 ·rw[oh (show ((t.length:Nat):Int)>100 by omega),od rfl,od h100]
  exact .ok rfl
 ·rw[oi (show ¬((t.length:Nat):Int)>100 by omega),oc (by simp),oc h100]
  rcases zK (show a+1+t.length≤s.length by omega)with e | hlt2
  ·have hh:(r.dropWhile prn).head? = none:=by rw[←hat,e];simp
   rw[show (((a+1+t.length:Nat):Int)==(s.length:Int))=true by simp;omega,od rfl,od (Or.inr (by rw[hh];simp)),ae,od rfl]
   exact .ok rfl
  ·obtain⟨d,hd⟩:∃d,s[a+1+t.length]? = some d:=⟨_,List.getElem?_eq_getElem hlt2⟩
   rw[hd]at hat
   rw[eS hd,oc (by simp),gt_k hd,ae,c41]
   by_cases h41:d=41
   ·rw[oi (by simpa using h41),oc (by simp),ae]
    by_cases hnil:t=[]
    ·subst hnil
     rw[show ((((a+1+([]:List UInt8).length:Nat):Int))==((a+1:Nat):Int))=true by simp,od rfl,od (Or.inl rfl)]
     exact .ok rfl
    ·have hpos:=List.length_pos_iff.2 hnil
     rw[show ((((a+1+t.length:Nat):Int))==((a+1:Nat):Int))=false by simp;omega,oc (by simp),oc (show ¬(t=[]∨(r.dropWhile prn).head?≠some 41) by rw[←hat,h41];simpa using hnil)]
     have hq:(r.dropWhile prn).drop 1=s.drop (a+1+t.length+1):=by
      rw[←hdw,zT]
     rw[hq]
     by_cases hend:a+1+t.length+1=s.length
     ·rw[oi (by omega),oc (by simp),ae,oc (by rw[hend];simp)]
      exact .ok rfl
     ·rw[oh (by omega),od rfl,od (by
       intro e2
       have:=congrArg zV e2
       simp at this;omega)]
      exact .ok rfl
   ·rw[oh h41,od rfl,ae,od rfl,od (Or.inr (by rw[←hat];simpa using h41))]
    exact .ok rfl
set_option maxHeartbeats 4000000 in
theorem r41_Parse_tot(s:List UInt8)(hs:s.length≤65536):Tot (lK s) (λr=>r=prsV s):=by
 (unfold lK;try delta jB jC jR lF jV gF)
 refine Tot.ite (λh=>absurd (oj h) (by omega)) (λ_=>?_)
 refine Tot.bind (E:=λx:Bool=>x=decide (s.head? = some 47)) ?_ (λx hx=>?_)
 ·cases s with
  | nil=>exact .ok rfl
  | cons c q =>
   rw[show ((c::q)==([]:List UInt8))=false from rfl,oc (by simp),show gt (c::q) 0=some c from rfl,ae]
   refine .ok ?_
   have h:=c47 c
   have h2:((c.toNat:Int)==47)=!((c.toNat:Int) != 47):=by cases hh:((c.toNat:Int)==47)<;>simp[bne,hh]
   rw[h2,h]
   by_cases hc:c=47<;>simp[hc]
 ·refine Tot.bind (E:=λv:Int×Bool=>v=if s.head? = some 47 then (1,true)else (0,false)) ?_ (λv hv=>?_)
  ·subst hx
   by_cases hc:s.head? = some 47
   ·rw[oh hc,od rfl,od hc];exact .ok rfl
   ·rw[oi hc,oc (by simp),oc hc];exact .ok rfl
  ·obtain⟨sk,a0,hx2,ha0,hT⟩:∃(sk:Bool) (a0:Nat),v=((a0:Int),sk)∧a0≤s.length∧prsV s=prW sk (s.length+1) false a0 [] (s.drop a0):=by
    unfold prsV
    by_cases hc:s.head? = some 47
    ·rw[od hc]at hv ⊢
     refine⟨true,1,hv,?_,rfl⟩
     cases s with
     | nil=>cases hc
     | cons c q=>simp
    ·rw[oc hc]at hv ⊢
     exact⟨false,0,hv,by omega,rfl⟩
   subst hx2
   rw[hT]
   generalize hTT:prW sk (s.length+1) false a0 [] (s.drop a0)=T
   refine Tot.bindX (E:=λws:List ay=>((aa.mk sk ws [],0,0):PR)=T) (TotX.of (Tot.mono (E:=λx=>match x with | .ret e=>e=T | .go ws=>((aa.mk sk ws [],0,0):PR)=T) ?_ (λx h=>by cases x<;>exact h))) (λws hws=>.ok hws)
   refine Tot.loop (λm v=>∃(sp:Bool) (a:Nat) (ws:List ay),v=((a:Int),!sp,ws)∧a≤s.length∧ws.length≤16∧s.length-a<m∧prW sk m sp a ws (s.drop a)=T) _ (s.length+1) (bK (by omega)) ⟨false,a0,[],rfl,ha0,by simp,by omega,hTT⟩ (λm v hr=>?_)
   obtain⟨sp,a,ws,rfl,ha,hws,hm,ht⟩:=hr
   obtain⟨n,rfl⟩:∃n,m=n+1:=⟨m-1,by omega⟩
   dsimp only
   rcases zK ha with e | hlt
   ·have hnil:s.drop a=[]:=by rw[e];simp
    rw[hnil]at ht
    rw[oi (show ¬(a:Int)<(s.length:Int) by omega),show ((a:Int)==(s.length:Int))=true by simp;omega]
    cases sp with
    | true=>exact .ret (by rw[←ht];rfl)
    | false=>exact .ret (by rw[←ht];rfl)
   ·obtain⟨c,hc⟩:∃c,s[a]? = some c:=⟨_,List.getElem?_eq_getElem hlt⟩
    have hdr:s.drop a=c::s.drop (a+1):=by
     rw[zL hlt]
     rw[List.getElem?_eq_getElem hlt]at hc;injection hc with hc;rw[hc]
    obtain⟨r,hr⟩:∃r,s.drop (a+1)=r:=⟨_,rfl⟩
    rw[hdr,hr]at ht
    have hw1:IntKind.i64.wrap ((a:Int)+1)=((a+1:Nat):Int):=by rw[am (by omega) (by omega)];omega
    have hrl:r.length=s.length-(a+1):=by rw[←hr];simp
    rw[oh (show (a:Int)<(s.length:Int) by omega),Bool.true_or,od rfl,eS hc,oc (by simp),gt_k hc,ae,c40]
    unfold prW at ht
    by_cases h40:c=40
    ·rw[od h40]at ht
     rw[oh h40,od rfl]
     obtain⟨y,hy,hy2⟩:=r41_comment_tot s r a sk ws hs hlt hr
     rw[hy,ae]
     rw[ht]at hy2
     unfold cmOut at hy2
     cases he:(y.2.2 != 0)with
     | true=>rw[he,od rfl]at hy2;rw[od rfl];exact .ret hy2
     | false=>rw[he,oc (by simp)]at hy2;rw[oc (by simp)];exact .ret hy2
    ·rw[oc h40]at ht
     rw[oi h40,oc (by simp)]
     have hlet:(decide ((c.toNat:Int)<65)||decide ((c.toNat:Int)>90))=decide (c.toNat<65∨c.toNat>90):=by
      rw[zB];simp only[Bool.or_eq_true,oo];omega
     rw[hlet]
     by_cases hl:c.toNat<65∨c.toNat>90
     ·rw[od hl]at ht
      rw[oh hl,od rfl]
      exact .ret (by rw[←ht];rfl)
     ·rw[oc hl]at ht
      rw[oi hl,oc (by simp)]
      by_cases h16:ws.length=16
      ·rw[od h16]at ht
       rw[show ((ws.length:Int)==16)=true by simp;omega,od rfl]
       exact .ret (by rw[←ht];rfl)
      ·rw[oc h16]at ht
       rw[show ((ws.length:Int)==16)=false by simp;omega,oc (by simp),hw1]
       rw[scan (s:=s) (p:=nch) (by omega) (λi x hx=>by
        have hlx:=ak hx
        rw[oh (show (i:Int)<(s.length:Int) by omega),od rfl,gt_k hx,ae,number_eq,ae,ae,am (by omega) (by omega)]
        rfl) (by rw[oi (by omega)];rfl) (a+1) (by omega),ae,hr]
       have htl:=(tw_len nch r).1
       rw[cut_mid (p:=nch) hr rfl (by omega) (by omega),ae,r41_Value_eq _ (by omega),ae]
       have hdw:=drop_tw (p:=nch) hr
       by_cases hv:(valV (r.takeWhile nch)).2=0
       ·rw[oc (by simpa using hv)]at ht
        rw[show ((valV (r.takeWhile nch)).2 != 0)=false by simpa using hv,oc (by simp),aQ (by omega),aN]
        rcases zK (show a+1+(r.takeWhile nch).length≤s.length by omega)with e | hlt2
        ·have hnil:r.dropWhile nch=[]:=by rw[←hdw,e];simp
         rw[hnil]at ht
         rw[show (((a+1+(r.takeWhile nch).length:Nat):Int)==(s.length:Int))=true by simp;omega,od rfl]
         exact .ret (by rw[←ht];rfl)
        ·obtain⟨d,hd⟩:∃d,s[a+1+(r.takeWhile nch).length]? = some d:=⟨_,List.getElem?_eq_getElem hlt2⟩
         have hcons:r.dropWhile nch=d::s.drop (a+1+(r.takeWhile nch).length+1):=by
          rw[←hdw,zL hlt2]
          rw[List.getElem?_eq_getElem hlt2]at hd;injection hd with hd;rw[hd]
         rw[hcons]at ht
         have hw2:IntKind.i64.wrap (((a+1+(r.takeWhile nch).length:Nat):Int)+1)=((a+1+(r.takeWhile nch).length+1:Nat):Int):=by rw[am (by omega) (by omega)];omega
         rw[eS hd,oc (by simp),gt_k hd,ae,c32,hw2]
         by_cases h32:d=32
         ·subst h32
          rw[prN_eq]at ht
          rw[oi (by simp),oc (by simp)]
          exact .go ⟨n,by omega,true,_,_,rfl,by omega,by simp;omega,by omega,ht⟩
         ·rw[prN_ne _ _ _ _ _ h32]at ht
          rw[oh h32,od rfl]
          exact .ret (by rw[←ht];rfl)
       ·rw[od hv]at ht
        rw[show ((valV (r.takeWhile nch)).2 != 0)=true by simpa using hv,od rfl]
        exact .ret (by rw[←ht];rfl)
def jn:List (List UInt8)→List UInt8
 | []=>[]
 | x::l=>x++(l.map (32::·)).flatten
theorem jn_cons(x y:List UInt8)(l:List (List UInt8)):jn (x::y::l)=x++32::jn (y::l):=by simp[jn]
def wt(w:ay):List UInt8:=UInt8.ofNat w.Letter.toNat::txtV w.Value
def cmT(c:List UInt8):List (List UInt8):=if c=[]then []else [40::(c++[41])]
def fmtV(b:aa):List UInt8:=(if b.Skip=true then [47]else [])++jn (b.Words.map wt++cmT b.Comment)
theorem tw_gen{p:UInt8→Bool}:∀(w r:List UInt8),w.all p=true→(r=[]∨∃d q,r=d::q∧p d=false)→(w++r).takeWhile p=w∧(w++r).dropWhile p=r
 | [],r,_,hr=>by rcases hr with rfl | ⟨d,q,rfl,hd⟩<;>simp_all
 | c::w,r,h,hr=>by
  simp only[zF,zA]at h
  obtain⟨h1,h2⟩:=tw_gen w r h.2 hr
  simp only[zN,zJ,zO,h.1,og,h1,h2,and_self]
theorem cons_ne(h:l≠[]):∃x r,l=x::r:=by
 cases l with
 | nil=>exact absurd rfl h
 | cons x r=>exact⟨x,r,rfl⟩
theorem jn_ne(x:List UInt8){l:List (List UInt8)}(h:l≠[]):jn (x::l)=x++32::jn l:=by
 obtain⟨y,r,rfl⟩:=cons_ne h
 exact jn_cons x y r
theorem prW_inv(sk:Bool):∀(n:Nat) (sp:Bool) (a:Nat) (ws:List ay) (r:List UInt8),ws.length≤16→(∃a' e,e≠0∧prW sk n sp a ws r=badR a' e)∨(∃W c,prW sk n sp a ws r=(aa.mk sk (ws++W) c,0,0)∧r=jn (W.map wt++cmT c)∧(∀w∈W,okW w)∧(∀x∈c,prn x=true)∧c.length≤100∧ws.length+W.length≤16∧(sp=true→W≠[]∨c≠[]))
 | 0,sp,a,ws,r,_=>.inl ⟨a,2,by decide,by cases r<;>rfl⟩
 | n+1,sp,a,ws,[],hws=>by
  cases sp with
  | true=>exact .inl ⟨a,2,by decide,rfl⟩
  | false=>exact .inr ⟨[],[],by rw[zH];rfl,rfl,by simp,by simp,by simp,by simpa using hws,λq=>by cases q⟩
 | n+1,sp,a,ws,c::r,hws=>by
  unfold prW
  by_cases h40:c=40
  ·rw[od h40]
   unfold prC
   obtain⟨t,ht⟩:∃t,r.takeWhile prn=t:=⟨_,rfl⟩
   have htd:=zD (p:=prn) (l:=r)
   have htp:=tw_mem (p:=prn) r
   rw[ht]at htp htd ⊢
   by_cases h100:t.length>100
   ·rw[od h100];exact .inl ⟨a,3,by decide,rfl⟩
   ·rw[oc h100]
    by_cases hb:t=[]∨(r.dropWhile prn).head?≠some 41
    ·rw[od hb];exact .inl ⟨_,2,by decide,rfl⟩
    ·rw[oc hb]
     by_cases hd:(r.dropWhile prn).drop 1≠[]
     ·rw[od hd];exact .inl ⟨_,2,by decide,rfl⟩
     ·rw[oc hd]
      have hb1:t≠[]:=λq=>hb (.inl q)
      have hb2:(r.dropWhile prn).head? = some 41:=Decidable.not_not.1 λq=>hb (.inr q)
      have hd1:(r.dropWhile prn).drop 1=[]:=Decidable.not_not.1 hd
      have hdw:r.dropWhile prn=[41]:=by
       cases hq:r.dropWhile prn with
       | nil=>rw[hq]at hb2;cases hb2
       | cons x y =>
        rw[hq]at hb2 hd1
        simp at hb2 hd1
        rw[hb2,hd1]
      rw[hdw]at htd
      right
      refine⟨[],t,by rw[zH],?_,by simp,λx hx=>List.all_eq_true.1 htp x hx,by omega,by simpa using hws,λ_=>.inr hb1⟩
      unfold cmT
      rw[oc hb1,h40,←htd]
      simp[jn]
  ·rw[oc h40]
   by_cases hl:c.toNat<65∨c.toNat>90
   ·rw[od hl];exact .inl ⟨a,2,by decide,rfl⟩
   ·rw[oc hl]
    by_cases h16:ws.length=16
    ·rw[od h16];exact .inl ⟨a,3,by decide,rfl⟩
    ·rw[oc h16]
     by_cases hv:(valV (r.takeWhile nch)).2=0
     ·rw[oc (by simpa using hv)]
      have htd:=zD (p:=nch) (l:=r)
      obtain⟨t,ht⟩:∃t,r.takeWhile nch=t:=⟨_,rfl⟩
      obtain⟨q,hq⟩:∃q,r.dropWhile nch=q:=⟨_,rfl⟩
      rw[ht]at hv htd ⊢
      rw[hq]at htd ⊢
      have hvt:valV t=((valV t).1,0):=Prod.ext rfl hv
      have htx:=txt_val t _ hvt
      have hbd:-1000000000000≤(valV t).1∧(valV t).1≤1000000000000:=by
       unfold valV valN
       split
       ·exact⟨by decide,by decide⟩
       ·split
        ·exact⟨by decide,by decide⟩
        ·split
         ·exact⟨by decide,by decide⟩
         ·simp only
          split<;>omega
      have hwt:wt (wordV c t)=c::t:=by
       unfold wt wordV
       simp only[zI]
       rw[htx,UInt8.ofNat_toNat]
      have hok:okW (wordV c t):=by
       refine⟨?_,?_,hbd.1,hbd.2⟩
       ·show (65:Int)≤(c.toNat:Int);omega
       ·show (c.toNat:Int)≤90;omega
      cases q with
      | nil =>
       right
       refine⟨[wordV c t],[],rfl,?_,by simpa using hok,by simp,by simp,by simp;omega,λ_=>.inl (by simp)⟩
       rw[zH]at htd
       show c::r=wt (wordV c t)++[]
       rw[zH,hwt,htd]
      | cons d q =>
       by_cases h32:d=32
       ·subst h32
        rw[prN_eq]
        rcases prW_inv sk n true (a+1+t.length+1) (ws++[wordV c t]) q (by simp;omega)with⟨a',e,h1,h2⟩|⟨W,cc,h1,h2,h3,h4,h5,h6,h7⟩
        ·exact .inl ⟨a',e,h1,h2⟩
        ·right
         refine⟨wordV c t::W,cc,by rw[h1];simp,?_,λw hw=>?_,h4,h5,by simp at h6 ⊢;omega,λ_=>.inl (by simp)⟩
         ·rw[List.map_cons,zN,jn_ne _ (by
           intro e
           obtain⟨e1,e2⟩:=List.append_eq_nil_iff.1 e
           rcases h7 rfl with h | h
           ·exact h (by simpa using e1)
           ·unfold cmT at e2
            rw[oc h]at e2;cases e2),←h2,hwt,←htd]
          simp
         ·rcases List.mem_cons.1 hw with rfl | hw
          ·exact hok
          ·exact h3 w hw
       ·rw[prN_ne _ _ _ _ _ h32]
        exact .inl ⟨_,2,by decide,rfl⟩
     ·rw[od hv];exact .inl ⟨a,_,hv,rfl⟩
theorem prs_inv(s:List UInt8):(∃a e,e≠0∧prsV s=badR a e)∨(∃b,prsV s=(b,0,0)∧ci b∧fmtV b=s):=by
 unfold prsV
 by_cases h:s.head? = some 47
 ·rw[od h]
  rcases prW_inv true (s.length+1) false 1 [] (s.drop 1) (by simp)with⟨a,e,h1,h2⟩|⟨W,c,h1,h2,h3,h4,h5,h6,_⟩
  ·exact .inl ⟨a,e,h1,h2⟩
  ·right
   refine⟨_,h1,⟨by simpa using h6,h5,by simpa using h3,h4⟩,?_⟩
   unfold fmtV
   rw[List.nil_append,od rfl,←h2]
   cases s with
   | nil=>cases h
   | cons x y=>simp at h;subst h;rfl
 ·rw[oc h]
  rcases prW_inv false (s.length+1) false 0 [] s (by simp)with⟨a,e,h1,h2⟩|⟨W,c,h1,h2,h3,h4,h5,h6,_⟩
  ·exact .inl ⟨a,e,h1,h2⟩
  ·right
   refine⟨_,h1,⟨by simpa using h6,h5,by simpa using h3,h4⟩,?_⟩
   unfold fmtV
   rw[List.nil_append,oc (by simp),←h2];rfl
theorem idxd_facts(d:UInt8):∀l:List UInt8,(Lib.indexByte l d=-1∧l.takeWhile (· != d)=l∧l.dropWhile (· != d)=[]∧l.contains d=false)∨(∃o:Nat,Lib.indexByte l d=(o:Int)∧o<l.length∧l.take o=l.takeWhile (· != d)∧l.drop o=l.dropWhile (· != d)∧l.contains d=true)
 | []=>.inl ⟨rfl,rfl,rfl,rfl⟩
 | b::l=>by
  unfold Lib.indexByte
  by_cases hb:b=d
  ·subst hb
   refine .inr ⟨0,?_,by simp,by simp,by simp,by simp⟩
   rw[od (by simp)];rfl
  ·have hb1:(b==d)=false:=by simpa using hb
   have hb2:(b != d)=true:=by simp[hb]
   have hb3:(d==b)=false:=by simpa using fun e=>hb e.symm
   rw[hb1]
   simp only[zE,oe,zJ,zO,hb2,og,zY,hb3,Bool.false_or]
   rcases idxd_facts d l with⟨h1,h2,h3,h4⟩|⟨o,h1,h2,h3,h4,h5⟩
   ·left
    rw[h1,h2]
    exact⟨rfl,rfl,h3,h4⟩
   ·right
    have hne:((o:Int)==-1)=false:=by simp
    rw[h1,hne]
    refine⟨o+1,by simp,by simpa using h2,?_,by simpa using h4,h5⟩
    rw[List.take_succ_cons,h3]
theorem cutd(d:UInt8)(s:List UInt8)(hs:s.length≤1000000):dU s [d]=some (s.takeWhile (· != d),(s.dropWhile (· != d)).drop 1,s.contains d):=by
 have hi:bO s [d]=some (Lib.indexByte s d):=by
  (unfold bO;try delta jV)
  by_cases he:s=[d]
  ·subst he
   rw[show (((([d]:List UInt8).length:Int)==0)||(([d]:List UInt8)==[d]))=true by simp,od rfl]
   unfold Lib.indexByte
   rw[od (by simp)]
  ·have:(((([d]:List UInt8).length:Int)==0)||(([d]:List UInt8)==s))=false:=by
    simp
    exact λe=>he e.symm
   rw[this]
   show ah (stringslite_IndexByte s (d.toNat:Int)) _=_
   unfold stringslite_IndexByte
   have hd:((d.toNat:Int)).toNat.toUInt8=d:=by
    rw[zI]
    exact UInt8.ofNat_toNat
   rw[hd];rfl
 unfold dU dR
 rw[hi,ae]
 rcases idxd_facts d s with⟨h1,h2,h3,h4⟩|⟨o,h1,h2,h3,h4,h5⟩
 ·rw[h1,h2,h3,h4];rfl
 ·rw[h1,h5,←h3,←h4]
  have hw:IntKind.i64.wrap ((o:Int)+(([d]:List UInt8).length:Int))=((o+1:Nat):Int):=by
   simp only[zG,zX]
   rw[am (by omega) (by omega)];omega
  have hc1:cutT s (o:Int)=some (s.take o):=by unfold cutT;rw[oc (by omega),zI]
  have hc2:cutF s ((o+1:Nat):Int)=some (s.drop (o+1)):=by unfold cutF;rw[oc (by omega),zI]
  rw[oh (show (o:Int)≥0 by omega),od rfl,hc1,ae,hw,hc2,ae,ae,zT]
theorem cont_drop(d:UInt8)(s:List UInt8):(s.contains d=false∧s.dropWhile (· != d)=[]∧s.takeWhile (· != d)=s)∨(s.contains d=true∧∃q,s.dropWhile (· != d)=d::q):=by
 rcases idxd_facts d s with⟨_,h2,h3,h4⟩|⟨o,_,h2,h3,h4,h5⟩
 ·exact .inl ⟨h4,h3,h2⟩
 ·right
  refine⟨h5,?_⟩
  cases hd:s.dropWhile (· != d)with
  | nil =>
   rw[hd]at h4
   have:=congrArg zV h4
   simp at this;omega
  | cons c r =>
   have hc:=List.head?_dropWhile_not (· != d) s
   rw[hd]at hc
   simp at hc
   rw[hc]
   exact⟨r,rfl⟩
abbrev GR:=List aa×Int×Int
def pgN(out:List aa)(line:List UInt8)(K:List UInt8→GR):List UInt8→GR
 | []=>([],(out.length:Int)+1,2)
 | _::q=>if (prsV line).2.2≠0 then ([],(out.length:Int)+1,(prsV line).2.2)else K q
theorem pgN_cons(out:List aa)(line:List UInt8)(K:List UInt8→GR)(c:UInt8)(q:List UInt8):pgN out line K (c::q)=if (prsV line).2.2≠0 then ([],(out.length:Int)+1,(prsV line).2.2)else K q:=rfl
def pgV:Nat→List UInt8→List aa→GR
 | 0,_,out=>(out,0,0)
 | n+1,s,out=>if s=[]then (out,0,0)else pgN out (s.takeWhile (· != 10)) (λq=>pgV n q (out++[(prsV (s.takeWhile (· != 10))).1])) (s.dropWhile (· != 10))
theorem bk_Program_tot(s:List UInt8)(hs:s.length≤65536)(hc:(Lib.countByte s 10:Int)<20000):Tot (ku s) (λr=>r=pgV (s.length+1) s []):=by
  (unfold ku;try delta jB jC jR lF gF)
  have h1 : (if (decide ((s.length : Int) > 65536)) = true then
        some true
      else
        ah (dj s [10]) λ(y101:Int) =>
        if (decide (y101>20000))=true then
          some true
        else
          ah (dj s [10]) λ(y102:Int) =>
          if (y102==20000)=true then
            ah (d8 s [10]) λ(y103:Bool) =>
            some (!y103)
          else
            some false)=some false:=by
    have hcnt:dj s [10]=some (Lib.countByte s 10:Int):=rfl
    rw[oi (by omega),oc (by simp),hcnt,ae,oi (by omega),oc (by simp),ae,show ((Lib.countByte s 10:Int)==20000)=false by simp;omega,oc (by simp)]
  rw[h1,ae,oc (by simp)]
  generalize hT:pgV (s.length+1) s []=T
  refine Tot.bindX (E:=λout:List aa=>((out,0,0):GR)=T) (TotX.of (Tot.mono (E:=λx=>match x with | .ret e=>e=T | .go out=>((out,0,0):GR)=T) ?_ (λx h=>by cases x<;>exact h))) (λout h=>.ok h)
  refine Tot.loop (λm v=>∃(r:List UInt8) (out:List aa),v=(r,out,(out.length:Int)+1)∧pgV m r out=T∧r.length<m∧out.length+r.length≤s.length) _ (s.length+1) (bK (by omega)) ⟨s,[],by simp,hT,by omega,by simp⟩ (λm v hr=>?_)
  obtain⟨r,out,rfl,ht,hm,hlen⟩:=hr
  obtain⟨n,rfl⟩:∃n,m=n+1:=⟨m-1,by omega⟩
  unfold pgV at ht
  dsimp only
  by_cases hnil:r=[]
  · rw[od hnil]at ht
    rw[show (!(r==([]:List UInt8)))=false by rw[hnil];rfl,oc (by simp)]
    exact .ret ht
  · rw[oc hnil]at ht
    have hb:(r==([]:List UInt8))=false:=by simpa using hnil
    rw[hb,Bool.not_false,od rfl,cutd 10 r (by omega),ae]
    have htw:=(tw_len (· != 10) r).1
    obtain⟨y,hy,rfl⟩:=bk_Parse_tot (r.takeWhile (· != 10)) (by omega)
    rw[hy,ae]
    rcases cont_drop 10 r with⟨c1,c2,_⟩|⟨c1,q,c2⟩
    · rw[c2]at ht
      rw[c1]
      exact .ret (by rw[←ht];rfl)
    · rw[c2]at ht
      rw[c1,c2]
      dsimp only
      rw[pgN_cons]at ht
      rw[oc (by simp),ae]
      have hql:q.length<r.length:=by
        have:=congrArg zV (zD (p:=(· != 10)) (l:=r))
        rw[zZ,c2,zG]at this
        omega
      by_cases he:(prsV (r.takeWhile (· != 10))).2.2=0
      · rw[oc (by simpa using he)]at ht
        rw[he,oc (by simp),aQ (by omega),aN]
        refine .go ⟨n,by omega,q,_,?_,ht,by omega,by simp;omega⟩
        rw[am (by omega) (by omega)]
        simp
      · rw[od he]at ht
        rw[show ((prsV (r.takeWhile (· != 10))).2.2 != 0)=true by simpa using he,od rfl]
        exact .ret ht
theorem count_le(s:List UInt8)(c:UInt8):Lib.countByte s c≤s.length:=List.count_le_length
end Go.Proofs.YtjemmjpdmbenkaaGreatDoor
