/-
  Bx, Bcg, Pmo, Pkn, Pmp in one text.
-/
import Derived.Test.YtphbhdoljnokkaaGreatDoorAall
import Derived.Test.YtphbhdoljnokkaaGreatDoorMB
import Derived.Test.YtphbhdoljnokkaaGreatDoorPz
import Derived.Test.YtphbhdoljnokkaaGreatDoorGog
import Derived.Lib.IndexLaws
import Derived.Test.YtphbhdoljnokkaaGreatDoorMW
import Derived.Test.YtphbhdoljnokkaaGreatDoorME
open Bool renaming false_eq_true → zA,and_eq_true → zF,eq_iff_iff → zG,not_false → zX
open List renaming all_cons → zB,length_cons → zD,takeWhile_append_dropWhile → zE,append_nil → zH,cons_append → zI,not_mem_nil → zK,drop_eq_getElem_cons → zL,mem_append → zM,mem_cons → zQ,takeWhile_cons → zU,dropWhile_cons → zV,drop_drop → zW,length_append → zY,all_eq_true → zZ
open Nat renaming pow_le_pow_right → zJ,eq_or_lt_of_le → zO,lt_succ_self → zR,mul_le_mul_right → zT
namespace Go.Proofs.YtphbhdoljnokkaaGreatDoor
open Go.RowKit
set_option linter.unusedVariables false
set_option linter.unusedSimpArgs false
def od(l:List aC)(c:Int):List Int:=(l.filter λw=>w.Letter==c).map (·.Value)
theorem codes_foldB(c:Int):∀(l:List aC) (o:List Int),l.foldl (λ(v:List Int) (w:aC)=>if w.Letter==c then v++[w.Value]else v) o=o++od l c
 | [],o=>by simp[od]
 | w::l,o=>by
  rw[List.foldl_cons,codes_foldB c l]
  grind[od]
theorem codesV_len(l:List aC)(c:Int):(od l c).length≤l.length:=by
 simp_all[od,List.length_filter_le]
theorem pj(b:ae)(c:Int)(hb:b.Words.length≤1000000):ie b c=some (od b.Words c):=by
 (unfold ie;try delta jB rF gF)
 rw[bn (by omega),aX,kO (g:=λ(v:List Int) (w:aC)=>if w.Letter==c then v++[w.Value]else v) (R:=λi v=>v.length≤i) (L:=b.Words) ?_ b.Words 0 [] rfl (by simp),codes_foldB]
 ·rfl
 ·intro i x v hx hr
  have hlt:=aF hx
  cases h:(x.Letter==c)with
  | true=>simp only[qX];grind[br,aX,aa]
  | false=>exact⟨rfl,by simp;omega⟩
def isD(c:UInt8):Bool:=decide (48≤c.toNat)&&decide (c.toNat≤57)
def dv(c:UInt8):Nat:=c.toNat-48
def numA(a:Nat)(l:List UInt8):Nat:=l.foldl (λa c=>10*a+dv c) a
def num(l:List UInt8):Nat:=numA 0 l
variable {c:UInt8}
theorem isD_iff:isD c=true↔48≤c.toNat∧c.toNat≤57:=by simp[isD]
theorem numA_cons(a:Nat)(c:UInt8)(l:List UInt8):numA a (c::l)=numA (10*a+dv c) l:=by simp_all[numA]
theorem numA_append(a:Nat)(l m:List UInt8):numA a (l++m)=numA (numA a l) m:=by simp_all[numA]
theorem pow10_pos(n:Nat):1≤10 ^ n:=Nat.pos_of_ne_zero (by simp)
theorem numA_eq(l:List UInt8):∀a:Nat,numA a l=a*10 ^ l.length+num l:=by
 induction l with
 | nil=>simp_all[numA,num]
 | cons c l ih =>
  intro a
  show numA (10*a+dv c) l=a*10 ^ (l.length+1)+numA (10*0+dv c) l
  grind
theorem numA_ge(l:List UInt8)(a:Nat):a≤numA a l:=by
 rw[numA_eq]
 have:=Nat.le_mul_of_pos_right a (pow10_pos l.length)
 omega
theorem num_snoc(l:List UInt8)(c:UInt8):num (l++[c])=10*num l+dv c:=by
 unfold num;rw[numA_append];rfl
theorem dv_lt(h:isD c=true):dv c<10:=by
 grind[isD_iff,dv]
theorem num_lt:∀(l:List UInt8),l.all isD=true→num l<10 ^ l.length
 | [],_=>by simp[num,numA]
 | c::l,h=>by
  simp only[zB,zF]at h
  have h1:=num_lt l h.2
  have h2:=dv_lt h.1
  rw[show num (c::l)=numA (10*0+dv c) l from rfl,numA_eq,zD,Nat.pow_succ]
  have:(10*0+dv c)*10 ^ l.length≤9*10 ^ l.length:=zT _ (by omega)
  omega
variable {r:Nat}
theorem ofNat_toNat(h:r<208):(UInt8.ofNat (48+r)).toNat=48+r:=by
 grind[UInt8.toNat_ofNat']
theorem dv_of(h:r<10):dv (UInt8.ofNat (48+r))=r:=by grind[dv,ofNat_toNat]
theorem isD_of(h:r<10):isD (UInt8.ofNat (48+r))=true:=by grind[isD_iff,ofNat_toNat]
variable {u:Nat}
theorem dd_small(h:u<10):Lib.decDigits u=[UInt8.ofNat (48+u)]:=by simp_all[Lib.decDigits]
theorem dd_big(h:¬u<10):Lib.decDigits u=Lib.decDigits (u / 10)++[UInt8.ofNat (48+u % 10)]:=by conv=>lhs;rw[Lib.decDigits,dif_neg h]
theorem dd_facts:∀(n u:Nat),u<n→(Lib.decDigits u).all isD=true∧num (Lib.decDigits u)=u∧Lib.decDigits u≠[]∧(u≠0→(Lib.decDigits u).head?≠some 48)
 | 0,u,h=>by omega
 | n+1,u,h=>by
  by_cases hs:u<10
  ·rw[dd_small hs]
   refine⟨by simp only[zB,List.all_nil,isD_of hs,Bool.and_true],?_,by simp,λh0=>?_⟩
   ·show 10*0+dv _=u
    grind[dv_of]
   ·simp only[List.head?_cons,ne_eq,Option.some.injEq]
    intro e
    have:=congrArg UInt8.toNat e
    grind[ofNat_toNat]
  ·rw[dd_big hs]
   obtain⟨h1,h2,h3,h4⟩:=dd_facts n (u / 10) (by omega)
   refine⟨by simp only[List.all_append,zB,List.all_nil,h1,isD_of (Nat.mod_lt u (by omega:0<10)),Bool.and_true],?_,by simp,λ_=>?_⟩
   grind[num_snoc,dv_of]
   grind[Lib.decDigits]
theorem dd_dig(u:Nat):(Lib.decDigits u).all isD=true:=(dd_facts _ u (zR u)).1
theorem dd_num(u:Nat):num (Lib.decDigits u)=u:=(dd_facts _ u (zR u)).2.1
theorem dd_ne(u:Nat):Lib.decDigits u≠[]:=(dd_facts _ u (zR u)).2.2.1
theorem dd_head(h:u≠0):(Lib.decDigits u).head?≠some 48:=(dd_facts _ u (zR u)).2.2.2 h
def canW(l:List UInt8):Prop:=l.all isD=true∧l≠[]∧(1<l.length→l.head?≠some 48)
theorem dd_can(u:Nat):canW (Lib.decDigits u):=by
 refine⟨dd_dig u,dd_ne u,λh=>?_⟩
 grind[dd_small,dd_head]
theorem num_pos{l:List UInt8}(h:l.all isD=true)(hne:l≠[])(hh:l.head?≠some 48):10 ^ (l.length-1)≤num l:=by
 cases l with
 | nil=>simp_all
 | cons c l =>
  simp only[zB,zF]at h
  simp only[List.head?_cons,ne_eq,Option.some.injEq]at hh
  have h1:=isD_iff.1 h.1
  have h2:c.toNat≠48:=λe=>hh (UInt8.toNat_inj.1 e)
  rw[show num (c::l)=numA (10*0+dv c) l from rfl,numA_eq,zD,Nat.add_sub_cancel]
  have:1*10 ^ l.length≤(10*0+dv c)*10 ^ l.length:=zT _ (by grind[dv])
  omega
def fr3(a b c:UInt8):List UInt8:=if c=48 then (if b=48 then (if a=48 then []else [a])else [a,b])else [a,b,c]
theorem trim3(a b c:UInt8):Lib.trimRightB [a,b,c] 48=fr3 a b c:=by
 unfold Lib.trimRightB fr3
 by_cases hc:c=48
 ·by_cases hb:b=48
  ·by_cases ha:a=48<;>simp_all
  simp_all
 ·simp[hc]
def d3(r:Nat):UInt8×UInt8×UInt8:=(UInt8.ofNat (48+r / 100),UInt8.ofNat (48+r / 10 % 10),UInt8.ofNat (48+r % 10))
theorem dd_1000(h:r<1000):(Lib.decDigits (1000+r)).drop 1=[(d3 r).1,(d3 r).2.1,(d3 r).2.2]:=by
 rw[dd_big (by omega),dd_big (by omega),dd_big (by omega),dd_small (by omega)]
 simp only[List.append_assoc,zI,List.nil_append,List.drop_succ_cons,List.drop_zero,d3]
 rw[show (1000+r) / 10 / 10 % 10=r / 100 by omega,show (1000+r) / 10 % 10=r / 10 % 10 by omega,show (1000+r) % 10=r % 10 by omega]
def frac(r:Nat):List UInt8:=fr3 (d3 r).1 (d3 r).2.1 (d3 r).2.2
def txtU(u:Nat):List UInt8:=Lib.decDigits (u / 1000)++(if u % 1000=0 then []else 46::frac (u % 1000))
def txtV(n:Int):List UInt8:=(if n<0 then [45]else [])++txtU n.natAbs
theorem l8{a b:List UInt8}(h:a.length+b.length≤9223372036854775807):okStr a b=true:=qY h
theorem fmtU(u:Nat)(h:u<18446744073709551616):fE (u:Int) 10=some (Lib.decDigits u):=by
 grind[fE,decide,aX]
theorem dd_len(u:Nat)(h:u<18446744073709551616):(Lib.decDigits u).length≤20:=by
 rcases Nat.lt_or_ge (Lib.decDigits u).length 21 with q | q
 ·omega
 ·exfalso
  by_cases h0:u=0
  simp_all[dd_small]
  ·have h1:=num_pos (dd_dig u) (dd_ne u) (dd_head h0)
   rw[dd_num]at h1
   have h2:10 ^ 20≤10 ^ ((Lib.decDigits u).length-1):=zJ (by omega) (by omega)
   omega
theorem trimR(s:List UInt8)(h:s.length≤9223372036854775807):gW s [48]=some (Lib.trimRightB s 48):=by
 show aA (decide ((48:UInt8).toNat<128)&&decide (s.length≤9223372036854775807)) _=_
 simp_all
theorem fr3_len(a b c:UInt8):(fr3 a b c).length≤3:=by
 grind[fr3]
theorem abs_wrap (n : Int) (h1 : -9223372036854775808 ≤ n) (h2 : n ≤ 9223372036854775807) : (if (decide (n < 0)) = true then
        some (IntKind.u64.wrap (0-(IntKind.u64.wrap n)),([45]:List UInt8))
      else
        some (IntKind.u64.wrap n,[]))=some ((n.natAbs:Int),if n<0 then [45]else []):=by
  by_cases hn:n<0
  (simp_all[wrap_u64];omega)
  (simp_all[qU,wrap_u64];omega)
theorem bk_Text_eq(n:Int)(h1:-9223372036854775808≤n)(h2:n≤9223372036854775807):bk_Text n=some (txtV n):=by
 (unfold bk_Text;try delta jC)
 rw[abs_wrap n h1 h2,aa]
 obtain⟨u,hu⟩:∃u,u=n.natAbs:=⟨_,rfl⟩
 obtain⟨sg,hsg⟩:∃sg:List UInt8,sg=if n<0 then [45]else []:=⟨_,rfl⟩
 have hu2:u≤9223372036854775808:=by omega
 have hsl:sg.length≤1:=by grind
 unfold txtV txtU
 rw[←hu,←hsg]
 simp only
 have e1:IntKind.u64.wrap (Int.tdiv (u:Int) 1000)=((u / 1000:Nat):Int):=by
  grind[wrap_u64]
 have e2:Int.tmod (u:Int) 1000=((u % 1000:Nat):Int):=by
  grind
 have hl:=dd_len (u / 1000) (by omega)
 rw[e1,fmtU (u / 1000) (by omega),aa,l8 (by omega),aX,e2]
 by_cases hr:u % 1000=0
 simp_all
 ·rw[qY (show ((u % 1000:Nat):Int)>0 by omega),qV rfl,qU hr]
  have e3:IntKind.u64.wrap (1000+((u % 1000:Nat):Int))=((1000+u % 1000:Nat):Int):=by grind[wrap_u64]
  have hr2:u % 1000<1000:=Nat.mod_lt _ (by omega)
  have hd:=dd_1000 hr2
  have hl2:=dd_len (1000+u % 1000) (by omega)
  rw[e3,fmtU _ (by omega),aa]
  have hc:cutF (Lib.decDigits (1000+u % 1000)) 1=some ((Lib.decDigits (1000+u % 1000)).drop 1):=by
   unfold cutF
   rw[qU]
   ·rfl
   grind[List.length_pos_iff]
  grind[fr3_len,aa,trimR,trim3,l8,aX,frac]
def ol:List UInt8→Bool×List UInt8
 | []=>(false,[])
 | c::r=>if c=45 then (true,r)else (false,c::r)
theorem strip_cons(c:UInt8)(r:List UInt8):ol (c::r)=if c=45 then (true,r)else (false,c::r):=rfl
theorem strip_len(s:List UInt8):(ol s).2.length≤s.length:=by
 cases s<;>grind[ol]
def cutV(l:List UInt8):List UInt8×List UInt8×Bool:=(l.takeWhile (· != 46),(l.dropWhile (· != 46)).drop 1,l.contains 46)
def zer(k:Nat):List UInt8:=List.replicate k 48
def digB(l:List UInt8):Bool:=l.all isD&&!l.isEmpty
def badP(neg:Bool)(body p:List UInt8)(pt:Bool):Bool:=(pt&&(!digB p||(decide (3<p.length)||p.getLast? == some 48)))||(neg&&body==[48])
def badV(neg:Bool)(body w p:List UInt8)(pt:Bool):Bool:=!digB w||((decide (1<w.length)&&w.head? == some 48)||badP neg body p pt)
def valN(neg:Bool)(w p:List UInt8):Int×Int:=if w.length>10 then (0,11)else if num (w++p++zer (3-p.length))>1000000000000 then (0,11)else (if neg=true then -(num (w++p++zer (3-p.length)):Int)else num (w++p++zer (3-p.length)),0)
def valV(s:List UInt8):Int×Int :=
 if badV (ol s).1 (ol s).2 (cutV (ol s).2).1 (cutV (ol s).2).2.1 (cutV (ol s).2).2.2=true then (0,2)else valN (ol s).1 (cutV (ol s).2).1 (cutV (ol s).2).2.1
theorem cutPre(s:List UInt8)(hs:s.length≤1000000):fL s [45]=some ((ol s).2,(ol s).1):=by
 (unfold fL fD fC;try delta jR)
 cases s with
 | nil=>rfl
 | cons c r =>
  have h1:decide (((c::r).length:Int)≥(([45]:List UInt8).length:Int))=true:=by simp;omega
  have h2:cutT (c::r) (([45]:List UInt8).length:Int)=some [c]:=by simp_all[cutT]
  have h3:cutF (c::r) (([45]:List UInt8).length:Int)=some r:=by simp_all[cutF]
  rw[h1,qV rfl,h2,aa,aa,aa,h3]
  rw[strip_cons]
  by_cases hc:c=45<;>simp_all
theorem idx_facts:∀l:List UInt8,(Lib.indexByte l 46=-1∧l.takeWhile (· != 46)=l∧l.dropWhile (· != 46)=[]∧l.contains 46=false)∨(∃o:Nat,Lib.indexByte l 46=(o:Int)∧o<l.length∧l.take o=l.takeWhile (· != 46)∧l.drop o=l.dropWhile (· != 46)∧l.contains 46=true)
 | []=>.inl ⟨rfl,rfl,rfl,rfl⟩
 | b::l=>by
  unfold Lib.indexByte
  by_cases hb:b=46
  ·subst hb
   exact .inr ⟨0,rfl,by simp,rfl,by simp,by simp⟩
  ·have hb1:(b==46)=false:=by simp_all
   have hb2:(b != 46)=true:=by simp[hb]
   have hb3:((46:UInt8)==b)=false:=by grind
   rw[hb1]
   simp only[zA,qW,zU,zV,hb2,qX,List.contains_cons,hb3,Bool.false_or]
   rcases idx_facts l with⟨h1,h2,h3,h4⟩|⟨o,h1,h2,h3,h4,h5⟩
   simp_all
   ·right
    have hne:((o:Int)==-1)=false:=by simp
    rw[h1,hne]
    refine⟨o+1,by simp,by simp_all,?_,by simp_all,h5⟩
    simp_all
theorem cutEq(s:List UInt8)(hs:s.length≤1000000):gG s [46]=some (cutV s):=by
 have hi:ec s [46]=some (Lib.indexByte s 46):=by
  (unfold ec;try delta jV)
  by_cases he:s=[46]
  ·subst he;rfl
  ·have:(((([46]:List UInt8).length:Int)==0)||(([46]:List UInt8)==s))=false:=by
    grind
   rw[this]
   rfl
 unfold gG gD
 rw[hi,aa]
 unfold cutV
 rcases idx_facts s with⟨h1,h2,h3,h4⟩|⟨o,h1,h2,h3,h4,h5⟩
 simp_all
 ·rw[h1,h5,←h3,←h4]
  have hw:IntKind.i64.wrap ((o:Int)+(([46]:List UInt8).length:Int))=((o+1:Nat):Int):=by
   grind[aE]
  have hc1:cutT s (o:Int)=some (s.take o):=by (simp_all[cutT];omega)
  have hc2:cutF s ((o+1:Nat):Int)=some (s.drop (o+1)):=by (simp_all[cutF];omega)
  rw[qY (show (o:Int)≥0 by omega),qV rfl,hc1,aa,hw,hc2,aa,aa,zW]
theorem digs_contains(c:UInt8):([48,49,50,51,52,53,54,55,56,57]:List UInt8).contains c=isD c:=by
 have key:∀k,k<256→([48,49,50,51,52,53,54,55,56,57]:List UInt8).contains (UInt8.ofNat k)=(decide (48≤k)&&decide (k≤57)):=ra (by kernel_rfl)
 have:=key c.toNat (UInt8.toNat_lt c)
 rw[UInt8.ofNat_toNat]at this
 rw[this];rfl
theorem dw_nil{p:UInt8→Bool}:∀{l:List UInt8},l.dropWhile p=[]↔∀x∈l,p x=true
 | []=>by simp
 | c::l=>by
  rw[zV]
  cases h:p c with
  | true=>rw[qV rfl,dw_nil];simp[h]
  | false=>simp[h]
theorem trim_nil(l cs:List UInt8)(p:UInt8→Bool)(hp:∀c,cs.contains c=p c):(Lib.trimS l cs==[])=l.all p:=by
 have hfun:(cs.contains ·)=p:=funext hp
 unfold Lib.trimS Lib.trimLeftS Lib.trimRightS
 rw[hfun]
 cases hall:l.all p with
 | true =>
  grind[dw_nil]
 | false =>
  cases hd:l.reverse.dropWhile p<;>grind[dw_nil,List.head?_dropWhile_not]
theorem bk_digits_eq(l:List UInt8)(hl:l.length≤1000000):iq l=some (digB l):=by
 (unfold iq digB;try delta jR)
 cases l with
 | nil=>rfl
 | cons c r =>
  have h1:((c::r)==([]:List UInt8))=false:=rfl
  rw[h1]
  unfold oo
  rw[show (([48,49,50,51,52,53,54,55,56,57]:List UInt8).all (λc=>decide (c.toNat<128))&&(decide ((c::r).length≤9223372036854775807)&&decide (([48,49,50,51,52,53,54,55,56,57]:List UInt8).length<4294967281)))=true by
   (simp_all;omega)]
  simp only[zA,qW,aX,aa,trim_nil _ _ _ digs_contains,List.isEmpty_cons,zX,Bool.and_true]
theorem parse_eq:∀(l:List UInt8) (a:Nat),l.all isD=true→numA a l<1000000000000000000→Lib.parseUintM 18446744073709551615 a l=.ok (numA a l)
 | [],a,_,_=>rfl
 | c::l,a,h,hn=>by
  simp only[zB,zF]at h
  have hc:=isD_iff.1 h.1
  rw[numA_cons]at hn ⊢
  have hge:=numA_ge l (10*a+dv c)
  have hd:dv c=c.toNat-48:=rfl
  unfold Lib.parseUintM
  rw[qV hc,qU (by omega),qU (by omega),show a*10+(c.toNat-48)=10*a+dv c by omega]
  exact parse_eq l _ h.2 hn
theorem parseInt_eq(l:List UInt8)(h:l.all isD=true)(hne:l≠[])(hl:l.length≤17):iv l 10 64=some (num l:Int):=by
 have hn:=num_lt l h
 have hp:(10:Nat) ^ l.length≤10 ^ 17:=zJ (by omega) hl
 have hm:=parse_eq l 0 h (show num l<_ by omega)
 unfold iv
 rw[show ((10:Int)==10&&((64:Int)==64&&decide (l.length≤9223372036854775806)))=true by simp;omega,aX]
 have key:Lib.parseIntB 64 l=.ok (num l:Int):=by
  cases l with
  | nil=>simp_all
  | cons c r =>
   simp only[zB,zF]at h
   have hc:=isD_iff.1 h.1
   unfold Lib.parseIntB
   simp only
   rw[qU (by omega)]
   unfold Lib.parseUintB
   rw[qU (by simp),show (2 ^ 64-1:Nat)=18446744073709551615 by rfl,hm]
   simp only
   have hx:numA 0 (c::r)=num (c::r):=rfl
   grind
 rw[key]
theorem last_gt(p:List UInt8)(hp:p≠[])(hl:p.length≤1000000):∃c,gt p (IntKind.i64.wrap ((p.length:Int)-1))=some c∧p.getLast? = some c:=by
 have hpos:=List.length_pos_iff.2 hp
 rw[aE (by omega) (by omega)]
 obtain⟨c,h1,h2⟩:=gt_ok' (l:=p) (i:=(p.length:Int)-1) (by omega) (by omega)
 simp_all[List.getLast?_eq_getElem?]
theorem c48(c:UInt8):((c.toNat:Int)==48)=(c==48):=by
 rw[zG]
 simp only[beq_iff_eq]
 constructor
 ·intro h;exact UInt8.toNat_inj.1 (by grind)
 simp_all
theorem badP_eq (neg : Bool) (body p : List UInt8) (pt : Bool) (hl : p.length ≤ 1000000) : (if pt = true then
              ac (iq p) λ(y105:Bool) =>
              if y105=true then
                if (decide ((p.length:Int)>3))=true then
                  some true
                else
                  ac (gt p (IntKind.i64.wrap ((p.length:Int)-1))) λ(c106:UInt8) =>
                  if ((c106.toNat:Int)==48)=true then
                    some true
                  else
                    if neg=true then
                      some (body==[48])
                    else
                      some false
              else
                some true
            else
              if neg=true then
                some (body==[48])
              else
                some false)=some (badP neg body p pt):=by
  unfold badP
  cases pt with
  | false=>grind
  | true =>
    rw[qV rfl,bk_digits_eq p hl,aa]
    cases hd:digB p with
    | false=>simp
    | true =>
      rw[qV rfl]
      have hne:p≠[]:=by intro e;subst e;cases hd
      obtain⟨c,h1,h2⟩:=last_gt p hne hl
      rw[h1,aa,h2,c48]
      have e3:decide ((p.length:Int)>3)=decide (3<p.length):=by
        grind
      grind[decide]
theorem tw_len(p:UInt8→Bool)(l:List UInt8):(l.takeWhile p).length≤l.length∧(l.dropWhile p).length≤l.length:=by
 have h:=congrArg List.length (zE (p:=p) (l:=l))
 grind
theorem zer_dig(k:Nat):(zer k).all isD=true:=by
 unfold zer
 rw[zZ]
 intro x hx
 rw[List.eq_of_mem_replicate hx]
 rfl
theorem bk_Value_eq(s:List UInt8)(hs:s.length≤100000):bk_Value s=some (valV s):=by
  (unfold bk_Value valV;try delta jC jR)
  rw[cutPre s (by omega),aa]
  have hb:=strip_len s
  generalize ol s=st at *
  obtain⟨neg,body⟩:=st
  simp only at hb ⊢
  rw[cutEq body (by omega),aa]
  have hw:=(tw_len (· != 46) body).1
  have hp:(cutV body).2.1.length≤body.length:=by
    have:=(tw_len (· != 46) body).2
    show ((body.dropWhile (· != 46)).drop 1).length≤_
    simp;omega
  have hpt:(cutV body).2.2=false→(cutV body).2.1=[]:=by
    intro h
    rcases idx_facts body with⟨_,_,h3,_⟩|⟨_,_,_,_,_,h5⟩<;>simp_all[cutV]
  have hw:(cutV body).1.length≤body.length:=hw
  generalize cutV body=cv at *
  obtain⟨w,p,pt⟩:=cv
  simp only at hw hp hpt ⊢
  rw[bk_digits_eq w (by omega),aa]
  have hbad : ∀ (k : Bool → Option (Int × Int)), (ac (if digB w = true then
        if (decide ((w.length:Int)>1))=true then
          ac (gt w 0) λ(c104:UInt8) =>
          if ((c104.toNat:Int)==48)=true then
            some true
          else
            if pt=true then
              ac (iq p) λ(y105:Bool) =>
              if y105=true then
                if (decide ((p.length:Int)>3))=true then
                  some true
                else
                  ac (gt p (IntKind.i64.wrap ((p.length:Int)-1))) λ(c106:UInt8) =>
                  if ((c106.toNat:Int)==48)=true then
                    some true
                  else
                    if neg=true then
                      some (body==[48])
                    else
                      some false
              else
                some true
            else
              if neg=true then
                some (body==[48])
              else
                some false
        else
          if pt=true then
            ac (iq p) λ(y107:Bool) =>
            if y107=true then
              if (decide ((p.length:Int)>3))=true then
                some true
              else
                ac (gt p (IntKind.i64.wrap ((p.length:Int)-1))) λ(c108:UInt8) =>
                if ((c108.toNat:Int)==48)=true then
                  some true
                else
                  if neg=true then
                    some (body==[48])
                  else
                    some false
            else
              some true
          else
            if neg=true then
              some (body==[48])
            else
              some false
      else
        some true) k)=k (badV neg body w p pt):=by
    intro k
    rw[badP_eq neg body p pt (by omega)]
    unfold badV
    cases hd:digB w with
    | false=>rfl
    | true =>
      cases w with
      | nil=>cases hd
      | cons c r =>
        rw[qV rfl,show gt (c::r) 0=some c from rfl,aa,c48]
        have e3:decide (((c::r).length:Int)>1)=decide (1<(c::r).length):=by
          grind
        rw[e3]
        have e4:((c::r).head? == some 48)=(c==48):=rfl
        rw[e4]
        cases decide (1<(c::r).length)<;>cases (c==48)<;>simp
  rw[hbad]
  cases hv:badV neg body w p pt with
  | true=>rfl
  | false =>
    simp only[zA,qW]
    unfold badV badP at hv
    simp only[Bool.or_eq_false_iff,Bool.not_eq_false']at hv
    obtain⟨hd,_,hv,_⟩:=hv
    have hdw:w.all isD=true∧w≠[]:=by
      unfold digB at hd
      grind
    have hp3:p.all isD=true∧p.length≤3:=by
      cases pt<;>simp_all[digB]
    unfold valN
    have e1:decide ((w.length:Int)>10)=decide (w.length>10):=by
      grind
    rw[e1]
    by_cases h10:w.length>10
    simp_all
    · rw[qZ h10,qU (by simp),qU h10]
      have hz:cutF ([48,48,48]:List UInt8) (p.length:Int)=some (zer (3-p.length)):=by
        have:p.length=0∨p.length=1∨p.length=2∨p.length=3:=by omega
        rcases this with e | e | e | e<;>rw[e]<;>rfl
      have hall:(w++p++zer (3-p.length)).all isD=true:=by
        simp_all[zer_dig]
      have hlen:(w++p++zer (3-p.length)).length=w.length+3:=by grind[zer]
      have hlen2:(zer (3-p.length)).length=3-p.length:=by simp[zer]
      rw[l8 (by omega),aX,hz,aa,l8 (by grind),aX,parseInt_eq _ hall (by simp_all) (by omega),aa]
      have hlt:=num_lt _ hall
      have hle:(10:Nat) ^ (w++p++zer (3-p.length)).length≤10 ^ 13:=zJ (by omega) (by omega)
      generalize num (w++p++zer (3-p.length))=N at *
      by_cases hN:N>1000000000000
      grind
      · rw[qZ (show ¬(N:Int)>1000000000000 by omega),qU (by simp),qU hN]
        cases neg with
        | true=>simp only[qX,aa];grind[aE]
        | false=>rfl
theorem d3_num(h:r<1000)(l:List UInt8):num (l++[(d3 r).1,(d3 r).2.1,(d3 r).2.2])=1000*num l+r:=by
 unfold d3
 rw[show l++[UInt8.ofNat (48+r / 100),UInt8.ofNat (48+r / 10 % 10),UInt8.ofNat (48+r % 10)]=((l++[UInt8.ofNat (48+r / 100)])++[UInt8.ofNat (48+r / 10 % 10)])++[UInt8.ofNat (48+r % 10)] by simp]
 grind[num_snoc,dv_of]
theorem d3_zero(h:r<1000)(h0:r≠0):¬((d3 r).1=48∧(d3 r).2.1=48∧(d3 r).2.2=48):=by
 rintro⟨e1,e2,e3⟩
 have:=d3_num h []
 simp_all[num,numA,dv]
theorem fr3_pad(a b c:UInt8):fr3 a b c++zer (3-(fr3 a b c).length)=[a,b,c]:=by
 unfold fr3
 by_cases hc:c=48
 ·by_cases hb:b=48
  ·by_cases ha:a=48<;>simp_all[zer]
  simp_all[zer]
 simp_all[zer]
theorem fr3_last(a b c:UInt8):(fr3 a b c).getLast?≠some 48:=by
 grind[fr3]
theorem fr3_ne(a b c:UInt8)(h:¬(a=48∧b=48∧c=48)):fr3 a b c≠[]:=by
 grind[fr3]
theorem fr3_dig(a b c:UInt8)(ha:isD a=true)(hb:isD b=true)(hc:isD c=true):(fr3 a b c).all isD=true:=by
 grind[fr3]
theorem d3_dig(h:r<1000):isD (d3 r).1=true∧isD (d3 r).2.1=true∧isD (d3 r).2.2=true:=⟨isD_of (by omega),isD_of (by omega),isD_of (by omega)⟩
theorem dig_ne(h:isD c=true):c≠46∧c≠45:=by
 have:=isD_iff.1 h
 refine⟨λe=>?_,λe=>?_⟩<;>simp_all
theorem tw_all:∀(w r:List UInt8),w.all isD=true→(r=[]∨∃q,r=46::q)→(w++r).takeWhile (· != 46)=w∧(w++r).dropWhile (· != 46)=r
 | [],r,_,hr=>by rcases hr with rfl | ⟨q,rfl⟩<;>simp
 | c::w,r,h,hr=>by
  simp only[zB,zF]at h
  have hc:(c != 46)=true:=by simp_all[dig_ne]
  obtain⟨h1,h2⟩:=tw_all w r h.2 hr
  simp_all
theorem cont_dig:∀(w:List UInt8),w.all isD=true→w.contains 46=false
 | [],_=>rfl
 | c::w,h=>by
  simp only[zB,zF]at h
  grind[dig_ne]
theorem cutV_of(w p:List UInt8)(pt:Bool)(hw:w.all isD=true)(hp:pt=false→p=[]):cutV (w++(if pt=true then 46::p else []))=(w,p,pt):=by
 unfold cutV
 cases pt with
 | true =>
  simp_all[tw_all]
 | false =>
  obtain⟨h1,h2⟩:=tw_all w [] hw (.inl rfl)
  rw[qU (by simp),h1,h2,hp rfl,zH,cont_dig w hw];rfl
theorem strip_of(neg:Bool)(b:List UInt8)(h:b.head?≠some 45):ol ((if neg=true then [45]else [])++b)=(neg,b):=by
 cases neg with
 | true=>rfl
 | false =>
  cases b<;>simp_all[ol]
theorem digB_of{l:List UInt8}(h:l.all isD=true)(hne:l≠[]):digB l=true:=by
 simp_all[digB]
theorem txtU_form(u:Nat):txtU u=Lib.decDigits (u / 1000)++(if (decide (u % 1000≠0))=true then 46::(if u % 1000=0 then []else frac (u % 1000))else []):=by
 simp_all[txtU]
theorem val_txt(n:Int):valV (txtV n)=if n.natAbs>1000000000000 then (0,11)else (n,0):=by
 obtain⟨u,hu⟩:∃u,u=n.natAbs:=⟨_,rfl⟩
 have hw:=dd_can (u / 1000)
 obtain⟨f,hf⟩:∃f,f=if u % 1000=0 then []else frac (u % 1000):=⟨_,rfl⟩
 have hr2:u % 1000<1000:=Nat.mod_lt _ (by omega)
 have hform:=txtU_form u
 rw[←hf]at hform
 have hhead:(txtU u).head?≠some 45:=by
  rw[hform]
  cases hd:Lib.decDigits (u / 1000)with
  | nil=>grind
  | cons c r =>
   have hc:isD c=true:=by
    have:=hw.1
    simp_all
   simp_all[dig_ne]
 have hst:ol (txtV n)=(decide (n<0),txtU u):=by
  grind[txtV,strip_of]
 have hcut:cutV (txtU u)=(Lib.decDigits (u / 1000),f,decide (u % 1000≠0)):=by
  rw[hform]
  exact cutV_of _ _ _ hw.1 (λh=>by simp_all)
 have hfr:u % 1000≠0→f.all isD=true∧f≠[]∧f.length≤3∧f.getLast?≠some 48:=by
  intro h
  rw[hf,qU h]
  obtain⟨q1,q2,q3⟩:=d3_dig hr2
  exact⟨fr3_dig _ _ _ q1 q2 q3,fr3_ne _ _ _ (d3_zero hr2 h),fr3_len _ _ _,fr3_last _ _ _⟩
 have hbad:badV (decide (n<0)) (txtU u) (Lib.decDigits (u / 1000)) f (decide (u % 1000≠0))=false:=by
  unfold badV badP
  rw[digB_of hw.1 hw.2.1]
  have h1:(decide (1<(Lib.decDigits (u / 1000)).length)&&(Lib.decDigits (u / 1000)).head? == some 48)=false:=by
   by_cases q:1<(Lib.decDigits (u / 1000)).length
   ·have:=hw.2.2 q
    simp[this]
   ·simp[q]
  have h2:(decide (u % 1000≠0)&&(!digB f||(decide (3<f.length)||f.getLast? == some 48)))=false:=by
   grind[digB_of]
  have h3:(decide (n<0)&&txtU u==[48])=false:=by
   by_cases q:n<0
   ·have hu0:u≠0:=by omega
    rw[qY q,Bool.true_and]
    refine beq_eq_false_iff_ne.2 λe=>?_
    rw[hform]at e
    by_cases q2:u % 1000=0
    ·rw[qU (by simp[q2]),zH]at e
     grind[dd_head]
    ·rw[qV (by simp_all)]at e
     have h5:=congrArg List.length e
     grind[List.length_pos_iff]
   ·simp[q]
  simp_all
 unfold valV
 rw[hst]
 simp only
 rw[hcut]
 simp only
 rw[hbad,qU (by simp),←hu]
 unfold valN
 have hnum:num (Lib.decDigits (u / 1000)++f++zer (3-f.length))=u:=by
  by_cases q:u % 1000=0
  ·rw[hf,qV q]
   show num (Lib.decDigits (u / 1000)++[]++zer 3)=u
   have hz:(0:Nat)<1000:=by omega
   have:=d3_num hz (Lib.decDigits (u / 1000))
   grind[dd_num,zer,d3]
  (simp_all[frac,fr3_pad,d3_num,dd_num];omega)
 rw[hnum]
 by_cases h10:(Lib.decDigits (u / 1000)).length>10
 ·rw[qV h10,qV]
  have h0:u / 1000≠0:=by
   grind[dd_small]
  have h1:=num_pos hw.1 hw.2.1 (dd_head h0)
  rw[dd_num]at h1
  have h2:(10:Nat) ^ 10≤10 ^ ((Lib.decDigits (u / 1000)).length-1):=zJ (by omega) (by omega)
  omega
 grind
theorem c46(c:UInt8):((c.toNat:Int)==46)=(c==46):=by
 rw[zG]
 simp only[beq_iff_eq]
 constructor
 ·intro h;exact UInt8.toNat_inj.1 (by grind)
 simp_all
theorem c45(c:UInt8):((c.toNat:Int)==45)=(c==45):=by
 rw[zG]
 simp only[beq_iff_eq]
 constructor
 ·intro h;exact UInt8.toNat_inj.1 (by grind)
 simp_all
def nch(c:UInt8):Bool:=isD c||(c==45||c==46)
abbrev PR:=ae×Int×Int
def badR(a:Nat)(e:Int):PR:=(ae.mk false [] [],(a:Int),e)
def prC(sk:Bool)(ws:List aC)(a:Nat)(r:List UInt8):PR :=
 if (r.takeWhile prn).length>100 then badR a 3
 else if r.takeWhile prn=[]∨(r.dropWhile prn).head?≠some 41 then badR (a+1+(r.takeWhile prn).length) 2
 else if (r.dropWhile prn).drop 1≠[]then badR (a+1+(r.takeWhile prn).length+1) 2
 else (ae.mk sk ws (r.takeWhile prn),0,0)
def wordV(c:UInt8)(t:List UInt8):aC:=aC.mk (c.toNat:Int) (valV t).1
def prN(sk:Bool)(a:Nat)(ws:List aC)(K:Nat→List UInt8→PR):List UInt8→PR
 | []=>(ae.mk sk ws [],0,0)
 | d::q=>if d≠32 then badR a 2 else K (a+1) q
theorem prN_eq(sk:Bool)(a:Nat)(ws:List aC)(K:Nat→List UInt8→PR)(q:List UInt8):prN sk a ws K (32::q)=K (a+1) q:=rfl
theorem prN_ne(sk:Bool)(a:Nat)(ws:List aC)(K:Nat→List UInt8→PR){d:UInt8}(q:List UInt8)(h:d≠32):prN sk a ws K (d::q)=badR a 2:=qV h
def prW(sk:Bool):Nat→Bool→Nat→List aC→List UInt8→PR
 | 0,_,a,_,_=>badR a 2
 | _+1,sp,a,ws,[]=>if sp=true then badR a 2 else (ae.mk sk ws [],0,0)
 | n+1,_,a,ws,c::r =>
  if c=40 then prC sk ws a r
  else if c.toNat<65∨c.toNat>90 then badR a 2
  else if ws.length=16 then badR a 3
  else if (valV (r.takeWhile nch)).2≠0 then badR a (valV (r.takeWhile nch)).2
  else prN sk (a+1+(r.takeWhile nch).length) (ws++[wordV c (r.takeWhile nch)]) (λb q=>prW sk n true b (ws++[wordV c (r.takeWhile nch)]) q) (r.dropWhile nch)
def prsV(s:List UInt8):PR:=if s.head? = some 47 then prW true (s.length+1) false 1 [] (s.drop 1)else prW false (s.length+1) false 0 [] s
variable {s:List UInt8}
theorem scan{p:UInt8→Bool}{f:Int→Option (Ex Int Int)}(hs:s.length≤1000000)(h1:∀(i:Nat) c,s[i]? = some c→f (i:Int)=if p c=true then some (.go ((i+1:Nat):Int))else some (.ret (i:Int)))(h2:f (s.length:Int)=some (.ret (s.length:Int)))(a:Nat)(ha:a≤s.length) :
  dR f fuel (a:Int)=some ((a+((s.drop a).takeWhile p).length:Nat):Int):=by
 have key:Tot (dR f fuel (a:Int)) (λo=>o=((a+((s.drop a).takeWhile p).length:Nat):Int)):=by
  refine Tot.loop (λm v=>∃i:Nat,v=(i:Int)∧i≤s.length∧m=s.length-i∧i+((s.drop i).takeWhile p).length=a+((s.drop a).takeWhile p).length) _ (s.length-a) (gy (by omega)) ⟨a,rfl,ha,rfl,rfl⟩ (λm v hr=>?_)
  obtain⟨i,rfl,hi,hm,ht⟩:=hr
  rcases zO hi with e | q
  ·subst e
   rw[h2]
   refine .ret ?_
   simp_all
  ·have hx:=List.getElem?_eq_getElem q
   rw[h1 i _ hx]
   rw[zL q,zU]at ht
   cases hp:p s[i]with
   | true =>
    rw[hp,qV rfl,zD]at ht
    rw[qV rfl]
    exact .go ⟨s.length-(i+1),by omega,i+1,rfl,by omega,rfl,by omega⟩
   | false =>
    rw[hp,qU (by simp),List.length_nil]at ht
    rw[qU (by simp)]
    refine .ret ?_
    omega
 obtain⟨o,ho,rfl⟩:=key
 exact ho
theorem nN{i:Nat}(h:s[i]? = some c):((i:Int)==(s.length:Int))=false:=by
 grind
variable {a:Nat}
theorem cut_mid{r t:List UInt8}{p:UInt8→Bool}(hd:s.drop a=r)(ht:r.takeWhile p=t)(ha:a≤s.length)(hs:s.length≤1000000):cutL s (a:Int) ((a+t.length:Nat):Int)=some t:=by
 have hl:=(tw_len p r).1
 have hrl:r.length=s.length-a:=by grind
 rw[ht]at hl
 unfold cutL
 rw[qU (by omega)]
 grind[zE,List.take_left']
theorem drop_tw{r:List UInt8}{p:UInt8→Bool}(hd:s.drop a=r):s.drop (a+(r.takeWhile p).length)=r.dropWhile p:=by
 rw[←zW,hd]
 grind[zE]
theorem dw_at{r:List UInt8}{p:UInt8→Bool}(hd:s.drop a=r):s[a+(r.takeWhile p).length]? = (r.dropWhile p).head?:=by
 have:=drop_tw (p:=p) hd
 grind[List.head?_drop]
theorem number_val(c:UInt8):(((decide ((c.toNat:Int)≥48))&&(decide ((c.toNat:Int)≤57)))||(((c.toNat:Int)==45)||((c.toNat:Int)==46)))=nch c:=by
 unfold nch
 rw[c45,c46]
 have h:isD c=(decide ((c.toNat:Int)≥48)&&decide ((c.toNat:Int)≤57)):=by
  unfold isD
  grind
 rw[h]
theorem c40(c:UInt8):((c.toNat:Int)==40)=decide (c=40):=by
 rw[zG]
 simp only[beq_iff_eq,rc]
 constructor
 ·intro h;exact UInt8.toNat_inj.1 (by grind)
 simp_all
theorem c41(c:UInt8):((c.toNat:Int) != 41)=decide (c≠41):=by
 rw[zG]
 simp only[bne_iff_ne,ne_eq,rc]
 constructor
 ·intro h e;simp_all
 ·intro h e;exact h (UInt8.toNat_inj.1 (by grind))
theorem c32(c:UInt8):((c.toNat:Int) != 32)=decide (c≠32):=by
 rw[zG]
 simp only[bne_iff_ne,ne_eq,rc]
 constructor
 ·intro h e;simp_all
 ·intro h e;exact h (UInt8.toNat_inj.1 (by grind))
theorem c47(c:UInt8):((c.toNat:Int) != 47)=decide (c≠47):=by
 rw[zG]
 simp only[bne_iff_ne,ne_eq,rc]
 constructor
 ·intro h e;simp_all
 ·intro h e;exact h (UInt8.toNat_inj.1 (by grind))
def bkOut(r:Int×cc):PR:=if (r.1 != 0)=true then (ae.mk false [] [],r.2.at_,r.1)else (r.2.b,0,0)
set_option maxHeartbeats 4000000 in
theorem bk_Parse_tot(s:List UInt8)(hs:s.length≤65536):Tot (bk_Parse s) (λr=>r=prsV s):=by
 (unfold bk_Parse;try delta jB jR lF jV gF iF)
 refine Tot.ite (λh=>absurd (ra h) (by omega)) (λ_=>?_)
 refine Tot.bind (E:=λr=>bkOut r=prsV s) ?_ (λr hr=>?_)
 ·refine Tot.bind (E:=λx:Bool×Int=>x=if s.head? = some 47 then (true,1)else (false,0)) ?_ (λx hx=>?_)
  ·cases s with
   | nil=>exact .ok rfl
   | cons c q =>
    have h0:((0:Int)==(((c::q).length:Nat):Int))=false:=by simp;omega
    rw[aa,h0,qU (by simp),show gt (c::q) 0=some c from rfl,aa,aa,c47]
    by_cases hc:c=47
    ·subst hc;exact .ok rfl
    ·rw[qY hc,qV rfl]
     refine .ok ?_
     simp_all
  ·obtain⟨sk,a0,hx2,ha0,hT⟩:∃(sk:Bool) (a0:Nat),x=(sk,(a0:Int))∧a0≤s.length∧prsV s=prW sk (s.length+1) false a0 [] (s.drop a0):=by
    unfold prsV
    by_cases hc:s.head? = some 47
    ·rw[qV hc]at hx ⊢
     grind
    ·rw[qU hc]at hx ⊢
     exact⟨false,0,hx,by omega,rfl⟩
   subst hx2
   rw[hT]
   generalize hTT:prW sk (s.length+1) false a0 [] (s.drop a0)=T
   refine Tot.loop (λm v=>∃(sp:Bool) (a:Nat) (ws:List aC),v=(sp,cc.mk s (a:Int) (ae.mk sk ws []))∧a≤s.length∧ws.length≤16∧s.length-a<m∧prW sk m sp a ws (s.drop a)=T) _ (s.length+1) (gy (by omega)) ⟨false,a0,[],rfl,ha0,by simp,by omega,hTT⟩ (λm v hr=>?_)
   obtain⟨sp,a,ws,rfl,ha,hws,hm,ht⟩:=hr
   obtain⟨n,rfl⟩:∃n,m=n+1:=⟨m-1,by omega⟩
   simp only[aa]
   rcases zO ha with e | hlt
   ·have hnil:s.drop a=[]:=by rw[e];simp
    rw[hnil]at ht
    rw[show ((a:Int)==(s.length:Int))=true by simp;omega,qV rfl]
    cases sp with
    | true=>rw[qV rfl];exact .ret (by rw[←ht];rfl)
    | false=>rw[qU (by simp)];exact .ret (by rw[←ht];rfl)
   ·obtain⟨c,hc⟩:∃c,s[a]? = some c:=⟨_,List.getElem?_eq_getElem hlt⟩
    have hdr:s.drop a=c::s.drop (a+1):=by
     grind[zL]
    obtain⟨r,hr⟩:∃r,s.drop (a+1)=r:=⟨_,rfl⟩
    rw[hdr,hr]at ht
    have hw1:IntKind.i64.wrap ((a:Int)+1)=((a+1:Nat):Int):=by grind[aE]
    have hrl:r.length=s.length-(a+1):=by grind
    rw[nN hc,qU (by simp),gt_k hc,aa,c40,hw1]
    unfold prW at ht
    by_cases h40:c=40
    ·-- a comment
     rw[qV h40]at ht
     rw[qY h40,qV rfl]
     rw[scan (s:=s) (p:=prn) (by omega) (λi x hx=>by
      rw[nN hx,qU (by simp),gt_k hx,aa]
      (unfold gR;try delta jV)
      rw[aa,aa,aE (by omega) (by grind)]
      rfl) (by simp_all) (a+1) (by omega),aa,hr]
     have htl:=(tw_len prn r).1
     rw[cut_mid (p:=prn) hr rfl (by omega) (by omega),aa]
     unfold prC at ht
     by_cases h100:(r.takeWhile prn).length>100
     ·rw[qV h100]at ht
      rw[qY (show (((r.takeWhile prn).length:Nat):Int)>100 by omega),qV rfl,aa]
      exact .ret (by rw[←ht];rfl)
     ·rw[qU h100]at ht
      rw[qZ (show ¬(((r.takeWhile prn).length:Nat):Int)>100 by omega),qU (by simp)]
      by_cases hnil:r.takeWhile prn=[]
      ·rw[qV (.inl hnil)]at ht
       rw[hnil]at ht ⊢
       exact .ret (by rw[←ht];rfl)
      ·have hbe:(r.takeWhile prn==[])=false:=by simp_all
       rw[hbe,qU (by simp)]
       have hat:=dw_at (p:=prn) hr
       rcases zO (show a+1+(r.takeWhile prn).length≤s.length by omega)with e | hlt2
       ·have hh:(r.dropWhile prn).head? = none:=by simp_all
        rw[qV (.inr (by rw[hh];simp))]at ht
        rw[show (((a+1+(r.takeWhile prn).length:Nat):Int)==(s.length:Int))=true by simp;omega,qV rfl]
        exact .ret (by rw[←ht];rfl)
       ·obtain⟨d,hd⟩:∃d,s[a+1+(r.takeWhile prn).length]? = some d:=⟨_,List.getElem?_eq_getElem hlt2⟩
        rw[hd]at hat
        rw[nN hd,qU (by simp),gt_k hd,aa,aa,c41]
        have hw2:IntKind.i64.wrap (((a+1+(r.takeWhile prn).length:Nat):Int)+1)=((a+1+(r.takeWhile prn).length+1:Nat):Int):=by grind[aE]
        by_cases h41:d=41
        ·rw[qZ (by simp_all),qU (by simp),hw2,aa,aa,qU (by simp)]
         dsimp only
         rw[qU (by simp_all)]at ht
         have hq:(r.dropWhile prn).drop 1=s.drop (a+1+(r.takeWhile prn).length+1):=by
          rw[←drop_tw (p:=prn) hr,zW]
         rw[hq]at ht
         by_cases hend:a+1+(r.takeWhile prn).length+1=s.length
         ·rw[qU (by simp_all)]at ht
          rw[show (((a+1+(r.takeWhile prn).length+1:Nat):Int)==(s.length:Int))=true by simp;omega]
          exact .ret (by rw[←ht];rfl)
         ·rw[qV (by
           intro e2
           have:=congrArg List.length e2
           grind)]at ht
          rw[show (((a+1+(r.takeWhile prn).length+1:Nat):Int)==(s.length:Int))=false by simp;omega]
          exact .ret (by rw[←ht];rfl)
        ·rw[qY h41,qV rfl,aa,aa]
         rw[qV (.inr (by grind))]at ht
         exact .ret (by rw[←ht];rfl)
    ·-- a word
     rw[qU h40]at ht
     rw[qZ h40,qU (by simp),aa]
     have hlet:(decide ((c.toNat:Int)<65)||decide ((c.toNat:Int)>90))=decide (c.toNat<65∨c.toNat>90):=by
      grind
     rw[hlet]
     by_cases hl:c.toNat<65∨c.toNat>90
     ·rw[qV hl]at ht
      rw[qY hl,qV rfl]
      exact .ret (by rw[←ht];rfl)
     ·rw[qU hl]at ht
      rw[qZ hl,qU (by simp)]
      by_cases h16:ws.length=16
      ·rw[qV h16]at ht
       rw[show ((ws.length:Int)==16)=true by simp;omega,qV rfl]
       exact .ret (by rw[←ht];rfl)
      ·rw[qU h16]at ht
       rw[show ((ws.length:Int)==16)=false by simp;omega,qU (by simp)]
       rw[scan (s:=s) (p:=nch) (by omega) (λi x hx=>by
        have hlx:=aF hx
        rw[qY (show (i:Int)<(s.length:Int) by omega),qV rfl,gt_k hx,aa]
        rw[←number_val x,aE (by omega) (by omega)]
        cases decide ((x.toNat:Int)≥48)<;>cases decide ((x.toNat:Int)≤57)<;>cases ((x.toNat:Int)==45)<;>rfl) (by simp_all) (a+1) (by omega),aa,hr]
       have htl:=(tw_len nch r).1
       rw[cut_mid (p:=nch) hr rfl (by omega) (by omega),aa,bk_Value_eq _ (by omega),aa]
       have hat:=dw_at (p:=nch) hr
       have hdw:=drop_tw (p:=nch) hr
       by_cases hv:(valV (r.takeWhile nch)).2=0
       ·rw[qU (by omega)]at ht
        rw[hv]
        simp only[bne_self_eq_false,zA,qW]
        rw[br (by omega),aX,aa]
        simp only[bne_self_eq_false,zA,qW]
        rcases zO (show a+1+(r.takeWhile nch).length≤s.length by omega)with e | hlt2
        ·have hnil:r.dropWhile nch=[]:=by simp_all
         rw[hnil]at ht
         rw[show (((a+1+(r.takeWhile nch).length:Nat):Int)==(s.length:Int))=true by simp;omega,qV rfl]
         exact .ret (by rw[←ht];rfl)
        ·obtain⟨d,hd⟩:∃d,s[a+1+(r.takeWhile nch).length]? = some d:=⟨_,List.getElem?_eq_getElem hlt2⟩
         have hcons:r.dropWhile nch=d::s.drop (a+1+(r.takeWhile nch).length+1):=by
          grind[zL]
         rw[hcons]at ht
         rw[nN hd,qU (by simp),qU (by simp),gt_k hd,aa,aa,c32]
         have hw2:IntKind.i64.wrap (((a+1+(r.takeWhile nch).length:Nat):Int)+1)=((a+1+(r.takeWhile nch).length+1:Nat):Int):=by grind[aE]
         by_cases h32:d=32
         ·subst h32
          rw[prN_eq]at ht
          rw[qZ (by simp),qU (by simp),hw2,aa,qU (by simp)]
          exact .go ⟨n,by omega,true,_,_,rfl,by omega,by simp;omega,by omega,ht⟩
         ·rw[prN_ne _ _ _ _ _ h32]at ht
          rw[qY h32,qV rfl,aa]
          exact .ret (by rw[←ht];rfl)
       ·rw[qV hv]at ht
        rw[show ((valV (r.takeWhile nch)).2 != 0)=true by simp_all,qV rfl,aa]
        simp only[show ((valV (r.takeWhile nch)).2 != 0)=true by simp_all,qX]
        refine .ret ?_
        rw[←ht]
        unfold bkOut
        rw[show ((valV (r.takeWhile nch)).2 != 0)=true by simp_all]
        rfl
 ·rw[←hr]
  unfold bkOut
  cases (r.1 != 0)with
  | true=>exact .ok rfl
  | false=>exact .ok rfl
def jn:List (List UInt8)→List UInt8
 | []=>[]
 | x::l=>x++(l.map (32::·)).flatten
theorem jn_cons(x y:List UInt8)(l:List (List UInt8)):jn (x::y::l)=x++32::jn (y::l):=by simp[jn]
theorem join_jn:∀l:List (List UInt8),Lib.join l [32]=jn l
 | []=>rfl
 | [x]=>by simp_all[Lib.join,jn]
 | x::y::l=>by
  have ih:=join_jn (y::l)
  simp_all[jn_cons,Lib.join]
theorem jn_len(M:Nat):∀l:List (List UInt8),(∀x∈l,x.length≤M)→(jn l).length≤l.length*(M+1)
 | [],_=>by simp[jn]
 | [x],h=>by
  grind[jn]
 | x::y::l,h=>by
  have ih:=jn_len M (y::l) (λz hz=>h z (by simp[hz]))
  grind[jn_cons,Nat.add_mul]
def wt(w:aC):List UInt8:=UInt8.ofNat w.Letter.toNat::txtV w.Value
def cmT(c:List UInt8):List (List UInt8):=if c=[]then []else [40::(c++[41])]
def fmtV(b:ae):List UInt8:=(if b.Skip=true then [47]else [])++jn (b.Words.map wt++cmT b.Comment)
theorem rune_letter(n:Int)(h1:65≤n)(h2:n≤90):runeS (IntKind.i32.wrap n)=[UInt8.ofNat n.toNat]:=by
 have:∀k,k<128→runeS (IntKind.i32.wrap ((k:Nat):Int))=[UInt8.ofNat k]:=ra (by kernel_rfl)
 grind
theorem txt_len100(n:Int)(h1:-9223372036854775808≤n)(h2:n≤9223372036854775807):(txtV n).length≤100:=by
 grind[txtV,txtU,dd_len,frac,fr3_len]
theorem bk_Valid_totB(b:ae)(h1:b.Words.length≤1000)(h2:b.Comment.length≤1000):Tot (kJ b) (λe=>(e=0∧eU b)∨(e=1∧¬eU b)):=by
 (unfold kJ;try delta jB rF jV)
 have hsz:(decide ((b.Words.length:Int)>16)||decide ((b.Comment.length:Int)>100))=decide (¬(b.Words.length≤16∧b.Comment.length≤100)):=by
  grind
 rw[hsz]
 refine Tot.ite (λh=>.ok (.inr ⟨rfl,λq=>ra h ⟨q.1,q.2.1⟩⟩)) (λh=>?_)
 have hle:b.Words.length≤16∧b.Comment.length≤100:=by simpa using h
 refine Tot.bindX (E:=λ_=>∀w∈b.Words,okW w) (TotX.of (Tot.mono (E:=λx=>(x=.ret 1∧¬eU b)∨(x=.go ()∧∀w∈b.Words,okW w)) ?_ ?_)) (λx hx=>?_)
 ·refine Tot.guard (bn (by omega)) (Tot.range (λi _=>∀(k:Nat) w,k<i→b.Words[k]? = some w→okW w) _ (λk w q=>by omega) (λi x v hx hr=>?_) (λv hr=>.ok (.inr ⟨rfl,λw hw=>?_⟩)))
  ·have hc:(decide (x.Letter<65)||(decide (x.Letter>90)||(decide (x.Value>1000000000000)||decide (x.Value < -1000000000000))))=decide (¬(65≤x.Letter∧x.Letter≤90∧-1000000000000≤x.Value∧x.Value≤1000000000000)):=by
    grind
   rw[hc]
   refine TotX.ite (λh2=>.ret (.inl ⟨rfl,λq=>ra h2 (q.2.2.1 x (List.mem_of_getElem? hx))⟩)) (λh2=>.go (λk w hk hw=>?_))
   rcases Nat.lt_or_ge k i with q | q
   grind
   ·obtain rfl:k=i:=by omega
    rw[hx]at hw;injection hw with hw;subst hw
    have h3:65≤x.Letter∧x.Letter≤90∧-1000000000000≤x.Value∧x.Value≤1000000000000:=Decidable.not_not.1 (of_decide_eq_false h2)
    exact h3
  grind[List.mem_iff_getElem?]
 grind
 ·refine Tot.bindX (E:=λ_=>eU b) (TotX.of (Tot.mono (E:=λx=>(x=.ret 1∧¬eU b)∨(x=.go ()∧eU b)) ?_ ?_)) (λ_ hv=>.ok (.inl ⟨rfl,hv⟩))
  ·refine Tot.guard (bn (by grind[oe])) (Tot.range (λi _=>∀(k:Nat) c,k<i→b.Comment[k]? = some c→prn c=true) _ (λk w q=>by omega) (λi y v hy hr=>?_) (λv hr=>.ok (.inr ⟨rfl,hle.1,hle.2,hx,λc hc=>?_⟩)))
   ·unfold oe at hy
    rw[List.getElem?_map]at hy
    cases hq:b.Comment[i]? with
    | none=>simp_all
    | some c =>
     rw[hq]at hy;injection hy with hy;subst hy
     have hp:gR (c.toNat:Int)=some (prn c):=rfl
     rw[hp,aa]
     refine TotX.ite (λh2=>.ret (.inl ⟨rfl,λq=>?_⟩)) (λh2=>.go (λk w hk hw=>?_))
     ·have:=q.2.2.2 c (List.mem_of_getElem? hq)
      simp_all
     grind
   grind[List.mem_iff_getElem?,oe]
  grind
theorem fold_map{α β:Type}(g:α→β):∀(l:List α) (o:List β),l.foldl (λo x=>o++[g x]) o=o++l.map g
 | [],o=>by simp
 | x::l,o=>by rw[List.foldl_cons,fold_map g l];simp
theorem wt_len(w:aC)(h:okW w):(wt w).length≤101:=by
 have:=txt_len100 w.Value (by have:=h.2.2.1;omega) (by have:=h.2.2.2;omega)
 simp_all[wt]
theorem parts_len{b:ae}(h:eU b):∀x∈b.Words.map wt++cmT b.Comment,x.length≤102:=by
 intro x hx
 rcases List.mem_append.1 hx with hx | hx
 ·obtain⟨w,hw,rfl⟩:=List.mem_map.1 hx
  have:=wt_len w (h.2.2.1 w hw);omega
 ·unfold cmT at hx
  split at hx
  ·cases hx
  ·simp at hx
   subst hx
   have:=h.2.1
   simp;omega
theorem bk_Format_ok(b:ae)(h:eU b):ph b=some (fmtV b,0):=by
  (unfold ph;try delta jB jC rF gF)
  obtain⟨e,he,hv⟩:=bk_Valid_totB b (by have:=h.1;omega) (by have:=h.2.1;omega)
  have he0:e=0:=by simp_all
  subst he0
  have hwl:=h.1
  have hcl:=h.2.1
  rw[he,aa,qU (by simp),bn (by omega),aX,kO (g:=λ(v:List (List UInt8)) w=>v++[wt w]) (R:=λi v=>v.length=i) (L:=b.Words) ?_ b.Words 0 [] rfl (by simp),fold_map,aa]
  · have hpl:=parts_len h
    have hjl:=jn_len 102 _ hpl
    have hpn:(b.Words.map wt++cmT b.Comment).length≤17:=by
      grind[cmT]
    have hcm : (if (!(b.Comment == [])) = true then
          aA (okStr [40] b.Comment) (
          aA (okStr ([40]++b.Comment) [41]) (
          aA (cd (([]++b.Words.map wt).length+1)) (
          some (([]++b.Words.map wt)++[([40]++b.Comment)++[41]]))))
        else
          some ([]++b.Words.map wt))=some (b.Words.map wt++cmT b.Comment):=by
      unfold cmT
      by_cases hc:b.Comment=[]
      simp_all
      · rw[qU hc,show (b.Comment==[])=false by simp_all,zX,qV rfl,l8 (by simp;omega),aX,l8 (by simp;omega),aX,br (by simp;omega),aX]
        simp
    rw[hcm,aa]
    have hj:strings_Join (b.Words.map wt++cmT b.Comment) [32]=some (jn (b.Words.map wt++cmT b.Comment)):=by
      unfold strings_Join
      rw[join_jn,qY (by omega),qY (by omega)]
      rfl
    rw[hj,aa]
    unfold fmtV
    have hjl2:=zT (102+1) hpn
    cases b.Skip with
    | true=>rw[qV rfl,l8 (by simp;omega),aX,aa];rfl
    | false=>simp_all
  · intro i x v hx hr
    have hlt:=aF hx
    obtain⟨h1,h2,h3,h4⟩:=h.2.2.1 x (List.mem_of_getElem? hx)
    have hl:=txt_len100 x.Value (by omega) (by omega)
    rw[bk_Text_eq _ (by omega) (by omega),aa,rune_letter _ h1 h2,l8 (by simp;omega),aX,br (by omega),aX]
    exact⟨rfl,by simp[hr]⟩
theorem tw_gen{p:UInt8→Bool}:∀(w r:List UInt8),w.all p=true→(r=[]∨∃d q,r=d::q∧p d=false)→(w++r).takeWhile p=w∧(w++r).dropWhile p=r
 | [],r,_,hr=>by rcases hr with rfl | ⟨d,q,rfl,hd⟩<;>simp_all
 | c::w,r,h,hr=>by
  simp only[zB,zF]at h
  obtain⟨h1,h2⟩:=tw_gen w r h.2 hr
  simp_all
theorem nch_txt(n:Int):(txtV n).all nch=true:=by
 grind[txtV,txtU,dd_dig,nch,frac,d3_dig,fr3_dig]
variable {n:Int}
theorem oX(h1:65≤n)(h2:n≤90):(UInt8.ofNat n.toNat).toNat=n.toNat:=by
 grind[UInt8.toNat_ofNat']
theorem val_ok{v:Int}(h1:-1000000000000≤v)(h2:v≤1000000000000):valV (txtV v)=(v,0):=by
 (simp_all[val_txt];omega)
theorem prC_ok(sk:Bool)(ws:List aC)(a:Nat)(c:List UInt8)(hc:c.all prn=true)(hl:c.length≤100)(hne:c≠[]):prC sk ws a (c++[41])=(ae.mk sk ws c,0,0):=by
 simp_all[prn,prC,qU]
theorem prW_cons(sk:Bool)(n:Nat)(sp:Bool)(a:Nat)(ws:List aC)(c:UInt8)(r:List UInt8):prW sk (n+1) sp a ws (c::r) =
  if c=40 then prC sk ws a r
  else if c.toNat<65∨c.toNat>90 then badR a 2
  else if ws.length=16 then badR a 3
  else if (valV (r.takeWhile nch)).2≠0 then badR a (valV (r.takeWhile nch)).2
  else prN sk (a+1+(r.takeWhile nch).length) (ws++[wordV c (r.takeWhile nch)]) (λb q=>prW sk n true b (ws++[wordV c (r.takeWhile nch)]) q) (r.dropWhile nch):=rfl
variable {α:Type}{l:List α}
theorem cons_ne(h:l≠[]):∃x r,l=x::r:=by
 cases l<;>simp_all
theorem jn_ne(x:List UInt8){l:List (List UInt8)}(h:l≠[]):jn (x::l)=x++32::jn l:=by
 obtain⟨y,r,rfl⟩:=cons_ne h
 grind[jn_cons]
theorem prW_fmt(sk:Bool)(c:List UInt8)(hc:c.all prn=true)(hcl:c.length≤100):∀(W:List aC) (n:Nat) (sp:Bool) (a:Nat) (ws:List aC),(∀w∈W,okW w)→ws.length+W.length≤16→W.length<n→(sp=true→W≠[]∨c≠[])→prW sk n sp a ws (jn (W.map wt++cmT c))=(ae.mk sk (ws++W) c,0,0)
 | [],n,sp,a,ws,_,_,hn,hsp=>by
  obtain⟨n,rfl⟩:∃q,n=q+1:=⟨n-1,by omega⟩
  by_cases h0:c=[]
  ·subst h0
   have:sp=false:=by
    simp_all
   subst this
   rw[zH];rfl
  ·have hj:jn (List.map wt []++cmT c)=40::(c++[41]):=by
    simp_all[cmT,jn]
   rw[hj,zH]
   show (if (40:UInt8)=40 then prC sk ws a (c++[41])else _)=_
   simp_all[prC_ok]
 | w::W,n,sp,a,ws,hW,hlen,hn,hsp=>by
  obtain⟨n,rfl⟩:∃q,n=q+1:=⟨n-1,by omega⟩
  simp only[zD]at hlen hn
  obtain⟨o1,o2,o3,o4⟩:=hW w (by simp)
  have hL:=oX o1 o2
  have h40:¬(UInt8.ofNat w.Letter.toNat=40):=by
   intro e
   rw[e]at hL
   grind
  have hw:wordV (UInt8.ofNat w.Letter.toNat) (txtV w.Value)=w:=by
   unfold wordV
   rw[val_ok o3 o4,hL]
   obtain⟨l,v⟩:=w
   grind
  have step:∀q,(q=[]∨∃d r,q=d::r∧nch d=false)→prW sk (n+1) sp a ws (wt w++q)=prN sk (a+1+(txtV w.Value).length) (ws++[w]) (λb r=>prW sk n true b (ws++[w]) r) q:=by
   intro q hq
   obtain⟨t1,t2⟩:=tw_gen (p:=nch) (txtV w.Value) q (nch_txt _) hq
   rw[show wt w++q=UInt8.ofNat w.Letter.toNat::(txtV w.Value++q) from rfl,prW_cons,qU h40,qU (by omega),qU (by omega),t1,t2,val_ok o3 o4,qU (by simp),hw]
  have ha:ws++w::W=(ws++[w])++W:=by simp
  rw[ha,List.map_cons,zI]
  by_cases hrest:W.map wt++cmT c=[]
  ·have hW0:W=[]:=by
    simp_all
   have hc0:c=[]:=by
    simp_all[cmT]
   rw[hrest]
   have:=step [] (.inl rfl)
   rw[zH]at this
   rw[show jn [wt w]=wt w by simp[jn],this,hW0,hc0,zH]
   rfl
  ·rw[jn_ne _ hrest,step _ (.inr ⟨32,_,rfl,rfl⟩),prN_eq]
   refine prW_fmt sk c hc hcl W n true _ (ws++[w]) (λx hx=>hW x (by simp[hx])) (by simp;omega) (by omega) (λ_=>?_)
   by_cases q:W=[]
   ·right
    intro e
    apply hrest
    rw[q,e];rfl
   simp_all
theorem flat_len:∀l:List (List UInt8),l.length≤((l.map (32::·)).flatten).length
 | []=>by simp
 | x::l=>by
  have:=flat_len l
  grind
theorem jn_ge(W:List aC)(l:List (List UInt8)):W.length≤(jn (W.map wt++l)).length:=by
 cases W with
 | nil=>simp
 | cons w W =>
  have:=flat_len (W.map wt++l)
  rw[List.map_cons,zI]
  show _≤(wt w++((W.map wt++l).map (32::·)).flatten).length
  grind[wt]
theorem jn_head{W:List aC}{c:List UInt8}(hW:∀w∈W,okW w):(jn (W.map wt++cmT c)).head?≠some 47:=by
 cases W with
 | nil =>
  grind[cmT,jn]
 | cons w W =>
  obtain⟨o1,o2,_⟩:=hW w (by simp)
  have hL:=oX o1 o2
  rw[List.map_cons,zI]
  show (UInt8.ofNat w.Letter.toNat::(txtV w.Value++_)).head?≠some 47
  rw[List.head?_cons]
  intro e
  injection e with e
  rw[e]at hL
  grind
theorem parse_fmt(b:ae)(h:eU b):prsV (fmtV b)=(b,0,0):=by
 obtain⟨h1,h2,h3,h4⟩:=h
 obtain⟨sk,W,c⟩:=b
 simp only at h1 h2 h3 h4
 have hc:c.all prn=true:=List.all_eq_true.2 h4
 have hge:=jn_ge W (cmT c)
 unfold prsV fmtV
 simp only
 cases sk with
 | true =>
  rw[qV rfl,show (([47]:List UInt8)++jn (W.map wt++cmT c)).head? = some 47 from rfl,qV rfl,show (([47]:List UInt8)++jn (W.map wt++cmT c)).drop 1=jn (W.map wt++cmT c) from rfl]
  grind[prW_fmt]
 | false =>
  rw[show ((if false=true then ([47]:List UInt8)else [])++jn (W.map wt++cmT c))=jn (W.map wt++cmT c) from rfl,qU (jn_head h3)]
  grind[prW_fmt]
theorem idxd_facts(d:UInt8):∀l:List UInt8,(Lib.indexByte l d=-1∧l.takeWhile (· != d)=l∧l.dropWhile (· != d)=[]∧l.contains d=false)∨(∃o:Nat,Lib.indexByte l d=(o:Int)∧o<l.length∧l.take o=l.takeWhile (· != d)∧l.drop o=l.dropWhile (· != d)∧l.contains d=true)
 | []=>.inl ⟨rfl,rfl,rfl,rfl⟩
 | b::l=>by
  unfold Lib.indexByte
  by_cases hb:b=d
  ·subst hb
   refine .inr ⟨0,?_,by simp,by simp,by simp,by simp⟩
   simp_all
  ·have hb1:(b==d)=false:=by simp_all
   have hb2:(b != d)=true:=by simp[hb]
   have hb3:(d==b)=false:=by grind
   rw[hb1]
   simp only[zA,qW,zU,zV,hb2,qX,List.contains_cons,hb3,Bool.false_or]
   rcases idxd_facts d l with⟨h1,h2,h3,h4⟩|⟨o,h1,h2,h3,h4,h5⟩
   simp_all
   ·right
    have hne:((o:Int)==-1)=false:=by simp
    rw[h1,hne]
    refine⟨o+1,by simp,by simp_all,?_,by simp_all,h5⟩
    simp_all
theorem cutd(d:UInt8)(s:List UInt8)(hs:s.length≤1000000):gG s [d]=some (s.takeWhile (· != d),(s.dropWhile (· != d)).drop 1,s.contains d):=by
 have hi:ec s [d]=some (Lib.indexByte s d):=by
  (unfold ec;try delta jV)
  by_cases he:s=[d]
  simp_all[Lib.indexByte]
  ·have:(((([d]:List UInt8).length:Int)==0)||(([d]:List UInt8)==s))=false:=by
    grind
   rw[this]
   show ac (stringslite_IndexByte s (d.toNat:Int)) _=_
   simp_all[stringslite_IndexByte]
 unfold gG gD
 rw[hi,aa]
 rcases idxd_facts d s with⟨h1,h2,h3,h4⟩|⟨o,h1,h2,h3,h4,h5⟩
 simp_all
 ·rw[h1,h5,←h3,←h4]
  have hw:IntKind.i64.wrap ((o:Int)+(([d]:List UInt8).length:Int))=((o+1:Nat):Int):=by
   grind[aE]
  have hc1:cutT s (o:Int)=some (s.take o):=by (simp_all[cutT];omega)
  have hc2:cutF s ((o+1:Nat):Int)=some (s.drop (o+1)):=by (simp_all[cutF];omega)
  rw[qY (show (o:Int)≥0 by omega),qV rfl,hc1,aa,hw,hc2,aa,aa,zW]
theorem cont_drop(d:UInt8)(s:List UInt8):(s.contains d=false∧s.dropWhile (· != d)=[]∧s.takeWhile (· != d)=s)∨(s.contains d=true∧∃q,s.dropWhile (· != d)=d::q):=by
 rcases idxd_facts d s with⟨_,h2,h3,h4⟩|⟨o,_,h2,h3,h4,h5⟩
 simp_all
 ·right
  refine⟨h5,?_⟩
  cases hd:s.dropWhile (· != d)with
  | nil =>
   (simp_all;omega)
  | cons c r =>
   grind[List.head?_dropWhile_not]
abbrev GR:=List ae×Int×Int
def pgN(out:List ae)(line:List UInt8)(K:List UInt8→GR):List UInt8→GR
 | []=>([],(out.length:Int)+1,2)
 | _::q=>if (prsV line).2.2≠0 then ([],(out.length:Int)+1,(prsV line).2.2)else K q
theorem pgN_cons(out:List ae)(line:List UInt8)(K:List UInt8→GR)(c:UInt8)(q:List UInt8):pgN out line K (c::q)=if (prsV line).2.2≠0 then ([],(out.length:Int)+1,(prsV line).2.2)else K q:=rfl
def pgV:Nat→List UInt8→List ae→GR
 | 0,_,out=>(out,0,0)
 | n+1,s,out=>if s=[]then (out,0,0)else pgN out (s.takeWhile (· != 10)) (λq=>pgV n q (out++[(prsV (s.takeWhile (· != 10))).1])) (s.dropWhile (· != 10))
theorem bk_Program_tot(s:List UInt8)(hs:s.length≤65536)(hc:(Lib.countByte s 10:Int)<20000):Tot (kV s) (λr=>r=pgV (s.length+1) s []):=by
  (unfold kV;try delta jB jC jR lF gF)
  have h1 : (if (decide ((s.length : Int) > 65536)) = true then
        some true
      else
        ac (fX s [10]) λ(y101:Int) =>
        if (decide (y101>20000))=true then
          some true
        else
          ac (fX s [10]) λ(y102:Int) =>
          if (y102==20000)=true then
            ac (gZ s [10]) λ(y103:Bool) =>
            some (!y103)
          else
            some false)=some false:=by
    have hcnt:fX s [10]=some (Lib.countByte s 10:Int):=rfl
    rw[qZ (by omega),qU (by simp),hcnt,aa,qZ (by omega),qU (by simp),aa,show ((Lib.countByte s 10:Int)==20000)=false by simp;omega,qU (by simp)]
  rw[h1,aa,qU (by simp)]
  generalize hT:pgV (s.length+1) s []=T
  refine Tot.bindX (E:=λout:List ae=>((out,0,0):GR)=T) (TotX.of (Tot.mono (E:=λx=>match x with | .ret e=>e=T | .go out=>((out,0,0):GR)=T) ?_ (λx h=>by grind))) (λout h=>.ok h)
  refine Tot.loop (λm v=>∃(r:List UInt8) (out:List ae),v=(r,out,(out.length:Int)+1)∧pgV m r out=T∧r.length<m∧out.length+r.length≤s.length) _ (s.length+1) (gy (by omega)) ⟨s,[],by simp,hT,by omega,by simp⟩ (λm v hr=>?_)
  obtain⟨r,out,rfl,ht,hm,hlen⟩:=hr
  obtain⟨n,rfl⟩:∃n,m=n+1:=⟨m-1,by omega⟩
  unfold pgV at ht
  dsimp only
  by_cases hnil:r=[]
  · rw[qV hnil]at ht
    rw[show (!(r==([]:List UInt8)))=false by simp_all,qU (by simp)]
    exact .ret ht
  · rw[qU hnil]at ht
    have hb:(r==([]:List UInt8))=false:=by simp_all
    rw[hb,zX,qV rfl,cutd 10 r (by omega),aa]
    have htw:=(tw_len (· != 10) r).1
    obtain⟨y,hy,rfl⟩:=bk_Parse_tot (r.takeWhile (· != 10)) (by omega)
    rw[hy,aa]
    rcases cont_drop 10 r with⟨c1,c2,_⟩|⟨c1,q,c2⟩
    · rw[c2]at ht
      rw[c1]
      exact .ret (by rw[←ht];rfl)
    · rw[c2]at ht
      rw[c1,c2]
      dsimp only
      rw[pgN_cons]at ht
      rw[qU (by simp),aa]
      have hql:q.length<r.length:=by
        have:=congrArg List.length (zE (p:=(· != 10)) (l:=r))
        grind
      by_cases he:(prsV (r.takeWhile (· != 10))).2.2=0
      · rw[qU (by omega)]at ht
        rw[he,qU (by simp),br (by omega),aX]
        refine .go ⟨n,by omega,q,_,?_,ht,by omega,by simp;omega⟩
        grind[aE]
      · rw[qV he]at ht
        rw[show ((prsV (r.takeWhile (· != 10))).2.2 != 0)=true by simp_all,qV rfl]
        exact .ret ht
def prt(l:List ae):List UInt8:=(l.map λb=>fmtV b++[10]).flatten
variable {b:ae}
theorem no10(h:eU b):(fmtV b).all (· != 10)=true:=by
 have hn:∀l:List UInt8,l.all nch=true→l.all (· != 10)=true:=by
  intro l hl
  rw[zZ]at hl ⊢
  intro x hx
  have:=hl x hx
  by_cases e:x=10
  ·subst e;cases this
  simp_all
 have hw:∀w∈b.Words,(wt w).all (· != 10)=true:=by
  intro w hw
  obtain⟨o1,o2,_⟩:=h.2.2.1 w hw
  have hL:=oX o1 o2
  unfold wt
  rw[zB,hn _ (nch_txt _)]
  have:(UInt8.ofNat w.Letter.toNat != 10)=true:=by
   rw[bne_iff_ne]
   intro e
   rw[e]at hL
   grind
  simp_all
 have hc:∀x∈b.Words.map wt++cmT b.Comment,x.all (· != 10)=true:=by
  intro x hx
  rcases List.mem_append.1 hx with hx | hx
  grind
  ·unfold cmT at hx
   split at hx
   ·cases hx
   ·simp at hx
    subst hx
    rw[zB,List.all_append]
    have:b.Comment.all (· != 10)=true:=by
     rw[zZ]
     intro c hc
     have:=h.2.2.2 c hc
     by_cases e:c=10
     ·subst e;cases this
     simp_all
    simp_all
 have hj:∀l:List (List UInt8),(∀x∈l,x.all (· != 10)=true)→(jn l).all (· != 10)=true:=by
  intro l hl
  cases l with
  | nil=>rfl
  | cons x l =>
   show (x++(l.map (32::·)).flatten).all (· != 10)=true
   grind
 grind[fmtV]
theorem tw10(h:eU b)(q:List UInt8):((fmtV b++[10])++q).takeWhile (· != 10)=fmtV b∧((fmtV b++[10])++q).dropWhile (· != 10)=10::q:=by
 grind[tw_gen,no10]
theorem pgV_prt:∀(l:List ae) (n:Nat) (out:List ae),(∀b∈l,eU b)→l.length<n→pgV n (prt l) out=(out++l,0,0)
 | [],n,out,_,hn=>by
  obtain⟨n,rfl⟩:∃q,n=q+1:=⟨n-1,by omega⟩
  rw[zH];rfl
 | b::l,n,out,h,hn=>by
  obtain⟨n,rfl⟩:∃q,n=q+1:=⟨n-1,by omega⟩
  obtain⟨t1,t2⟩:=tw10 (h b (by simp)) (prt l)
  have hp:prt (b::l)=(fmtV b++[10])++prt l:=by simp[prt]
  unfold pgV
  rw[qU (by rw[hp];simp),hp,t1,t2]
  rw[pgN_cons,parse_fmt b (h b (by simp)),qU (by simp),pgV_prt l n _ (λx hx=>h x (by simp[hx])) (by simp_all)]
  simp
theorem count_prt:∀l:List ae,(∀b∈l,eU b)→Lib.countByte (prt l) 10=l.length
 | [],_=>rfl
 | b::l,h=>by
  have hp:prt (b::l)=(fmtV b++[10])++prt l:=by simp[prt]
  have ih:=count_prt l (λx hx=>h x (by simp[hx]))
  grind[Lib.countByte,no10]
def optV(w n f:Int):Int:=if grp w≠3∨n<0∨n>1000∨(f≠0∧(f<2∨f>100))then 1 else 0
theorem po_Valid_eq(o:dP):po_Valid o=some (optV o.Work o.Numbers o.Fold):=by
 (unfold po_Valid optV;try delta jR)
 simp only[lk,aa]
 by_cases h1:grp o.Work=3<;>by_cases h2:o.Numbers<0<;>by_cases h3:o.Numbers>1000<;>by_cases h4:o.Fold=0<;>by_cases h5:o.Fold<2<;>by_cases h6:o.Fold>100<;>simp[h1,h2,h3,h4,h5,h6]
def movW(p:ag)(m:aH):List aC :=
 [⟨71,1000*(m.Kind-1)⟩,⟨88,m.To.X⟩,⟨89,m.To.Y⟩,⟨90,m.To.Z⟩]++(if m.Kind=3∨m.Kind=4 then [⟨73,IntKind.i64.wrap (m.Center.X-p.X)⟩,⟨74,IntKind.i64.wrap (m.Center.Y-p.Y)⟩]else [])++(if m.Kind=1 then []else [⟨70,m.Rate⟩])
def movB(p:ag)(m:aH):ae×Int :=
 if movV p m≠0 then (⟨false,[],[]⟩,movV p m)else if m.Rate>1000000000000 then (⟨false,[],[]⟩,11)else (⟨false,movW p m,[]⟩,0)
theorem ga{c:Int}(h:-9000000≤n)(h2:n≤9000000):ct c n=some ⟨c,1000*n⟩:=by
 unfold ct ed
 rw[aE (by omega) (by omega)];rfl
variable {m:aH}{p:ag}
theorem po_Move_eq(hp:gx p)(hm:jD m):po_Move p m=some (movB p m):=by
 (unfold po_Move movB;try delta jR jV)
 rw[show jT (ag.mk p.X p.Y p.Z) (aH.mk m.Kind m.To m.Center m.Rate)=jT p m from rfl,qL hp hm,aa]
 by_cases h:movV p m=0
 ·rw[qU (show ¬(movV p m != 0)=true by simp[h]),qU (show ¬movV p m≠0 by simpa using h)]
  by_cases hr:m.Rate>1000000000000
  simp_all
  ·rw[qU (show ¬decide (m.Rate>1000000000000)=true by simp_all),qU hr]
   have w0:ct 71 0=some ⟨71,0⟩:=ga (by omega) (by omega)
   have w1:ct 71 1=some ⟨71,1000⟩:=ga (by omega) (by omega)
   have w2:ct 71 2=some ⟨71,2000⟩:=ga (by omega) (by omega)
   have w3:ct 71 3=some ⟨71,3000⟩:=ga (by omega) (by omega)
   rcases movV_kind h with k | k | k | k<;>simp[movW,k,w0,w1,w2,w3,ed,fZ,br]
 simp_all
def chgB(n:Int):List ae:=[⟨false,[⟨84,1000*n⟩,⟨77,6000⟩],[]⟩,⟨false,[⟨71,43000⟩,⟨72,1000*n⟩],[]⟩]
def chgV(n:Int):List ae×Int:=if n<1∨n>999 then ([],1)else (chgB n,0)
theorem po_Change_eq(n:Int):oO n=some (chgV n):=by
 (unfold oO chgV;try delta jV)
 by_cases h:n<1∨n>999
 simp_all
 ·rw[qU (by simpa using h),qU h]
  simp only[ct,ed,fZ,aa]
  rw[aE (n:=1000*n) (by omega) (by omega)]
  rfl
def ft:ag→List aH→Ex Int (List ae×ag)
 | p,[]=>.go ([],p)
 | p,m::r=>if (movB p m).2=0 then (match ft m.To r with | .ret e=>.ret e | .go v=>.go ((movB p m).1::v.1,v.2))else .ret (movB p m).2
theorem movesV_go:∀(l:List aH) (p:ag) (v:List ae×ag),ft p l=.go v→gx p→(∀m∈l,jD m)→v.1.length=l.length∧gx v.2∧∀b∈v.1,∃q m,m∈l∧(movB q m).2=0∧b=(movB q m).1
 | [],p,v,h,hp,_=>by
  injection h with h;grind
 | m::r,p,v,h,hp,hm=>by
  rw[ft]at h
  by_cases h0:(movB p m).2=0
  ·rw[qV h0]at h
   cases hr:ft m.To r with
   | ret e=>simp_all
   | go u =>
    rw[hr]at h
    injection h with h;subst h
    obtain⟨h1,h2,h3⟩:=movesV_go r m.To u hr (hm m (by simp)).2.1 (λx hx=>hm x (by simp[hx]))
    grind
  simp_all
section
variable {ε : Type}
theorem po_moves(er:Int→ε)(gd:List ae×ag→ε){f:Nat→aH→List ae×ag→Option (Ex ε (List ae×ag))}
  (hf:∀i m acc p,acc.length≤1000000→gx p→jD m→f i m (acc,p)=some (if (movB p m).2=0 then .go (acc++[(movB p m).1],m.To)else .ret (er (movB p m).2))) :
  ∀(l:List aH) (i:Nat) (acc:List ae) (p:ag),acc.length+l.length≤1000000→gx p→(∀m∈l,jD m)→aM f (λv=>some (gd v)) l i (acc,p)=some (match ft p l with | .ret e=>er e | .go v=>gd (acc++v.1,v.2))
 | [],i,acc,p,_,_,_=>by simp[aM,ft]
 | m::r,i,acc,p,hl,hp,hm=>by
  simp only[zD]at hl
  simp only[aM,hf i m acc p (by omega) hp (hm m (by simp)),ft]
  by_cases h0:(movB p m).2=0
  ·simp only[qV h0]
   rw[po_moves er gd hf r (i+1) _ m.To (by simp;omega) (hm m (by simp)).2.1 (λx hx=>hm x (by simp[hx]))]
   grind
  simp_all
end
def okStage(s:bC):Prop:=s.Moves.length≤30∧∀m∈s.Moves,jD m
def eR:ag→List bC→Ex Int (List ae×ag)
  | p,[]=>.go ([],p)
  | p, s :: r => if (chgV s.Tool).2 = 0 then (match ft p s.Moves with
      | .ret e=>.ret e
      | .go v=>(match eR v.2 r with
        | .ret e=>.ret e
        | .go u=>.go ((chgV s.Tool).1++v.1++u.1,u.2)))else .ret (chgV s.Tool).2
theorem stages_loop{ε:Type}(er:Int→ε)(gd:List ae×ag→ε){f:Nat→bC→List ae×ag→Option (Ex ε (List ae×ag))}
  (hf:∀i s acc p,acc.length≤100000→gx p→okStage s→f i s (acc,p)=some (if (chgV s.Tool).2=0 then (match ft p s.Moves with | .ret e=>.ret (er e) | .go v=>.go (acc++(chgV s.Tool).1++v.1,v.2))else .ret (er (chgV s.Tool).2))) :
  ∀(l:List bC) (i:Nat) (acc:List ae) (p:ag),acc.length+32*l.length≤100000→gx p→(∀s∈l,okStage s)→aM f (λv=>some (gd v)) l i (acc,p)=some (match eR p l with | .ret e=>er e | .go v=>gd (acc++v.1,v.2))
 | [],i,acc,p,_,_,_=>by simp[aM,eR]
 | s::r,i,acc,p,hl,hp,hs=>by
  simp only[zD]at hl
  have hs0:=hs s (by simp)
  simp only[aM,hf i s acc p (by omega) hp hs0,eR]
  by_cases h0:(chgV s.Tool).2=0
  ·simp only[qV h0]
   cases hm:ft p s.Moves with
   | ret e=>rfl
   | go v =>
    obtain⟨h1,h2,_⟩:=movesV_go _ _ _ hm hp hs0.2
    have hc:(chgV s.Tool).1.length≤2:=by grind[chgV,chgB]
    simp only
    rw[stages_loop er gd hf r (i+1) _ v.2 (by simp only[zY];have:=hs0.1;omega) h2 (λx hx=>hs x (by simp[hx]))]
    grind
  simp_all
theorem pB:∀(l:List bC) (p:ag) (v:List ae×ag),eR p l=.go v→gx p→(∀s∈l,okStage s)→v.1.length≤32*l.length∧∀b∈v.1,(∃q m,jD m∧(movB q m).2=0∧b=(movB q m).1)∨∃n,(chgV n).2=0∧b∈(chgV n).1
 | [],p,v,h,hp,_=>by
  injection h with h;grind
 | s::r,p,v,h,hp,hs=>by
  have hs0:=hs s (by simp)
  rw[eR]at h
  by_cases h0:(chgV s.Tool).2=0
  ·rw[qV h0]at h
   cases hm:ft p s.Moves with
   | ret e=>simp_all
   | go u =>
    obtain⟨h1,h2,h3⟩:=movesV_go _ _ _ hm hp hs0.2
    rw[hm]at h
    simp only at h
    cases hr:eR u.2 r with
    | ret e=>simp_all
    | go t =>
     rw[hr]at h
     injection h with h;subst h
     obtain⟨g1,g2⟩:=pB r u.2 t hr h2 (λx hx=>hs x (by simp[hx]))
     have hc:(chgV s.Tool).1.length≤2:=by grind[chgV,chgB]
     refine⟨by simp only[zY,zD];have:=hs0.1;omega,λb hb=>?_⟩
     simp only[zM]at hb
     rcases hb with (q | q) | q
     grind
     ·obtain⟨q1,m1,a1,a2,a3⟩:=h3 b q
      exact .inl ⟨q1,m1,hs0.2 m1 a1,a2,a3⟩
     simp_all
  simp_all
def headB(w:Int):List ae:=[⟨false,[⟨71,0⟩,⟨71,90000⟩,⟨71,w⟩,⟨71,49000⟩,⟨71,98000⟩],[]⟩]
def tailB:List ae:=[⟨false,[⟨71,49000⟩],[]⟩,⟨false,[⟨77,30000⟩],[]⟩]
def eW(l:List bC)(p:ag)(w:Int):List ae×Int:=if (farP p.X||farP p.Y||farP p.Z)=true then ([],11)else match eR p l with | .ret e=>([],e) | .go v=>(headB w++v.1++tailB,0)
theorem far_or(n:Int):(decide (n>10000000)||decide (n<(-10000000)))=farP n:=by
 simp_all[farP]
def jS(l:List bC):Prop:=l.length≤4∧∀s∈l,okStage s
theorem po_plain_eq{l:List bC}{o:dP}(hl:jS l)(hp:gx p):po_plain l p o=some (eW l p o.Work):=by
 obtain⟨hl1,hl2⟩:=hl
 (unfold po_plain eW;try delta jB rF jV)
 simp only[far_or]
 have h3:(if farP p.X=true then some (Ex.ret ([],11))else if farP p.Y=true then some (.ret ([],11))else if farP p.Z=true then some (.ret ([],11))else some (.go ()))=(some (if (farP p.X||farP p.Y||farP p.Z)=true then .ret ([],11)else .go ()):Option (Ex (List ae×Int) Unit)):=by
  grind
 rw[h3]
 cases (farP p.X||farP p.Y||farP p.Z)with
 | true=>rfl
 | false =>
  simp only[zA,qW,bindX_g]
  have w0:ct 71 0=some ⟨71,0⟩:=ga (by omega) (by omega)
  have w1:ct 71 90=some ⟨71,90000⟩:=ga (by omega) (by omega)
  have w2:ct 71 49=some ⟨71,49000⟩:=ga (by omega) (by omega)
  have w3:ct 71 98=some ⟨71,98000⟩:=ga (by omega) (by omega)
  have w4:ct 77 30=some ⟨77,30000⟩:=ga (by omega) (by omega)
  simp only[w0,w1,w2,w3,w4,ed,aa,fZ]
  rw[bn (by omega),aX,stages_loop (λe=>Ex.ret (([]:List ae),e)) (λv=>Ex.go (v.1,v.2)) ?_ l 0 _ p (by simp;omega) hp hl2]
  ·cases hs:eR p l with
   | ret e=>rfl
   | go v =>
    have hv:=(pB l p v hs hp hl2).1
    simp only[bindX_g,aa]
    rw[br (by simp;omega),aX]
    rfl
  ·intro i s acc q ha hq hs
   dsimp only
   rw[po_Change_eq,aa]
   by_cases h0:(chgV s.Tool).2=0
   ·have hc:(chgV s.Tool).1.length≤2:=by grind[chgV,chgB]
    rw[h0,qU (by simp),qV rfl,br (by omega),aX,bn (by have:=hs.1;omega),aX]
    rw[po_moves (λe=>Ex.ret (Ex.ret (Ex.ret (([]:List ae),e)))) (λv=>Ex.go (v.1,v.2)) ?_ s.Moves 0 _ q (by simp only[zY];have:=hs.1;omega) hq hs.2]
    ·cases ft q s.Moves<;>simp_all
    ·intro i m acc p ha hp hm
     dsimp only
     rw[po_Move_eq hp hm,aa]
     by_cases h1:(movB p m).2=0
     ·rw[h1,qU (by simp),qV rfl,br (by omega),aX]
     simp_all
   simp_all
def goodB(b:ae):Prop:=jx [] b.Words=true∧(∀w∈b.Words,u8W w)∧b.Words.length≤7
theorem good_chg(h0:(chgV n).2=0)(hb:b∈(chgV n).1):goodB b:=by
 unfold chgV at h0 hb
 split at h0
 ·omega
 ·rename_i hn
  rw[qU hn]at hb
  simp only[chgB,zQ,zK,or_false]at hb
  have h1:Int.tmod (1000*n) 1000=0:=by simp
  have h2:(0:Int)≤1000*n:=by omega
  have h3:grp 43000=4:=by decide
  rcases hb with rfl | rfl
  ·exact⟨by simp_all[jx,clsW,iH],by simp[u8W],by simp⟩
  ·exact⟨by simp_all[jx,clsW,iH],by simp[u8W],by simp⟩
theorem movV_rate(h:movV p m=0)(hk:m.Kind≠1):0≤m.Rate:=by
 grind[movV]
theorem good_mov(h0:(movB p m).2=0):goodB (movB p m).1:=by
 unfold movB at h0 ⊢
 split at h0
 omega
 ·rename_i hv
  split at h0
  ·omega
  ·rename_i hr
   rw[qU hv,qU hr]
   have hv':movV p m=0:=by omega
   have g0:grp 0=1:=by decide
   have g1:grp 1000=1:=by decide
   have g2:grp 2000=1:=by decide
   have g3:grp 3000=1:=by decide
   rcases movV_kind hv' with k | k | k | k
   ·refine⟨?_,?_,?_⟩<;>simp[movW,k,jx,clsW,iH,g0,u8W]
   ·have:=movV_rate hv' (by omega)
    refine⟨?_,?_,?_⟩<;>simp[movW,k,jx,clsW,iH,g1,u8W];omega
   ·have:=movV_rate hv' (by omega)
    refine⟨?_,?_,?_⟩<;>simp[movW,k,jx,clsW,iH,g2,u8W];omega
   ·have:=movV_rate hv' (by omega)
    refine⟨?_,?_,?_⟩<;>simp[movW,k,jx,clsW,iH,g3,u8W];omega
theorem pJ{l:List bC}{p:ag}{w:Int}(hl:jS l)(hp:gx p)(hw:grp w=3):(eW l p w).1.length≤131∧∀b∈(eW l p w).1,goodB b:=by
 unfold eW
 split
 simp_all
 ·cases hs:eR p l with
  | ret e=>simp_all
  | go v =>
   obtain⟨h1,h2⟩:=pB l p v hs hp hl.2
   have:=hl.1
   refine⟨by grind[headB,tailB],λb hb=>?_⟩
   simp only[zM]at hb
   rcases hb with (q | q) | q
   ·simp only[headB,zQ,zK,or_false]at q
    subst q
    have g0:grp 0=1:=by decide
    have g1:grp 90000=2:=by decide
    have g2:grp 49000=4:=by decide
    have g3:grp 98000=5:=by decide
    exact⟨by simp_all[jx,clsW,iH],by simp[u8W],by simp⟩
   grind[good_mov,good_chg]
   ·simp only[tailB,zQ,zK,or_false]at q
    have g2:grp 49000=4:=by decide
    rcases q with rfl | rfl
    ·exact⟨by grind[jx,clsW,iH],by simp[u8W],by simp⟩
    ·exact⟨by simp[jx,clsW,iH],by simp[u8W],by simp⟩
def hasV(b:ae)(c n:Int):Bool:=b.Words.any λw=>(w.Letter==c)&&(w.Value==n)
def letV(b:ae)(c:Int):Bool:=b.Words.any λw=>w.Letter==c
theorem codes_has(l:List aC)(c n:Int):(od l c).any (λk=>n==k)=l.any λw=>(w.Letter==c)&&(w.Value==n):=by
 induction l with
 | nil=>rfl
 | cons w l ih =>
  unfold od at ih ⊢
  grind
theorem codes_let(l:List aC)(c:Int):decide (((od l c).length:Int)>0)=l.any λw=>w.Letter==c:=by
 induction l<;>grind[od]
def fewB(b:ae):Prop:=b.Words.length≤1000
theorem sp_has_eq{c:Int}(hb:fewB b):qf b c n=some (hasV b c n):=by
 unfold fewB at hb
 (unfold qf aW dw hasV;try delta jB rF)
 have hl:=codesV_len b.Words c
 rw[pj b c (by omega),aa,bn (by omega),aX,←codes_has]
 have key:∀(l:List Int) (i:Nat),∃z:Ex Int Unit,aM (λ(i127:Nat) (e129:Int) (v128:Unit)=>if (n==e129)=true then some (.ret (.ret (i127:Int)))else some (.go ())) (λ(v128:Unit)=>some (.go ())) l i ()=some z∧(match z with | .ret k=>0≤k∧l.any (λk=>n==k)=true | .go _=>l.any (λk=>n==k)=false):=by
  intro l
  induction l with
  | nil=>intro i;exact⟨_,rfl,rfl⟩
  | cons x l ih =>
   intro i
   simp only[aM,List.any_cons]
   cases h:(n==x)<;>simp_all
 obtain⟨z,h1,h2⟩:=key (od b.Words c) 0
 grind[bindX_r,aa,bindX_g]
def qE(c n:Int):ae:=⟨false,[⟨c,n⟩],[]⟩
theorem dd_len9:∀(k n:Nat),n<10 ^ (k+1)→(Lib.decDigits n).length≤k+1:=by
 intro k
 induction k with
 | zero =>
  simp_all[Lib.decDigits]
 | succ k ih =>
  grind[Lib.decDigits]
theorem txt_len16(n:Int)(h1:-1000000000000≤n)(h2:n≤1000000000000):(txtV n).length≤16:=by
 unfold txtV txtU
 have hl:=dd_len9 9 (n.natAbs / 1000) (by omega)
 grind[frac,fr3_len]
theorem fmt_len400(b:ae)(h:eU b):(fmtV b).length≤400:=by
  have hjA:∀(l:List (List UInt8)) (c:List (List UInt8)),c.length≤1→(∀x∈l,x.length≤17)→(∀x∈c,x.length≤102)→(jn (l++c)).length≤l.length*18+102:=by
    intro l
    induction l with
    | nil =>
      intro c hc _ h2
      match c,hc,h2 with
      | [],_,_=>simp[jn]
      | [x],_,h2=>simp_all[jn]
    | cons x l ih =>
      intro c hc h1 h2
      have hx:=h1 x (by simp)
      have:=ih c hc (λy hy=>h1 y (by simp[hy])) h2
      rw[zI]
      cases hlc:l++c<;>grind[jn]
  have hc1:(cmT b.Comment).length≤1:=by grind[cmT]
  have:=hjA (b.Words.map wt) (cmT b.Comment) hc1 (λx hx=>by
    obtain⟨w,hw,rfl⟩:=List.mem_map.1 hx
    obtain⟨_,_,h3,h4⟩:=h.2.2.1 w hw
    simp_all[txt_len16,wt]) (λx hx=>parts_len h x (List.mem_append.2 (.inr hx)))
  have hwl:=h.1
  grind[fmtV]
theorem prt_len4:∀l:List ae,(∀b∈l,eU b)→l.length≤(prt l).length∧(prt l).length≤l.length*401
 | [],_=>by simp[prt]
 | b::l,h=>by
  have hp:prt (b::l)=(fmtV b++[10])++prt l:=by simp[prt]
  have ih:=prt_len4 l (λx hx=>h x (by simp[hx]))
  grind[fmt_len400]
theorem prt_snoc4(l:List ae)(i:Nat)(x:ae)(h:l[i]? = some x):prt (l.take (i+1))=(prt (l.take i)++fmtV x)++[10]:=by
 grind[List.take_add_one,prt]
theorem print_ok(l:List ae)(hl:l.length≤10000)(hv:∀b∈l,eU b):pU l=some (prt l,0):=by
 suffices h:Tot (pU l) (λe=>e=(prt l,0)) by
  obtain⟨e,h1,h2⟩:=h
  rw[h1,h2]
 (unfold pU;try delta jB rF)
 refine Tot.bindX (E:=λv:List UInt8=>v=prt l) (TotX.of (Tot.mono (E:=λx=>match x with | .ret e=>e=(prt l,(0:Int)) | .go v=>v=prt l) ?_ (λx h=>by grind))) (λv hv=>.ok (by rw[hv]))
 refine Tot.guard (bn (by omega)) (Tot.range (λi v=>v=prt (l.take i)) _ rfl (λi x v hx hr=>?_) (λv hr=>.ok (by simp_all)))
 have hlt:=aF hx
 have hval:=hv x (List.mem_of_getElem? hx)
 have hfl:=fmt_len400 x hval
 have hpl:=(prt_len4 (l.take i) (λb hb=>hv b (List.mem_of_mem_take hb))).2
 have hil:(l.take i).length≤10000:=by simp;omega
 rw[bk_Format_ok x hval,aa,qU (by simp),hr,br (by grind),aX,br (by grind),aX]
 exact .go (by grind[prt_snoc4])
def fxA{α:Type}(p:α→Bool):List α→Nat→Int
 | [],_=>-1
 | x::l,i=>if p x=true then (i:Int)else fxA p l (i+1)
theorem ix_eq{β:Type}{p:α→Bool}{f:α→Option Bool}(k:Int→Option β)(l:List α)(hl:l.length≤9223372036854775807)(hf:∀x∈l,f x=some (p x)) :
  ac (bindX (aA (dN l) (aM (λ(i:Nat) (e:α) (v:Unit)=>ac (f e) λ(y:Bool)=>if y=true then some (.ret (.ret (i:Int)))else some (.go ())) (λ(v:Unit)=>some (.go ())) l 0 ())) λ(_:Unit)=>some (-1)) k=k (fxA p l 0):=by
 rw[bn hl,aX]
 have key:∀(l:List α) (i:Nat),(∀x∈l,f x=some (p x))→bindX (aM (λ(i:Nat) (e:α) (v:Unit)=>ac (f e) λ(y:Bool)=>if y=true then some (.ret (.ret (i:Int)))else some (.go ())) (λ(v:Unit)=>some (.go ())) l i ()) (λ(_:Unit)=>some (-1))=some (fxA p l i):=by
  intro l
  induction l with
  | nil=>intro i _;rfl
  | cons x l ih =>
   intro i hf
   simp only[aM,hf x (by simp),aa,fxA]
   cases p x<;>simp_all
 simp_all
theorem fxA_none{α:Type}{p:α→Bool}:∀(l:List α) (i:Nat),(∀x∈l,p x=false)→fxA p l i=-1
 | [],_,_=>rfl
 | x::l,i,h=>by rw[fxA,h x (by simp),qU (by simp)];exact fxA_none l (i+1) (λy hy=>h y (by simp[hy]))
theorem fxA_app{α:Type}{p:α→Bool}{x:α}{r:List α}(hx:p x=true):∀(l:List α) (i:Nat),(∀y∈l,p y=false)→fxA p (l++x::r) i=((i+l.length:Nat):Int)
 | [],i,_=>by simp[fxA,hx]
 | y::l,i,h=>by
  rw[zI,fxA,h y (by simp),qU (by simp),fxA_app hx l (i+1) (λz hz=>h z (by simp[hz])),zD]
  omega
def mkV(b:ae):Bool:=letV b 79||(hasV b 77 30000||hasV b 77 99000)
theorem sp_marked_eq(hb:fewB b):mG b=some (mkV b):=by
 grind[fewB,mG,mkV,jR,pj,sp_has_eq,aa,codes_let,letV]
structure EndB (b:ae):Prop where
 few:fewB b
 o:letV b 79=false
 m:hasV b 77 30000=true
 r:hasV b 77 99000=false
structure FreeB (b:ae):Prop where
 few:fewB b
 o:letV b 79=false
 m:hasV b 77 30000=false
 r:hasV b 77 99000=false
theorem FreeB.mk'(h:FreeB b):mkV b=false:=by simp[mkV,h.o,h.m,h.r]
theorem cutT_app{r:List α}:cutT (l++r) (l.length:Int)=some l:=by
 (simp_all[cutT];omega)
theorem cutF_app{r:List α}:cutF (l++r) (l.length:Int)=some r:=by
 (simp_all[cutF];omega)
theorem gt_app{r:List α}{x:α}:gt (l++x::r) (l.length:Int)=some x:=by
 simp_all[gt]
variable {E:ae}{X:List ae}
theorem ordered_nil(hX:∀b∈X,FreeB b)(hE:EndB E)(hl:X.length≤100000):kM ⟨X++[E],[]⟩=some true:=by
 have hw:IntKind.i64.wrap (((X++[E]).length:Int)-1)=(X.length:Int):=by grind[aE]
 have hE':E.Words.length≤1000000:=by have:=hE.few;grind[fewB]
 have hco:decide (((od E.Words 79).length:Int)>0)=false:=by rw[codes_let];exact hE.o
 (unfold kM;try delta jB jR rF iF)
 simp only[hw,qZ (show ¬(X.length:Int)<0 by omega),gt_app,aa,sp_has_eq hE.few,hE.m,hE.r,pj E _ hE',hco,cutT_app,qX,zA,qW]
 rw[ix_eq (p:=mkV) (f:=mG) _ X (by omega) (λb hb=>sp_marked_eq (hX b hb).few),fxA_none _ _ (λb hb=>(hX b hb).mk')]
 simp only[aa,show decide ((-1:Int)≥0)=false from rfl,zA,qW]
 rfl
theorem clone_eq{l:List ae}(h:l.length≤100000):cz l=some l:=by grind[cz,br,aX]
theorem split_c1(h:fewB b):jH b=some (hasV b 77 30000):=by simp_all[jH,sp_has_eq]
theorem loop_ret{σ ρ:Type}{f:σ→Option (Ex ρ σ)}{a:σ}{r:ρ}(h:f a=some (.ret r)):dR f fuel a=some r:=by
 simp_all[fuel,dR]
theorem repeated_nil:jG []=some false:=by
 simp_all[jG,jB,lF,loop_ret]
theorem split_plain(hX:∀b∈X,FreeB b)(hE:EndB E)(hl:X.length≤1000):nv (X++[E])=some (⟨X++[E],[]⟩,0):=by
  (unfold nv;try delta jB rF lF iF)
  rw[ix_eq (p:=λb=>hasV b 77 30000) (f:=jH) _ (X++[E]) (by simp;omega) (λb hb=>by
    rcases List.mem_append.1 hb with hb | hb
    · exact split_c1 (hX b hb).few
    · simp at hb;subst hb;exact split_c1 hE.few),fxA_app (p:=λb=>hasV b 77 30000) hE.m X 0 (λb hb=>(hX b hb).m),Nat.zero_add]
  have hw:IntKind.i64.wrap ((X.length:Int)+1)=((X++[E]).length:Int):=by grind[aE]
  have h1:cutT (X++[E]) ((X++[E]).length:Int)=some (X++[E]):=by have:=cutT_app (l:=X++[E]) (r:=[]);simp_all
  have h2:cutF (X++[E]) ((X++[E]).length:Int)=some []:=by have:=cutF_app (l:=X++[E]) (r:=[]);simp_all
  simp only[qZ (show ¬(X.length:Int)<0 by omega),zA,qW,hw,h1,h2,aa,clone_eq (show (X++[E]).length≤100000 by simp;omega)]
  rw[loop_ret rfl,aa,ordered_nil hX hE (by omega),aa,repeated_nil]
  rfl
variable {M:List ae}
theorem concat1(h:M.length≤1000):bO [M]=some M:=by
 (unfold bO;try delta jB rF)
 have h1:IntKind.i64.wrap (0+(M.length:Int))=(M.length:Int):=by rw[Int.zero_add,aE (by omega) (by omega)]
 rw[bn (by simp),aX]
 simp only[aM,h1,qZ (show ¬((M.length:Int)<0) by omega),zA,qW,aa,aX,qY (show 0≤(M.length:Int)∧(M.length:Int)≤16777216 by omega),List.nil_append,List.length_nil,Nat.zero_add,br (show M.length≤_ by omega)]
theorem take_one{i:Nat}{x:α}(h:l[i]? = some x):l.take (i+1)=l.take i++[x]:=by grind[List.take_add_one]
theorem mmI_min(a b:Int):mmI false a b=min a b:=by grind[mmI]
theorem proper_nil(hX:∀b∈X,FreeB b)(hE:EndB E)(hl:X.length≤100000):mF ⟨X++[E],[]⟩=some true:=by
 (unfold mF;try delta jB jR rF jV)
 rw[show dN ([]:List dg)=true from rfl,aX]
 simp_all[aM,ordered_nil,repeated_nil]
theorem expand_plain(hp:mF ⟨M,[]⟩=some true)(hC:∀b∈M,ov b=some (0,0,false,0))(hl:M.length≤1000)(hw:∀b∈M,fewB b):ka ⟨M,[]⟩=some (M,0):=by
 suffices h:Tot (ka ⟨M,[]⟩) (λe=>e=(M,0)) by
  obtain⟨e,h1,h2⟩:=h
  rw[h1,h2]
 (unfold ka;try delta jB rF lF gF iF)
 refine Tot.bind (E:=λ_=>True) (Tot.bind (E:=λ_=>True) ?_ (λ_ _=>?_)) (λ_ _=>?_)
 ·rw[hp,aa]
  simp only[Bool.not_true,zA,qW]
  rw[loop_ret rfl,aa,concat1 hl,aa]
  refine Tot.bindX (E:=λ_=>True) (TotX.guard (bn (by omega)) (TotX.of (Tot.range (λ_ _=>True) _ trivial (λi b v hb _=>?_) (λv _=>.ok trivial)))) (λv _=>?_)
  grind[aa,TotX.go]
  ·rw[aa,aa];exact .ok trivial
 ·refine Tot.bind (E:=λv=>v≤10000) (Tot.bind (E:=λv=>v≤10000) (Tot.guard (bn (by grind)) (Tot.range (λi v=>v=(i:Int)) _ rfl (λi b v hb hv=>?_) (λv hv=>.ok (by grind)))) (λv hv=>.ok hv)) (λv hv=>?_)
  grind[aa,TotX.go,mmI_min,aE]
  ·rw[qU (by simp;omega)];exact .ok trivial
 ·refine Tot.bind (E:=λv=>v=M) (Tot.bind (E:=λv=>v=M) (Tot.guard (bn (by grind)) (Tot.range (λi v=>v=M.take i) _ rfl (λi b v hb hv=>?_) (λv hv=>.ok (by simp_all)))) (λv hv=>.ok hv)) (λv hv=>?_)
  ·subst hv
   have hi:i<M.length:=aF hb
   rw[hC b (List.mem_of_getElem? hb),aa]
   simp only[zX,qX]
   rw[br (by simp;omega),aX,aa,take_one hb]
   exact TotX.go rfl
  ·rw[hv]
   refine Tot.bind (E:=λu=>u=M) (Tot.guard (bn (by omega)) (Tot.range (λi u=>u=M.take i) _ rfl (λi b u hb hu=>?_) (λu hu=>.ok (by simp_all)))) (λu hu=>.ok (by rw[hu]))
   subst hu
   have hi:=aF hb
   have hbf:=hw b (List.mem_of_getElem? hb)
   unfold fewB at hbf
   unfold eF
   rw[br (by omega),aX,aa,br (by simp;omega),aX,take_one hb]
   exact TotX.go rfl
def StdB(b:ae):Prop:=b.Words.length≤7∧∀w∈b.Words,w.Letter≠78∧w.Letter≠79∧(w.Letter=77→w.Value=6000)
def p7:ae:=qE 77 30000
theorem any_not{l:List aC}{q:aC→Bool}(h:∀w∈l,q w=false):l.any q=false:=by
 simp_all
theorem StdB.has(h:StdB b)(hn:n≠6000):hasV b 77 n=false:=any_not λw hw=>by
 by_cases e:w.Letter=77
 ·have:=(h.2 w hw).2.2 e
  grind
 ·simp[e]
theorem StdB.let(h:StdB b):letV b 79=false∧letV b 78=false:=⟨any_not λw hw=>by simp[(h.2 w hw).2.1],any_not λw hw=>by simp[(h.2 w hw).1]⟩
theorem moves_ret:∀(l:List aH) (p:ag) (e:Int),ft p l=.ret e→e≠0
 | [],p,e,h=>by cases h
 | m::r,p,e,h=>by
  rw[ft]at h
  split at h
  ·cases hm:ft m.To r with
   | ret e'=>rw[hm]at h;simp only at h;injection h with h;subst h;exact moves_ret r _ _ hm
   | go v=>simp_all
  simp_all
theorem pA:∀(l:List bC) (p:ag) (e:Int),eR p l=.ret e→e≠0
 | [],p,e,h=>by cases h
 | s::r,p,e,h=>by
  rw[eR]at h
  split at h
  ·cases hm:ft p s.Moves with
   | ret e'=>grind[moves_ret]
   | go v =>
    rw[hm]at h
    simp only at h
    cases hr:eR v.2 r with
    | ret e'=>rw[hr]at h;simp only at h;injection h with h;subst h;exact pA r _ _ hr
    | go u=>simp_all
  simp_all
theorem std_plain{l:List bC}{w:Int}(hl:jS l)(hp:gx p)(hg:grp w=3)(h0:(eW l p w).2=0):∃X,(eW l p w).1=X++[p7]∧∀b∈X,StdB b:=by
 obtain⟨_,hgood⟩:=pJ hl hp hg
 revert hgood
 unfold eW at h0 ⊢
 split at h0
 ·simp at h0
 ·rename_i hc
  rw[qU hc]
  cases hs:eR p l with
  | ret e =>
   grind[pA]
  | go v =>
   intro hgood
   obtain⟨h1,h2⟩:=pB l p v hs hp hl.2
   refine⟨headB w++v.1++[⟨false,[⟨71,49000⟩],[]⟩],by simp[tailB,p7,qE],λb hb=>?_⟩
   have hlen:b.Words.length≤7:=(hgood b (by simp only[zM,tailB,zQ,zK,or_false]at hb ⊢;grind)).2.2
   refine⟨hlen,?_⟩
   simp only[zM]at hb
   rcases hb with (q | q) | q
   simp_all[headB]
   ·rcases h2 b q with⟨q1,m1,_,a2,rfl⟩|⟨n,a1,a2⟩
    ·intro x hx
     unfold movB at hx
     split at hx
     ·simp at hx
     ·split at hx
      ·simp at hx
      ·unfold movW at hx
       simp only[zM]at hx
       rcases hx with (hx | hx) | hx<;>grind
    ·unfold chgV at a1 a2
     split at a1
     ·omega
     ·rename_i hn
      rw[qU hn]at a2
      simp only[chgB,zQ,zK,or_false]at a2
      grind
   simp_all
theorem StdB.free(h:StdB b):FreeB b:=⟨by have:=h.1;grind[fewB],h.let.1,h.has (by omega),h.has (by omega)⟩
theorem end_end:EndB p7:=⟨by simp[fewB,p7,qE],rfl,rfl,rfl⟩
theorem call_no(hf:fewB b)(h:hasV b 77 98000=false):ov b=some (0,0,false,0):=by
 simp_all[ov,sp_has_eq]
theorem roundP(hX:∀b∈X,StdB b)(hl:X.length≤130):∃p,nv (X++[p7])=some (p,0)∧ka p=some (X++[p7],0):=by
 have hf:∀b∈X,FreeB b:=λb hb=>(hX b hb).free
 have hfew:∀b∈X++[p7],fewB b:=λb hb=>by
  rcases List.mem_append.1 hb with hb | hb
  ·exact (hf b hb).few
  ·simp at hb;subst hb;exact end_end.few
 refine⟨_,split_plain hf end_end (by omega),expand_plain (proper_nil hf end_end (by omega)) (λb hb=>call_no (hfew b hb) ?_) (by simp;omega) hfew⟩
 rcases List.mem_append.1 hb with hb | hb
 ·exact (hX b hb).has (by omega)
 ·simp at hb;subst hb;rfl
theorem li{l:List bC}(hl:jS l)(hp:gx p):oP l p ⟨55000,false,0,0⟩=some (if (eW l p 55000).2=0 then eW l p 55000 else ([],(eW l p 55000).2)):=by
 have g:=(pJ hl hp (w:=55000) (by decide)).1
 unfold oP
 rw[po_Valid_eq,aa,show optV 55000 0 0=0 by decide,qU (by decide),po_plain_eq hl hp,aa]
 grind
end Go.Proofs.YtphbhdoljnokkaaGreatDoor
