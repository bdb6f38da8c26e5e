/-
  Lm, Lq, Li, Ia, Ib, Ic, Id, Ie, If, Ig, Ih, Ij, Ik in one text.
-/
import Derived.Test.YtphbhdoljnokkaaGreatDoorPz
import Derived.Test.YtphbhdoljnokkaaGreatDoorMI
import Derived.Test.YtphbhdoljnokkaaGreatDoorMQ
import Derived.Test.YtphbhdoljnokkaaGreatDoorMR
open Int renaming mul_le_mul_of_nonneg_right → zA,mul_le_mul_of_nonneg_left → zB,toNat_natCast → zD,natAbs_natCast → zF,le_of_lt → zG,ediv_emod_unique → zI,mul_nonneg → zK,gcd → zM,emod_lt_of_pos → zO,emod_add_mul_ediv → zQ,lt_or_le → zT,ediv_nonneg → zU,lt_of_lt_of_le → zV,emod_nonneg → zY,toNat → zZ
open Nat renaming le_refl → zE,le_trans → zH,mul_le_mul → zL,lt_or_ge → zW
open Bool renaming false_eq_true → zJ,not_true → zX
open List renaming drop_drop → zR
namespace Go.Proofs.YtphbhdoljnokkaaGreatDoor
open Go.RowKit
def val:List Int→Int
 | []=>0
 | x::l=>x+1000000000*val l
def okL(l:List Int):Prop:=∀x∈l,0≤x∧x<1000000000
def pw:Nat→Int
 | 0=>1
 | n+1=>1000000000*pw n
theorem kv:∀n,0<pw n
 | 0=>by simp[pw]
 | n+1=>by have:=kv n;grind[pw]
theorem fc(n:Nat):pw (n+1)=1000000000*pw n:=rfl
theorem pw_add(a:Nat):∀b,pw (a+b)=pw a*pw b
 | 0=>by simp[pw]
 | b+1=>by rw[←Nat.add_assoc,fc,fc,pw_add a b,Int.mul_left_comm]
theorem oJ{a b:Nat}(h:a≤b):pw a≤pw b:=by
 induction b with
 | zero=>simp_all
 | succ b ih =>
  rcases Nat.eq_or_lt_of_le h with e | e
  simp_all
  ·have:=ih (by omega);have:=kv b;grind[fc]
theorem ir(x:Int)(l:List Int):val (x::l)=x+1000000000*val l:=rfl
theorem iI:∀(a b:List Int),val (a++b)=val a+pw a.length*val b
 | [],b=>by simp[val,pw]
 | x::a,b=>by
  rw[List.cons_append,ir,ir,iI a b,List.length_cons,fc]
  grind
theorem jc:okL []:=λx h=>by simp at h
variable {l:List Int}{x:Int}
theorem fe:okL (x::l)↔(0≤x∧x<1000000000)∧okL l:=by
 unfold okL;simp
theorem mL{a b:List Int}:okL (a++b)↔okL a∧okL b:=by
 grind[okL]
variable {i:Nat}
theorem lj(h:okL l)(hx:l[i]? = some x):0≤x∧x<1000000000:=h x (List.mem_of_getElem? hx)
variable {y:Int}
theorem ko(h:okL l)(h0:0≤y)(h1:y<1000000000):okL (l.set i y):=by
 intro x hx
 rcases List.mem_or_eq_of_mem_set hx with q | q
 ·exact h x q
 omega
theorem g9(n:Nat)(h:okL l):okL (l.take n):=λx hx=>h x (List.mem_of_mem_take hx)
theorem kA(n:Nat)(h:okL l):okL (l.drop n):=λx hx=>h x (List.mem_of_mem_drop hx)
theorem oS(n:Nat):okL (List.replicate n 0):=λx hx=>by simp_all
theorem val_rep:∀n,val (List.replicate n 0)=0
 | 0=>rfl
 | n+1=>by rw[List.replicate_succ,ir,val_rep n];rfl
theorem bh:∀{l:List Int},okL l→0≤val l∧val l<pw l.length
 | [],_=>by simp[val,pw]
 | x::l,h=>by
  obtain⟨h1,h2⟩:=fe.1 h
  have:=bh h2
  grind[ir,fc]
theorem dK(l:List Int)(n:Nat)(h:n≤l.length):val l=val (l.take n)+pw n*val (l.drop n):=by
 grind[iI,List.take_append_drop]
theorem fh(h:l[i]? = some x):val (l.take (i+1))=val (l.take i)+x*pw i:=by
 grind[List.take_add_one,iI,val]
theorem jX(h:l[i]? = some x):val (l.drop i)=x+1000000000*val (l.drop (i+1)):=by
 grind[List.drop_eq_getElem_cons,ir]
def trm:List Int→List Int
 | []=>[]
 | x::l=>if x=0∧trm l=[]then []else x::trm l
theorem mj:∀l,val (trm l)=val l
 | []=>rfl
 | x::l=>by
  unfold trm
  split
  ·rename_i h
   rw[ir,←mj l,h.2,h.1];rfl
  ·rw[ir,ir,mj l]
theorem oQ:∀{l:List Int},okL l→okL (trm l)
 | [],_=>jc
 | x::l,h=>by
  obtain⟨h1,h2⟩:=fe.1 h
  unfold trm
  split
  ·exact jc
  ·exact fe.2 ⟨h1,oQ h2⟩
theorem trm_trm:∀l,trm (trm l)=trm l
 | []=>rfl
 | x::l=>by
  by_cases h:x=0∧trm l=[]
  simp_all[trm]
  ·have:trm (x::l)=x::trm l:=by simp_all[trm]
   rw[this]
   rw[trm,trm_trm l,qU h]
theorem trm_le:∀l:List Int,(trm l).length≤l.length
 | []=>zE _
 | x::l=>by
  unfold trm
  have:=trm_le l
  grind
theorem trm_tail(h:trm (x::l)=x::l):trm l=l:=by
 grind[trm]
theorem trm_zero:∀{l:List Int},okL l→val l=0→trm l=[]
 | [],_,_=>rfl
 | x::l,h,hv=>by
  obtain⟨h1,h2⟩:=fe.1 h
  have hb:=bh h2
  rw[ir]at hv
  rw[trm,qV ⟨by omega,trm_zero h2 (by omega)⟩]
theorem val_inj:∀{a b:List Int},okL a→okL b→trm a=a→trm b=b→val a=val b→a=b
 | [],b,_,hb,_,tb,h=>by rw[←tb,trm_zero hb (by rw[←h];rfl)]
 | x::a,[],ha,_,ta,_,h=>by
  have:=trm_zero ha (by rw[h];rfl)
  simp_all
 | x::a,y::b,ha,hb,ta,tb,h=>by
  obtain⟨h1,h2⟩:=fe.1 ha
  obtain⟨h3,h4⟩:=fe.1 hb
  rw[ir,ir]at h
  have hx:x=y:=by omega
  rw[hx,val_inj h2 h4 (trm_tail ta) (trm_tail tb) (by omega)]
theorem trm_last:∀{l:List Int} {x:Int},l.getLast? = some x→x≠0→trm l=l
 | [],x,h,_=>by simp at h
 | [y],x,h,h0=>by
  simp_all[trm]
 | y::z::l,x,h,h0=>by
  rw[List.getLast?_cons_cons]at h
  have:=trm_last h h0
  simp_all[trm]
theorem trm_snoc0:∀(l:List Int),trm (l++[0])=trm l
 | []=>by simp[trm]
 | x::l=>by rw[List.cons_append,trm,trm,trm_snoc0 l]
theorem last_trm:∀{l:List Int} {x:Int},trm l=l→l.getLast? = some x→x≠0
 | [],x,_,h=>by simp at h
 | [y],x,t,h=>by
  simp_all[trm]
 | y::z::l,x,t,h=>by
  rw[List.getLast?_cons_cons]at h
  exact last_trm (trm_tail t) h
variable {n:Nat}
theorem pw_le_val(ho:okL l)(ht:trm l=l)(hn:l.length=n+1):pw n≤val l:=by
 have hl:l[n]? = some l[n]:=List.getElem?_eq_getElem (by omega)
 have hx:l.getLast? = some l[n]:=by
  grind
 have h0:=last_trm ht hx
 have hb:=lj ho hl
 have h1:=dK l n (by omega)
 have h2:=(bh (g9 n ho)).1
 have h3:=(bh (kA (n+1) ho)).1
 rw[jX hl]at h1
 have h4:pw n*1≤pw n*(l[n]+1000000000*val (l.drop (n+1))):=zB (by omega) (zG (kv n))
 omega
theorem ni{a b:List Int}(ha:okL a)(hb:okL b)(tb:trm b=b)(h:a.length<b.length):val a<val b:=by
 have h1:=bh ha
 have h2:=pw_le_val (n:=b.length-1) hb tb (by omega)
 have h3:=oJ (a:=a.length) (b:=b.length-1) (by omega)
 omega
theorem len_le_of_val{a:List Int}(ha:okL a)(ta:trm a=a)(h:val a<pw n):a.length≤n:=by
 rcases zW n a.length with q | q
 ·have h2:=pw_le_val (n:=a.length-1) ha ta (by omega)
  have h3:=oJ (a:=n) (b:=a.length-1) (by omega)
  omega
 ·exact q
theorem val_cmp_at{a b:List Int}(ha:okL a)(hb:okL b)(hx:a[i]? = some x)(hy:b[i]? = some y)(he:a.drop (i+1)=b.drop (i+1))(h:x<y):val a<val b:=by
 have la:=aF hx;have lb:=aF hy
 rw[dK a i (by omega),dK b i (by omega),jX hx,jX hy,he]
 have h1:=bh (g9 i ha)
 have h2:=bh (g9 i hb)
 rw[List.length_take,Nat.min_eq_left (by omega)]at h1 h2
 have h3:pw i*(x+1+1000000000*val (b.drop (i+1)))≤pw i*(y+1000000000*val (b.drop (i+1))):=zB (by omega) (zG (kv i))
 grind
def toLF:Nat→Nat→List Int
 | 0,_=>[]
 | f+1,n=>if n=0 then []else ((n % 1000000000:Nat):Int)::toLF f (n / 1000000000)
def toL(n:Nat):List Int:=toLF n n
theorem toLF_ok:∀(f n:Nat),n≤f→okL (toLF f n)∧val (toLF f n)=(n:Int)∧trm (toLF f n)=toLF f n
 | 0,n,h=>by
  rw[show n=0 by omega]
  exact⟨jc,rfl,rfl⟩
 | f+1,n,h=>by
  unfold toLF
  split
  ·rename_i q
   subst q
   exact⟨jc,rfl,rfl⟩
  ·rename_i q
   obtain⟨h1,h2,h3⟩:=toLF_ok f (n / 1000000000) (by omega)
   refine⟨fe.2 ⟨by omega,h1⟩,?_,?_⟩
   grind[ir]
   ·rw[trm,h3,qU]
    grind[val]
theorem toL_ok(n:Nat):okL (toL n):=(toLF_ok n n (zE _)).1
theorem toL_val(n:Nat):val (toL n)=(n:Int):=(toLF_ok n n (zE _)).2.1
theorem toL_trm(n:Nat):trm (toL n)=toL n:=(toLF_ok n n (zE _)).2.2
theorem toL_of(h:okL l)(ht:trm l=l):l=toL (val l).toNat:=by
 refine val_inj h (toL_ok _) ht (toL_trm _) ?_
 rw[toL_val]
 have:=(bh h).1
 omega
theorem trm_toL(h:okL l):trm l=toL (val l).toNat:=by
 grind[toL_of,oQ,trm_trm,mj]
theorem toL_zero:toL 0=[]:=rfl
theorem toL_nil:toL n=[]↔n=0:=by
 constructor
 grind[toL_val,val]
 ·rintro rfl;rfl
variable {k:Nat}
theorem toL_len(h:(n:Int)<pw k):(toL n).length≤k:=len_le_of_val (toL_ok n) (toL_trm n) (by grind[toL_val])
variable {P1 P2 U V W Y g r u0 u1 u2 v1 v2:Int}
theorem digit_hi(hP:P1=1000000000*P2)(hU:U=u0*(1000000000*P1)+u1*P1+u2*P2+Y)(hV:V=v1*P1+v2*P2+W)(hY:Y<P2)(hW:0≤W)(hP2:0<P2)
  (hg:0≤g) (hgr:g*v1+r=u0*1000000000+u1) (hUV:U<1000000000*V) (hV0:0<V) (hc:g≥1000000000∨g*v2>r*1000000000+u2):U<g*V:=by
 rcases hc with h | h
 ·have:1000000000*V≤g*V:=zA h (zG hV0)
  omega
 ·have h1:(r*1000000000+u2+1)*P2≤(g*v2)*P2:=zA (by omega) (zG hP2)
  have h2:0≤g*W:=zK hg hW
  have h3:g*V=(g*v1)*P1+(g*v2)*P2+g*W:=by grind
  have h4:(g*v1)*P1=(u0*1000000000+u1)*P1-r*P1:=by grind
  have h5:(r*1000000000+u2+1)*P2=r*P1+u2*P2+P2:=by grind
  grind
theorem digit_lo(hP:P1=1000000000*P2)(hU:U=u0*(1000000000*P1)+u1*P1+u2*P2+Y)(hV:V=v1*P1+v2*P2+W)(hY:0≤Y)(hW:0≤W)(hW2:W<P2)
  (hg:0≤g) (hgr:g*v1+r=u0*1000000000+u1) (hP2:0<P2) (hv1:1≤v1) (hv2:0≤v2) (hB:g<1000000000) (hc:g*v2≤r*1000000000+u2):g*V<U+V:=by
 have h1:(g*v2)*P2≤(r*1000000000+u2)*P2:=zA hc (zG hP2)
 have h2:g*W≤999999999*W:=zA (by omega) hW
 have h3:g*V=(g*v1)*P1+(g*v2)*P2+g*W:=by grind
 have h4:(g*v1)*P1=(u0*1000000000+u1)*P1-r*P1:=by grind
 have h5:(r*1000000000+u2)*P2=r*P1+u2*P2:=by grind
 have h6:(u0*1000000000+u1)*P1=u0*(1000000000*P1)+u1*P1:=by grind
 have h7:1*P1≤v1*P1:=zA hv1 (by omega)
 have h8:0≤v2*P2:=zK hv2 (zG hP2)
 omega
def isq:Nat→Nat
 | 0=>0
 | n+1=>if (isq n+1)*(isq n+1)≤n+1 then isq n+1 else isq n
theorem isq_ok:∀n,isq n*isq n≤n∧n<(isq n+1)*(isq n+1)
 | 0=>by simp[isq]
 | n+1=>by
  obtain⟨h1,h2⟩:=isq_ok n
  unfold isq
  split<;>grind
theorem sq_lt{a b:Nat}(h:a*a<b*b):a<b:=by
 grind[zW,zL]
theorem le_isq:k≤isq n↔k*k≤n:=by
 obtain⟨h3,h4⟩:=isq_ok n
 grind[zH,zL,sq_lt]
theorem newton_ge{a x:Nat}(hx:0<x):isq a≤(x+a / x) / 2:=by
 obtain⟨h3,_⟩:=isq_ok a
 generalize isq a=s at *
 -- 2 s ≤ x + a / x
 rcases zW (x+a / x) (2*s)with q | q
 ·exfalso
  have hd:=Nat.div_add_mod a x
  have hm:=Nat.mod_lt a hx
  generalize a / x=d at *
  have h1:a<x*(d+1):=by grind
  have h2:d+1≤2*s-x:=by omega
  have h4:x*(d+1)≤x*(2*s-x):=zL (zE _) h2
  have h5:x*(2*s-x)≤s*s:=by
   obtain⟨e,he⟩:∃e,2*s=x+e:=⟨2*s-x,by omega⟩
   rw[he,Nat.add_sub_cancel_left]
   have h6:4*(x*e)≤4*(s*s):=by
    have:4*(s*s)=(2*s)*(2*s):=by grind
    rw[this,he]
    rcases Nat.le_total x e with z | z
    ·obtain⟨k,rfl⟩:=Nat.exists_eq_add_of_le z
     grind
    ·obtain⟨k,rfl⟩:=Nat.exists_eq_add_of_le z
     grind
   omega
  omega
 ·omega
theorem newton_lt{a x:Nat}(hx:isq a<x):a / x≤isq a:=by
 obtain⟨_,h4⟩:=isq_ok a
 generalize isq a=s at *
 apply Nat.le_of_lt_succ
 apply (Nat.div_lt_iff_lt_mul (by omega)).2
 have:(s+1)*(s+1)≤(s+1)*x:=zL (zE _) hx
 grind
theorem newton_stop{a x:Nat}(h:isq a≤x)(hs:x≤(x+a / x) / 2):x=isq a:=by
 rcases Nat.eq_or_lt_of_le h with q | q
 omega
 ·have:=newton_lt q
  omega
theorem newton_half{a x:Nat}(h:isq a≤x)(hs:(x+a / x) / 2<x):2*((x+a / x) / 2-isq a)≤x-isq a∧isq a<x:=by
 have q:isq a<x:=by
  rcases Nat.eq_or_lt_of_le h with q | q
  ·exfalso
   obtain⟨h3,_⟩:=isq_ok a
   rw[q]at h3
   rcases Nat.eq_zero_or_pos x with z | z
   simp_all
   ·have:=(Nat.le_div_iff_mul_le z).2 h3
    omega
  ·exact q
 have:=newton_lt q
 omega
theorem euclid_half{x y:Nat}(h:y≤x)(hy:0<y):2*(y*(x % y))≤x*y:=by
 have h1:=Nat.mod_lt x hy
 have h2:2*(x % y)≤x:=by
  have:=Nat.div_add_mod x y
  have h3:1≤x / y:=(Nat.le_div_iff_mul_le hy).2 (by omega)
  have h4:y*1≤y*(x / y):=zL (zE _) h3
  omega
 calc 2*(y*(x % y))=(2*(x % y))*y:=by grind
  _≤x*y:=zL h2 (zE _)
theorem den_pos(a:Rat):0<(a.den:Int):=by have:=a.den_pos;omega
variable {d:Int}
theorem mi{n:Int}(h:0<d):(Rat.divInt n d).num=n / (zM n d:Int)∧((Rat.divInt n d).den:Int)=d / (zM n d:Int):=by
 constructor
 simp_all[Rat.num_divInt,Int.sign_eq_one_of_pos,Int.gcd_comm]
 ·rw[Rat.den_divInt,qU (by omega),Int.gcd_comm,Int.natCast_ediv,Int.natAbs_of_nonneg (by omega)]
theorem qQ(n d:Int):Rat.divInt (-n) (-d)=Rat.divInt n d:=Rat.neg_divInt_neg n d
theorem mkRat_divInt(n:Int)(d:Nat):mkRat n d=Rat.divInt n (d:Int):=(Rat.divInt_ofNat n d).symm
theorem pW(a b:Rat):Rat.divInt (a.num*b.den+b.num*a.den) ((a.den:Int)*b.den)=a+b:=by
 simp_all[Rat.add_def',mkRat_divInt]
theorem add_same{a b:Rat}(h:a.den=b.den):Rat.divInt (a.num+b.num) (a.den:Int)=a+b:=by
 rw[←pW,←h,←Int.add_mul,Rat.divInt_mul_right (by have:=den_pos a;omega)]
theorem mul_divInt(a b:Rat):Rat.divInt (a.num*b.num) ((a.den:Int)*b.den)=a*b:=by
 simp_all[Rat.mul_def',mkRat_divInt]
theorem div_divInt(a b:Rat):Rat.divInt (a.num*b.den) ((a.den:Int)*b.num)=a / b:=by
 grind[Rat.inv_def,Rat.divInt_mul_divInt,Rat.num_divInt_den]
theorem rat_of{n:Int}(h:0<d)(hg:zM n d=1):∃q:Rat,q.num=n∧(q.den:Int)=d:=by
 refine⟨Rat.divInt n d,?_⟩
 simp_all[mi]
theorem rat_lt{a b:Rat}:a<b↔a.num*b.den<b.num*a.den:=Rat.lt_iff a b
theorem qO{n:Int}(h:d≠0):0<(zM n d:Int):=by
 simp_all
set_option linter.unusedVariables false
set_option linter.unusedSimpArgs false
def ofI(z:Int):am:=⟨decide (z<0),toL z.natAbs⟩
theorem signed_eq{neg:Bool}(h:okL l):(⟨neg&&decide (trm l≠[]),trm l⟩:am)=ofI (if neg=true then -val l else val l):=by
 have hb:=(bh h).1
 rcases (show 0=val l∨0<val l by omega)with q | q
 ·rw[trm_zero h q.symm,←q]
  cases neg<;>rfl
 ·have h0:trm l≠[]:=λz=>by
   grind[mj,val]
  rw[qY h0,Bool.and_true,trm_toL h]
  unfold ofI
  grind
variable {z:Int}
theorem ofI_len(h:(z.natAbs:Int)<pw n):(ofI z).Limbs.length≤n:=toL_len h
theorem ofI_nil:(ofI z).Limbs=[]↔z=0:=by
 show toL z.natAbs=[]↔_
 grind[toL_nil]
theorem bM(z:Int):val (ofI z).Limbs=(z.natAbs:Int):=toL_val _
theorem cu(z:Int):okL (ofI z).Limbs:=toL_ok _
theorem ofI_trm(z:Int):trm (ofI z).Limbs=(ofI z).Limbs:=toL_trm _
theorem aE{n:Int}(h:-9223372036854775808≤n)(h2:n≤9223372036854775807):IntKind.i64.wrap n=n:=IntWalk.i64_in _ ⟨h,by omega⟩
variable {α:Type}
theorem gt_k{l:List α}{x:α}(h:l[k]? = some x):gt l (k:Int)=some x:=by
 unfold gt
 simp_all
theorem cutT_k{l:List α}(h:n≤l.length):cutT l (n:Int)=some (l.take n):=by
 simp_all[cutT]
theorem take_last(h:l[n]? = some x):l.take (n+1)=l.take n++[x]:=by
 grind[List.take_add_one]
theorem trm_take0(h:l[n]? = some 0):trm (l.take (n+1))=trm (l.take n):=by
 rw[take_last h,trm_snoc0]
theorem trm_takeN(h:l[n]? = some x)(h0:x≠0):trm (l.take (n+1))=l.take (n+1):=by
 simp_all[trm_last,take_last]
theorem kR(l:List Int)(hl:l.length≤1000000):lr l=some (trm l):=by
 have key:Tot (lr l) (λe=>e=trm l):=by
  (unfold lr;try delta jB jR lF)
  refine Tot.bind (E:=λe=>e=trm l) (Tot.loop (λm (v:List Int)=>v=l.take m∧m≤l.length∧trm v=trm l) _ l.length (gy (by omega)) ⟨by simp,by omega,rfl⟩ (λm v hv=>?_)) (λv hv=>.ok hv)
  obtain⟨rfl,h1,h2⟩:=hv
  have hlen:(l.take m).length=m:=by simp;omega
  rw[hlen]
  cases m with
  | zero =>
   refine TotX.bind (E:=λb=>b=false) (Tot.ite (λq=>by simp at q) (λ_=>.ok rfl)) (λb hb=>?_)
   subst hb
   refine TotX.ite (λq=>by cases q) (λ_=>.ret ?_)
   simp_all[trm]
  | succ m =>
   have hx:l[m]? = some l[m]:=List.getElem?_eq_getElem (by omega)
   generalize l[m]=x at hx
   have hx2:(l.take (m+1))[m]? = some x:=by grind
   rw[aE (by omega) (by omega),show ((m+1:Nat):Int)-1=(m:Int) by omega,gt_k hx2,aa]
   refine TotX.bind (E:=λb=>b=(x==0)) (Tot.ite (λ_=>.ok rfl) (λq=>absurd q (by simp))) (λb hb=>?_)
   subst hb
   refine TotX.ite (λq=>?_) (λq=>.ret ?_)
   ·have:x=0:=by simpa using q
    subst this
    rw[cutT_k (by omega),aa]
    refine .go ⟨m,by omega,by grind,by omega,?_⟩
    simp_all[List.take_take,trm_take0]
   simp_all[trm_takeN]
 obtain⟨e,he,rfl⟩:=key
 exact he
theorem dV(neg:Bool)(l:List Int)(hl:l.length≤1000000)(ho:okL l):dz neg l=some (ofI (if neg=true then -val l else val l)):=by
 have key:Tot (dz neg l) (λe=>e=⟨neg&&decide (trm l≠[]),trm l⟩):=by
  (unfold dz;try delta jB jR lF)
  refine Tot.bind (E:=λv=>∃n:Nat,v=(n:Int)∧n≤l.length∧l.take n=trm l) (Tot.loop (λm (v:Int)=>v=(m:Int)∧m≤l.length∧trm (l.take m)=trm l) _ l.length (gy (by omega)) ⟨rfl,by omega,by simp⟩ (λm v hv=>?_)) (λv hv=>?_)
  ·obtain⟨rfl,h1,h2⟩:=hv
   cases m with
   | zero =>
    refine TotX.bind (E:=λb=>b=false) (Tot.ite (λq=>by simp at q) (λ_=>.ok rfl)) (λb hb=>?_)
    subst hb
    refine TotX.ite (λq=>by cases q) (λ_=>.ret ⟨0,rfl,by omega,?_⟩)
    simp_all[trm]
   | succ m =>
    have hx:l[m]? = some l[m]:=List.getElem?_eq_getElem (by omega)
    generalize l[m]=x at hx
    rw[aE (by omega) (by omega),show ((m+1:Nat):Int)-1=(m:Int) by omega,gt_k hx,aa]
    refine TotX.bind (E:=λb=>b=(x==0)) (Tot.ite (λ_=>.ok rfl) (λq=>absurd q (by simp))) (λb hb=>?_)
    subst hb
    refine TotX.ite (λq=>?_) (λq=>.ret ⟨m+1,rfl,h1,?_⟩)
    ·have:x=0:=by simpa using q
     subst this
     exact .go ⟨m,by omega,rfl,by omega,by simp_all[trm_take0]⟩
    simp_all[trm_takeN]
  ·obtain⟨n,rfl,h1,h2⟩:=hv
   have hd:decide ((n:Int)>0)=decide (trm l≠[]):=by
    apply decide_eq_decide.2
    rw[←h2]
    constructor
    ·intro q z
     have:=congrArg List.length z
     simp_all
    ·intro q
     rcases Nat.eq_zero_or_pos n with z | z<;>simp_all
   rw[cutT_k h1,h2]
   cases neg with
   | true=>simp only[qX,aa,hd,Bool.true_and];exact .ok rfl
   | false=>simp only[zJ,qW,aa,Bool.false_and];exact .ok rfl
 obtain⟨e,he,rfl⟩:=key
 grind[signed_eq]
theorem wU32{n:Int}(h:0≤n)(h2:n<4294967296):IntKind.u32.wrap n=n:=by
 grind[IntKind.wrap,IntKind.signed,IntKind.bits]
theorem wU64{n:Int}(h:0≤n)(h2:n<18446744073709551616):IntKind.u64.wrap n=n:=by
 grind[IntKind.wrap,IntKind.signed,IntKind.bits]
theorem wI64{n:Int}(h:-9223372036854775808≤n)(h2:n≤9223372036854775807):IntKind.i64.wrap n=n:=aE h h2
variable {a b:Int}
theorem tdv(h:0≤a):Int.tdiv a b=a / b:=Int.tdiv_eq_ediv_of_nonneg h
theorem tmd(h:0≤a):Int.tmod a b=a % b:=Int.tmod_eq_emod_of_nonneg h
theorem mulB(hx:0≤x∧x<1000000000)(hy:0≤y∧y<1000000000):0≤x*y∧x*y≤999999998000000001:=by
 refine⟨zK hx.1 hy.1,?_⟩
 have:=Int.mul_le_mul (show x≤999999999 by omega) (show y≤999999999 by omega) hy.1 (by omega)
 omega
def lb(l:List Int)(i:Nat):Int:=(l[i]?).getD 0
theorem lb_of(h:l[i]? = some x):lb l i=x:=by simp_all[lb]
theorem lb_out(h:l.length≤i):lb l i=0:=by simp_all[lb]
theorem lQ(h:okL l)(i:Nat):0≤lb l i∧lb l i<1000000000:=by
 unfold lb
 cases hx:l[i]? with
 | none=>simp
 | some x=>exact lj h hx
theorem eP(l:List Int)(i:Nat):val (l.take (i+1))=val (l.take i)+lb l i*pw i:=by
 cases hx:l[i]?<;>grind[lb_out,List.take_of_length_le,lb_of,fh]
theorem dU(h:l.length≤n):val (l.take n)=val l:=by rw[List.take_of_length_le h]
theorem qv(l:List Int)(i:Nat):val (l.drop i)=lb l i+1000000000*val (l.drop (i+1)):=by
 cases hx:l[i]? with
 | none =>
  have hl:l.length≤i:=by simp_all
  rw[lb_out hl,List.drop_of_length_le hl,List.drop_of_length_le (show l.length≤i+1 by omega)];rfl
 | some x=>simp_all[lb_of,jX]
theorem fB(h:i<l.length):val ((l.set i x).take (i+1))=val (l.take i)+x*pw i:=by
 have h1:(l.set i x)[i]? = some x:=by simp[h]
 grind[fh,List.take_set,List.set_eq_of_length_le]
variable {j:Nat}
theorem take_set_lt(h:j≤i):(l.set i x).take j=l.take j:=by
 grind[List.take_set,List.set_eq_of_length_le]
theorem lK(h:i<j):(l.set i x).drop j=l.drop j:=List.drop_set_of_lt h
theorem val_drop_set(h:i<l.length):val ((l.set i x).drop i)=x+1000000000*val (l.drop (i+1)):=by
 simp_all[jX,lK]
theorem gt_l(h:i<l.length):gt l (i:Int)=some (lb l i):=by
 simp_all[gt_k,lb_of]
theorem lb_drop(l:List Int)(k j:Nat):lb (l.drop k) j=lb l (k+j):=by simp_all[lb]
variable {u w:List Int}
theorem pL(h:u.drop i=w.drop i):lb u i=lb w i:=by
 have h1:=lb_drop u i 0
 simp_all[lb_drop]
theorem pa(h:u.drop i=w.drop i):u.drop (i+1)=w.drop (i+1):=by
 rw[←zR,h,zR]
def sg(z:Int):Int:=if z<0 then -1 else if 0<z then 1 else 0
theorem sg_neg(h:z<0):sg z=-1:=by simp_all[sg]
theorem sg_pos(h:0<z):sg z=1:=by (simp_all[sg];omega)
theorem sg_zero(h:z=0):sg z=0:=by simp_all[sg]
theorem cmp_loop {y1 y2 : List Int} (h1 : okL y1) (h2 : okL y2) (hl : y1.length = y2.length) (hs : y1.length ≤ 1000000) : (bindX (dR (λ(v1 : Int) =>
          if (decide (v1≥0))=true then
            ac (gt y1 v1) λ(e1:Int) =>
            ac (gt y2 v1) λ(e2:Int) =>
            if (decide (e1<e2))=true then
              some (.ret (.ret (-1)))
            else
              if (decide (e1>e2))=true then
                some (.ret (.ret 1))
              else
                some (.go (IntKind.i64.wrap (v1-1)))
          else
            some (.ret (.go ()))) fuel (IntKind.i64.wrap ((y1.length:Int)-1))) λ(v2:Unit) =>
    some 0)=some (sg (val y1-val y2)):=by
  have key : Tot (bindX (dR (λ(v1 : Int) =>
          if (decide (v1≥0))=true then
            ac (gt y1 v1) λ(e1:Int) =>
            ac (gt y2 v1) λ(e2:Int) =>
            if (decide (e1<e2))=true then
              some (.ret (.ret (-1)))
            else
              if (decide (e1>e2))=true then
                some (.ret (.ret 1))
              else
                some (.go (IntKind.i64.wrap (v1-1)))
          else
            some (.ret (.go ()))) fuel (IntKind.i64.wrap ((y1.length:Int)-1))) λ(v2:Unit) =>
    some (0:Int)) (λe=>e=sg (val y1-val y2)):=by
    refine Tot.bindX (E:=λ_=>y1=y2) (TotX.of (Tot.loop (λm (v:Int)=>v=(m:Int)-1∧m≤y1.length∧y1.drop m=y2.drop m) _ y1.length (gy (by omega)) ⟨by grind[wI64],zE _,by simp_all⟩ (λm v hv=>?_))) (λ_ h=>.ok (by simp_all[sg_zero]))
    obtain⟨rfl,hm,hd⟩:=hv
    cases m with
    | zero=>exact TotX.ite (λq=>by simp at q) (λ_=>.ret (by simp_all))
    | succ m =>
      have e1:((m+1:Nat):Int)-1=(m:Int):=by omega
      rw[e1]
      have hx:y1[m]? = some y1[m]:=List.getElem?_eq_getElem (by omega)
      have hy:y2[m]? = some y2[m]:=List.getElem?_eq_getElem (by omega)
      generalize y1[m]=x at hx
      generalize y2[m]=y at hy
      refine TotX.ite (λ_=>?_) (λq=>absurd q (by simp))
      rw[gt_k hx,aa,gt_k hy,aa]
      refine TotX.ite (λq=>.ret ?_) (λq=>TotX.ite (λq2=>.ret ?_) (λq2=>.go ⟨m,by omega,by grind[wI64],by omega,?_⟩))
      grind[val_cmp_at,sg_neg]
      · have:=val_cmp_at h2 h1 hy hx hd.symm (by simp_all)
        simp_all[sg_pos]
      grind[List.drop_eq_getElem_cons]
  obtain⟨e,he,rfl⟩:=key
  exact he
def cmpL(y1 y2:List Int):Option Int :=
  if ((y1.length:Int) != (y2.length:Int))=true then
    if (decide ((y1.length:Int)<(y2.length:Int)))=true then
      some (-1)
    else
      some 1
  else
    bindX (dR (λ(v1 : Int) =>
          if (decide (v1≥0))=true then
            ac (gt y1 v1) λ(e1:Int) =>
            ac (gt y2 v1) λ(e2:Int) =>
            if (decide (e1<e2))=true then
              some (.ret (.ret (-1)))
            else
              if (decide (e1>e2))=true then
                some (.ret (.ret 1))
              else
                some (.go (IntKind.i64.wrap (v1-1)))
          else
            some (.ret (.go ()))) fuel (IntKind.i64.wrap ((y1.length:Int)-1))) λ(v2:Unit) =>
    some 0
theorem cmp_lenL{a b:List Int}(ha:okL a)(hb:okL b)(ta:trm a=a)(tb:trm b=b)(la:a.length≤1000000):cmpL a b=some (sg (val a-val b)):=by
 unfold cmpL
 by_cases h:(a.length:Int)=(b.length:Int)
 grind[cmp_loop]
 ·have:((a.length:Int) != (b.length:Int))=true:=by simpa using h
  rw[this,qV rfl]
  by_cases h2:(a.length:Int)<b.length
  ·rw[qV (qY h2),sg_neg]
   have:=ni ha hb tb (by omega)
   omega
  ·rw[qU (by simp_all),sg_pos]
   have:=ni hb ha ta (by omega)
   omega
theorem cmp_len{a b:List Int}(ha:okL a)(hb:okL b)(ta:trm a=a)(tb:trm b=b)(la:a.length≤1000000):lh a b=some (sg (val a-val b)):=cmp_lenL ha hb ta tb la
theorem kF{a b:List Int}(ha:okL a)(hb:okL b)(la:a.length≤1000000)(lb':b.length≤1000000):iQ a b=some (sg (val a-val b)):=by
 have h:=cmp_lenL (oQ ha) (oQ hb) (trm_trm a) (trm_trm b) (zH (trm_le a) la)
 rw[mj,mj]at h
 (unfold iQ;try delta jB lF)
 rw[kR a la,aa,kR b lb',aa,←h]
 rfl
theorem it_plus_ok{a b:List Int}(ha:okL a)(hb:okL b)(la:a.length≤1000000)(lb':b.length≤1000000):Tot (it_plus a b) (λl=>okL l∧val l=val a+val b∧l.length≤max a.length b.length+1):=by
 (unfold it_plus;try delta jB jC rF)
 refine Tot.bind (E:=λp=>okL p.1∧okL p.2∧p.2.length≤p.1.length∧p.1.length≤max a.length b.length∧val p.1+val p.2=val a+val b) (Tot.ite (λq=>.ok ⟨hb,ha,by grind,by grind,by grind⟩) (λq=>.ok ⟨ha,hb,by simp_all,by simp_all,rfl⟩)) (λp hp=>?_)
 obtain⟨c,d⟩:=p
 dsimp only at hp ⊢
 obtain⟨hc,hd,h1,h2,h3⟩:=hp
 refine Tot.guard (by grind[wI64]) (Tot.guard (br (by grind[wI64])) ?_)
 refine Tot.bind (E:=λv=>okL v.1∧v.1.length=c.length∧(v.2=0∨v.2=1)∧val v.1+v.2*pw c.length=val c+val d) (Tot.guard (bn (by omega)) (Tot.range (λi v=>okL v.1∧v.1.length=i∧(v.2=0∨v.2=1)∧val v.1+v.2*pw i=val (c.take i)+val (d.take i)) _ ⟨jc,rfl,.inl rfl,by simp[val]⟩ (λi x v hx hr=>?_) (λv hr=>?_))) (λv hv=>?_)
 ·obtain⟨out,k⟩:=v
  dsimp only at hr ⊢
  obtain⟨r1,r2,r3,r4⟩:=hr
  have hx1:=lj hc hx
  have hil:=aF hx
  have hy:=lQ hd i
  refine TotX.bind (E:=λs=>s=x+k+lb d i) (Tot.ite (λq=>?_) (λq=>?_)) (λs hs=>?_)
  ·have q':i<d.length:=by simp_all
   rw[gt_l q',aa]
   exact .ok (by grind[wU32])
  ·have q':d.length≤i:=by simp_all
   exact .ok (by grind[wU32,lb_out])
  ·subst hs
   refine TotX.bind (E:=λw=>(w.1=0∨w.1=1)∧0≤w.2∧w.2<1000000000∧w.2+1000000000*w.1=x+k+lb d i) (Tot.ite (λq=>.ok ?_) (λq=>.ok ?_)) (λw hw=>?_)
   ·simp only[ge_iff_le,rc]at q
    grind[wU32]
   grind
   ·obtain⟨w1,w2⟩:=w
    dsimp only at hw ⊢
    obtain⟨q1,q2,q3,q4⟩:=hw
    refine TotX.guard (br (by omega)) (.go ⟨mL.2 ⟨r1,fe.2 ⟨⟨q2,q3⟩,jc⟩⟩,by simp[r2],q1,?_⟩)
    grind[iI,eP,lb_of,fc,val]
 ·obtain⟨r1,r2,r3,r4⟩:=hr
  exact .ok ⟨r1,r2,r3,by simp_all[dU]⟩
 ·obtain⟨out,k⟩:=v
  dsimp only at hv ⊢
  obtain⟨r1,r2,r3,r4⟩:=hv
  refine Tot.guard (br (by omega)) (.ok ⟨mL.2 ⟨r1,fe.2 ⟨by omega,jc⟩⟩,?_,by simp;omega⟩)
  grind[iI,val]
theorem it_minus_ok{a b:List Int}(ha:okL a)(hb:okL b)(la:a.length≤1000000)(lb':b.length≤1000000)(h:val b≤val a):Tot (it_minus a b) (λl=>okL l∧val l=val a-val b∧l.length=a.length):=by
 (unfold it_minus;try delta jB jC rF)
 refine Tot.guard (qY (by omega)) (Tot.guard (br (by omega)) ?_)
 refine Tot.bind (E:=λv=>okL v∧val v=val a-val b∧v.length=a.length) (Tot.guard (bn (by omega)) (Tot.range (λi v=>okL v.2∧v.2.length=a.length∧(v.1=0∨v.1=1)∧val (v.2.take i)-v.1*pw i=val (a.take i)-val (b.take i)) _ ⟨oS _,by simp,.inl rfl,by simp[val]⟩ (λi x v hx hr=>?_) (λv hr=>?_))) (λv hv=>.ok hv)
 ·obtain⟨k,out⟩:=v
  dsimp only at hr ⊢
  obtain⟨r1,r2,r3,r4⟩:=hr
  have hx1:=lj ha hx
  have hil:=aF hx
  have hy:=lQ hb i
  refine TotX.bind (E:=λs=>s=k+lb b i) (Tot.ite (λq=>?_) (λq=>?_)) (λs hs=>?_)
  ·have q':i<b.length:=by simp_all
   rw[gt_l q',aa]
   exact .ok (by grind[wU32])
  ·have q':b.length≤i:=by simp_all
   exact .ok (by simp_all[lb_out])
  ·subst hs
   refine TotX.bind (E:=λw=>(w.1=0∨w.1=1)∧k+lb b i≤w.2∧w.2-(k+lb b i)<1000000000∧w.2=x+1000000000*w.1) (Tot.ite (λq=>.ok ?_) (λq=>.ok ?_)) (λw hw=>?_)
   ·simp only[rc]at q
    grind[wU32]
   grind
   ·obtain⟨w1,w2⟩:=w
    dsimp only at hw ⊢
    obtain⟨q1,q2,q3,q4⟩:=hw
    rw[gt_l (show i<out.length by omega),aa,wU32 (by omega) (by omega),zD]
    refine .go ⟨ko r1 (by omega) q3,by simp[r2],q1,?_⟩
    grind[fB,eP,fh,fc]
 ·obtain⟨k,out⟩:=v
  dsimp only at hr ⊢
  obtain⟨r1,r2,r3,r4⟩:=hr
  refine .ok ⟨r1,?_,r2⟩
  rw[dU (by omega),dU (zE _)]at r4
  have hb1:=bh r1
  have ha1:=bh ha
  have hbt:=bh (g9 a.length hb)
  have hbd:=bh (kA a.length hb)
  have hp:=kv a.length
  have hbb:val b=val (b.take a.length):=by
   rcases Nat.le_total b.length a.length with q | q
   ·rw[dU q]
   ·have h1:=dK b a.length q
    rcases zT 0 (val (b.drop a.length))with z | z
    ·have:=zB (show 1≤val (b.drop a.length) by omega) (zG hp)
     omega
    grind
  grind
theorem qH{a b:List Int}(ha:okL a)(hb:okL b)(la:a.length≤1000000)(lb':b.length≤1000000):Tot (kE a b) (λl=>okL l∧val l=val a*val b∧l.length=a.length+b.length):=by
 (unfold kE;try delta jB rF)
 have hlen:IntKind.i64.wrap ((a.length:Int)+(b.length:Int))=((a.length+b.length:Nat):Int):=by grind[wI64]
 rw[hlen,zD]
 refine Tot.guard (qY (by omega)) (Tot.guard (br (by omega)) ?_)
 refine Tot.bind (E:=λv=>okL v∧val v=val a*val b∧v.length=a.length+b.length) (Tot.guard (bn (by omega)) (Tot.range (λi v=>okL v∧v.length=a.length+b.length∧val (v.take (i+b.length))=val (a.take i)*val b) _ ⟨oS _,by simp,?_⟩ (λi x v hx hr=>?_) (λv hr=>?_))) (λv hv=>.ok hv)
 simp_all[val,val_rep]
 ·obtain⟨r1,r2,r3⟩:=hr
  have hx1:=lj ha hx
  have hil:=aF hx
  refine TotX.bind (E:=λu=>okL u∧u.length=a.length+b.length∧val (u.take (i+1+b.length))=val (a.take (i+1))*val b) (Tot.bind (E:=λu=>okL u.2∧u.2.length=a.length+b.length∧(0≤u.1∧u.1<1000000000)∧val (u.2.take (i+b.length))+u.1*pw (i+b.length)=val (v.take (i+b.length))+x*val b*pw i) (Tot.guard (bn (by omega)) (Tot.range (λk u=>okL u.2∧u.2.length=a.length+b.length∧(0≤u.1∧u.1<1000000000)∧u.2.drop (i+k)=v.drop (i+k)∧val (u.2.take (i+k))+u.1*pw (i+k)=val (v.take (i+k))+x*val (b.take k)*pw i) _ ⟨r1,r2,by omega,rfl,by simp[val]⟩ (λk y u hy hu=>?_) (λu hu=>?_))) (λu hu=>?_)) (λu hu=>.go hu)
  ·obtain⟨c,out⟩:=u
   dsimp only at hu ⊢
   obtain⟨u1,u2,u3,u4,u5⟩:=hu
   have hy1:=lj hb hy
   have hkl:=aF hy
   have hik:IntKind.i64.wrap ((i:Int)+(k:Int))=((i+k:Nat):Int):=by grind[wI64]
   rw[hik,zD,gt_l (show i+k<out.length by omega),aa,aa]
   have ho:=lQ u1 (i+k)
   have hov:lb out (i+k)=lb v (i+k):=pL u4
   have hm:=mulB hx1 hy1
   rw[wU64 (n:=x) (by omega) (by omega),wU64 (n:=y) (by omega) (by omega),wU64 (n:=x*y) (by omega) (by omega),wU64 (n:=lb out (i+k)) (by omega) (by omega),wU64 (n:=lb out (i+k)+x*y) (by omega) (by omega),wU64 (n:=lb out (i+k)+x*y+c) (by omega) (by omega),tdv (by omega),tmd (by omega),wU64 (by omega) (by omega),wU32 (by omega) (by omega)]
   refine .go ⟨ko u1 (by omega) (by omega),by simp[u2],by omega,?_,?_⟩
   ·rw[lK (by omega),←Nat.add_assoc,←zR,u4,zR]
   ·rw[show i+(k+1)=i+k+1 by omega,fB (by omega),eP v,fh hy,fc,←hov,pw_add]
    grind[pw_add]
  ·obtain⟨u1,u2,u3,u4,u5⟩:=hu
   exact .ok ⟨u1,u2,u3,by simp_all⟩
  ·obtain⟨c,out⟩:=u
   dsimp only at hu ⊢
   obtain⟨u1,u2,u3,u5⟩:=hu
   have hik:IntKind.i64.wrap ((i:Int)+(b.length:Int))=((i+b.length:Nat):Int):=by grind[wI64]
   rw[hik,zD,gt_l (show i+b.length<out.length by omega),aa,wU32 (by omega) (by omega)]
   refine .ok ⟨ko u1 (by omega) (by omega),by simp[u2],?_⟩
   grind[fB,fh]
 ·obtain⟨r1,r2,r3⟩:=hr
  refine .ok ⟨r1,?_,r2⟩
  grind
theorem it_byWord_ok{a:List Int}(ha:okL a)(la:a.length≤1000000)(hb:0<b)(hb2:b<1000000000):Tot (mO a b) (λp=>okL p.1∧p.1.length=a.length∧∃r,p.2=[r]∧0≤r∧r<b∧val p.1*b+r=val a):=by
 (unfold mO;try delta jB lF)
 refine Tot.guard (qY (by omega)) (Tot.guard (br (by omega)) ?_)
 refine Tot.bind (E:=λv=>okL v.2∧v.2.length=a.length∧0≤v.1∧v.1<b∧val v.2*b+v.1=val a) (Tot.loop (λm v=>v.2.1=(m:Int)-1∧m≤a.length∧okL v.2.2∧v.2.2.length=a.length∧0≤v.1∧v.1<b∧val (v.2.2.drop m)*b+v.1=val (a.drop m)) _ a.length (gy (by omega)) ⟨by grind[wI64],zE _,oS _,by simp,by omega,hb,by simp[val]⟩ (λm v hv=>?_)) (λv hv=>?_)
 ·obtain⟨r,i,out⟩:=v
  dsimp only at hv ⊢
  obtain⟨rfl,h1,h2,h3,h4,h5,h6⟩:=hv
  cases m with
  | zero=>exact TotX.ite (λq=>by simp at q) (λ_=>.ret ⟨h2,h3,h4,h5,by simp_all⟩)
  | succ m =>
   have e1:((m+1:Nat):Int)-1=(m:Int):=by omega
   rw[e1]
   refine TotX.ite (λ_=>?_) (λq=>absurd q (by simp))
   have hx:=lQ ha m
   rw[gt_l (show m<a.length by omega),aa,wU64 (n:=b) (by omega) (by omega)]
   have hg:(!(b==0))=true:=by simp;omega
   refine TotX.guard hg (TotX.guard hg ?_)
   rw[gt_l (show m<out.length by omega),aa,zD]
   have hrb:r*1000000000+lb a m<b*1000000000:=by omega
   have hq:(r*1000000000+lb a m) / b<1000000000:=Int.ediv_lt_of_lt_mul hb (by omega)
   have hq0:0≤(r*1000000000+lb a m) / b:=zU (by omega) (by omega)
   rw[wU64 (n:=r*1000000000) (by omega) (by omega),wU64 (n:=lb a m) (by omega) (by omega),wU64 (n:=r*1000000000+lb a m) (by omega) (by omega),tdv (by omega),tmd (by omega),wU64 (by omega) (by omega),wU32 (by omega) (by omega),wI64 (by omega) (by omega)]
   refine .go ⟨m,by omega,rfl,by omega,ko h2 hq0 hq,by simp[h3],zY _ (by omega),zO _ hb,?_⟩
   rw[val_drop_set (by omega),qv a m,←h6]
   have e:=zQ (r*1000000000+lb a m) b
   grind
 ·obtain⟨r,out⟩:=v
  dsimp only at hv ⊢
  obtain⟨h1,h2,h3,h4,h5⟩:=hv
  exact .ok ⟨h1,h2,r,by grind[wU32],h3,h4,h5⟩
theorem guess_loop(hP:P1=1000000000*P2)(hU:U=u0*(1000000000*P1)+u1*P1+u2*P2+Y)(hV:V=v1*P1+v2*P2+W)(hY0:0≤Y)(hY:Y<P2)(hW0:0≤W)(hW:W<P2)(hP2:0<P2)(hu0:0≤u0∧u0<1000000000)(hu1:0≤u1∧u1<1000000000)(hu2:0≤u2∧u2<1000000000)(hv1:1≤v1∧v1<1000000000)(hv2:0≤v2∧v2<1000000000)(hUV:U<1000000000*V) :
  Tot (dR (λ(w:Int×Int) =>
    ac (if (decide (w.1≥1000000000))=true then some true else some (decide ((IntKind.u64.wrap (w.1*v2))>(IntKind.u64.wrap ((IntKind.u64.wrap (w.2*1000000000))+u2))))) λ(b:Bool) =>
    if b=true then
     if (decide ((IntKind.u64.wrap (w.2+v1))≥1000000000))=true then
      some (.ret (IntKind.u64.wrap (w.1-1)))
     else
      some (.go (IntKind.u64.wrap (w.1-1),IntKind.u64.wrap (w.2+v1)))
    else
     some (.ret w.1)) fuel ((u0*1000000000+u1) / v1,(u0*1000000000+u1) % v1)) (λg=>0≤g∧g<1000000000∧g*V<U+V∧U<(g+1)*V):=by
 have hP1:0<P1:=by omega
 have hq0:0≤(u0*1000000000+u1) / v1:=zU (by omega) (by omega)
 have hq1:(u0*1000000000+u1) / v1≤u0*1000000000+u1:=Int.ediv_le_self _ (by omega)
 have hVP:v1*P1≤V∧V<(v1+1)*P1:=by
  have h1:v2*P2≤999999999*P2:=zA (by omega) (by omega)
  have h2:0≤v2*P2:=zK hv2.1 (by omega)
  grind
 have hV0:0<V:=by
  have:1*P1≤v1*P1:=zA hv1.1 (by omega)
  omega
 have hUP:U<(u0*1000000000+u1+1)*P1∧u0*(1000000000*P1)≤U:=by
  have h1:u2*P2≤999999999*P2:=zA (by omega) (by omega)
  have h2:0≤u2*P2:=zK hu2.1 (by omega)
  have h3:(u0*1000000000+u1+1)*P1=u0*(1000000000*P1)+u1*P1+P1:=by grind
  have h4:0≤u1*P1:=zK hu1.1 (by omega)
  omega
 have hU0:0≤U:=by
  have:0≤u0*(1000000000*P1):=zK hu0.1 (by omega)
  omega
 have hu0v:u0≤v1:=by
  rcases zT v1 u0 with z | z
  ·exfalso
   have h1:(v1+1)*(1000000000*P1)≤u0*(1000000000*P1):=zA (by omega) (by omega)
   grind
  ·exact z
 refine Tot.loop (λm w=>w.1=(m:Int)∧0≤w.2∧w.2<1000000000∧w.1*v1+w.2=u0*1000000000+u1∧U<(w.1+1)*V) _ ((u0*1000000000+u1) / v1).toNat (gy (by omega)) ⟨by omega,zY _ (by omega),?_,?_,?_⟩ (λm w hw=>?_)
 ·have:=zO (u0*1000000000+u1) (show 0<v1 by omega)
  omega
 ·dsimp only
  have:=zQ (u0*1000000000+u1) v1
  grind
 ·dsimp only
  have h1:=zQ (u0*1000000000+u1) v1
  have h2:=zO (u0*1000000000+u1) (show 0<v1 by omega)
  generalize (u0*1000000000+u1) / v1=q at *
  have h3:(q+1)*(v1*P1)≤(q+1)*V:=zB hVP.1 (by omega)
  have h4:(u0*1000000000+u1+1)*P1≤(v1*q+v1)*P1:=zA (by omega) (by omega)
  grind
 ·obtain⟨g,r⟩:=w
  dsimp only at hw ⊢
  obtain⟨h1,h2,h3,h4,h5⟩:=hw
  have hgt:g≤u0*1000000000+u1:=by
   have:g*1≤g*v1:=zB hv1.1 (by omega)
   omega
  refine TotX.bind (E:=λb=>b=true↔(g≥1000000000∨g*v2>r*1000000000+u2)) (Tot.ite (λq=>.ok ?_) (λq=>.ok ?_)) (λb hb=>?_)
  simp_all
  ·simp only[decide_eq_false_iff_not]at q
   have hm:=mulB ⟨show 0≤g by omega,show g<1000000000 by omega⟩ hv2
   rw[wU64 (n:=g*v2) (by omega) (by omega),wU64 (n:=r*1000000000) (by omega) (by omega),wU64 (n:=r*1000000000+u2) (by omega) (by omega)]
   grind
  ·refine TotX.ite (λq=>?_) (λq=>?_)
   ·have hc:=hb.1 q
    have hi:=digit_hi hP hU hV hY hW0 hP2 (show 0≤g by omega) h4 hUV hV0 hc
    have hg1:1≤g:=by
     grind
    have h4':(g-1)*v1+(r+v1)=u0*1000000000+u1:=by grind
    rw[wU64 (n:=r+v1) (by omega) (by omega),wU64 (n:=g-1) (by omega) (by omega)]
    refine TotX.ite (λq2=>.ret ?_) (λq2=>.go ⟨(g-1).toNat,by omega,by omega,by omega,by simp_all,h4',by simp_all⟩)
    simp only[ge_iff_le,rc]at q2
    have hgB:g-1<1000000000:=by
     rcases zT (g-1) 1000000000 with z | z
     ·exact z
     ·exfalso
      have e1:1000000000*v1≤(g-1)*v1:=zA z (by omega)
      omega
    have hm:=mulB ⟨show 0≤g-1 by omega,hgB⟩ hv2
    exact⟨by omega,hgB,digit_lo hP hU hV hY0 hW0 hW (by omega) h4' hP2 hv1.1 hv2.1 hgB (by omega),by simp_all⟩
   ·have hc:¬(g≥1000000000∨g*v2>r*1000000000+u2):=λz=>by grind
    have c1:g<1000000000:=by omega
    have c2:g*v2≤r*1000000000+u2:=by omega
    exact .ret ⟨by omega,c1,digit_lo hP hU hV hY0 hW0 hW (by omega) h4 hP2 hv1.1 hv2.1 c1 c2,h5⟩
def win(u:List Int)(k j:Nat):Int:=val ((u.drop k).take j)
theorem win_succ(u:List Int)(k j:Nat):win u k (j+1)=win u k j+lb u (k+j)*pw j:=by grind[win,eP,lb_drop]
theorem win_set(h:k+j<u.length):win (u.set (k+j) x) k (j+1)=win u k j+x*pw j:=by
 unfold win
 have h1:(u.set (k+j) x).drop k=(u.drop k).set j x:=by simp_all[List.drop_set,qU]
 grind[fB]
theorem win_bound(h:okL u)(k j:Nat):0≤win u k j∧win u k j<pw j:=by
 have h1:=bh (g9 j (kA k h))
 refine⟨h1.1,zV h1.2 (oJ (by simp;omega))⟩
variable {y7:List Int}
theorem sub_loop    (hu : okL u) (hv : okL y7) (hn : y7.length = n) (hk : k + n + 1 ≤ u.length) (hl : u.length ≤ 2000000) (hg : 0 ≤ g ∧ g < 1000000000) :
    Tot (dR (λ(v5 : Int × Int × Int × (List Int)) =>
                            if (decide (v5.2.2.1<((n+1:Nat):Int)))=true then
                              ac (if (decide (v5.2.2.1 < (y7.length : Int))) = true then
                                    ac (gt y7 v5.2.2.1) λ(e8:Int) =>
                                    some (IntKind.u64.wrap (v5.1+(IntKind.u64.wrap ((IntKind.u64.wrap e8)*g))))
                                  else
                                    some v5.1) λ(v6:Int) =>
                              aA (decide (0≤v5.2.2.1∧v5.2.2.1<((n+1:Nat):Int))) (
                              ac (gt v5.2.2.2 ((k+zZ v5.2.2.1:Nat):Int)) λ(e9:Int) =>
                              ac (if (decide ((IntKind.u64.wrap e9) < (IntKind.u64.wrap ((Int.tmod v6 1000000000) + v5.2.1)))) = true then
                                    some (1,IntKind.u64.wrap ((IntKind.u64.wrap e9)+1000000000))
                                  else
                                    some (0,IntKind.u64.wrap e9)) λ(v7:Int×Int) =>
                              aA (decide (0≤v5.2.2.1∧v5.2.2.1<((n+1:Nat):Int))) (
                              ac (gt v5.2.2.2 ((k+zZ v5.2.2.1:Nat):Int)) λ(e10:Int) =>
                              some (.go (IntKind.u64.wrap (Int.tdiv v6 1000000000),v7.1,IntKind.i64.wrap (v5.2.2.1+1),v5.2.2.2.set (k+zZ v5.2.2.1) (IntKind.u32.wrap (IntKind.u64.wrap (v7.2-(IntKind.u64.wrap ((Int.tmod v6 1000000000)+v5.2.1)))))))))
                            else
                              some (.ret (v5.1,v5.2.1,v5.2.2.2))) fuel (0,0,0,u)) (λw=>w.1=0∧(w.2.1=0∨w.2.1=1)∧okL w.2.2∧w.2.2.length=u.length∧w.2.2.take k=u.take k∧w.2.2.drop (k+n+1)=u.drop (k+n+1)∧win w.2.2 k (n+1)+g*val y7=win u k (n+1)+w.2.1*pw (n+1)):=by
  refine Tot.loop (λm w=>∃j:Nat,j≤n+1∧m=n+1-j∧w.2.2.1=(j:Int)∧0≤w.1∧w.1<1000000000∧(j=n+1→w.1=0)∧(w.2.1=0∨w.2.1=1)∧okL w.2.2.2∧w.2.2.2.length=u.length∧w.2.2.2.take k=u.take k∧w.2.2.2.drop (k+j)=u.drop (k+j)∧win w.2.2.2 k j+g*val (y7.take j)=win u k j+(w.1+w.2.1)*pw j) _ (n+1) (gy (by omega)) ⟨0,by omega,by omega,rfl,by omega,by omega,λ_=>rfl,.inl rfl,hu,rfl,rfl,rfl,by simp_all[val]⟩ (λm w hw=>?_)
  obtain⟨c,bw,jj,o⟩:=w
  obtain⟨j,j1,j2,j3,j4,j5,j6,j7,j8,j9,j10,j11,j12⟩:=hw
  dsimp only at j3 j4 j5 j6 j7 j8 j9 j10 j11 j12 ⊢
  subst j3
  by_cases hj:j=n+1
  · subst hj
    refine TotX.ite (λq=>by simp at q) (λ_=>.ret ⟨j6 rfl,j7,j8,j9,j10,by omega,?_⟩)
    grind
  · refine TotX.ite (λ_=>?_) (λq=>absurd q (by simp;omega))
    have hy:=lQ hv j
    have hm:=mulB hy hg
    refine TotX.bind (E:=λs=>s=c+lb y7 j*g) (Tot.ite (λq=>?_) (λq=>?_)) (λs hs=>?_)
    · have q':j<y7.length:=by simp_all
      rw[gt_l q',aa]
      exact .ok (by grind[wU64])
    · have q':y7.length≤j:=by simp_all
      exact .ok (by simp_all[lb_out])
    · have hgd:(decide (0≤(j:Int)∧(j:Int)<((n+1:Nat):Int)))=true:=qY ⟨by omega,by omega⟩
      refine TotX.guard hgd ?_
      rw[zD,gt_l (show k+j<o.length by omega),aa]
      have ho:=lQ j8 (k+j)
      have hou:=pL j11
      have hs0:0≤s:=by omega
      rw[tmd hs0,tdv hs0,wU64 (n:=lb o (k+j)) (by omega) (by omega),wU64 (n:=s % 1000000000+bw) (by omega) (by omega),wU64 (n:=s / 1000000000) (by omega) (by omega)]
      refine TotX.bind (E:=λw=>(w.1=0∨w.1=1)∧0≤w.2-(s % 1000000000+bw)∧w.2-(s % 1000000000+bw)<1000000000∧w.2=lb o (k+j)+1000000000*w.1) (Tot.ite (λq=>.ok ?_) (λq=>.ok ?_)) (λw hw=>?_)
      · simp only[rc]at q
        grind[wU64]
      grind
      · obtain⟨w1,w2⟩:=w
        dsimp only at hw ⊢
        obtain⟨q1,q2,q3,q4⟩:=hw
        refine TotX.guard hgd ?_
        rw[aa,wU64 (by omega) (by omega),wU32 (by omega) (by omega),wI64 (by omega) (by omega)]
        refine .go ⟨n+1-(j+1),by omega,j+1,by omega,rfl,by dsimp only;omega,by dsimp only;omega,?_,?_,q1,ko j8 q2 q3,by simp[j9],?_,?_,?_⟩<;>grind[lb_out,take_set_lt,lK,pa,win_set,win_succ,eP,fc]
theorem res_loop   (hu : okL u) (hv : okL y7) (hn : y7.length = n) (hk : k + n + 1 ≤ u.length) (hl : u.length ≤ 2000000) :
    Tot (dR (λ(v10 : Int × Int × (List Int)) =>
                              if (decide (v10.2.1<((n+1:Nat):Int)))=true then
                                aA (decide (0≤v10.2.1∧v10.2.1<((n+1:Nat):Int))) (
                                ac (gt v10.2.2 ((k+zZ v10.2.1:Nat):Int)) λ(e11:Int) =>
                                ac (if (decide (v10.2.1 < (y7.length : Int))) = true then
                                      ac (gt y7 v10.2.1) λ(e12:Int) =>
                                      some (IntKind.u32.wrap ((IntKind.u32.wrap (e11+v10.1))+e12))
                                    else
                                      some (IntKind.u32.wrap (e11+v10.1))) λ(v11:Int) =>
                                ac (if (decide (v11 ≥ 1000000000)) = true then
                                      some (1,IntKind.u32.wrap (v11-1000000000))
                                    else
                                      some (0,v11)) λ(v12:Int×Int) =>
                                aA (decide (0≤v10.2.1∧v10.2.1<((n+1:Nat):Int))) (
                                ac (gt v10.2.2 ((k+zZ v10.2.1:Nat):Int)) λ(e13:Int) =>
                                some (.go (v12.1,IntKind.i64.wrap (v10.2.1+1),v10.2.2.set (k+zZ v10.2.1) v12.2))))
                              else
                                some (.ret v10.2.2)) fuel (0,0,u)) (λw=>okL w∧w.length=u.length∧w.take k=u.take k∧w.drop (k+n+1)=u.drop (k+n+1)∧(win w k (n+1)=win u k (n+1)+val y7∨win w k (n+1)+pw (n+1)=win u k (n+1)+val y7)):=by
  refine Tot.loop (λm w=>∃j:Nat,j≤n+1∧m=n+1-j∧w.2.1=(j:Int)∧(w.1=0∨w.1=1)∧okL w.2.2∧w.2.2.length=u.length∧w.2.2.take k=u.take k∧w.2.2.drop (k+j)=u.drop (k+j)∧win w.2.2 k j+w.1*pw j=win u k j+val (y7.take j)) _ (n+1) (gy (by omega)) ⟨0,by omega,by omega,rfl,.inl rfl,hu,rfl,rfl,rfl,by simp_all[val]⟩ (λm w hw=>?_)
  obtain⟨c,jj,o⟩:=w
  obtain⟨j,j1,j2,j3,j7,j8,j9,j10,j11,j12⟩:=hw
  dsimp only at j3 j7 j8 j9 j10 j11 j12 ⊢
  subst j3
  by_cases hj:j=n+1
  · subst hj
    refine TotX.ite (λq=>by simp at q) (λ_=>.ret ⟨j8,j9,j10,by omega,?_⟩)
    grind
  · refine TotX.ite (λ_=>?_) (λq=>absurd q (by simp;omega))
    have hy:=lQ hv j
    have hgd:(decide (0≤(j:Int)∧(j:Int)<((n+1:Nat):Int)))=true:=qY ⟨by omega,by omega⟩
    refine TotX.guard hgd ?_
    rw[zD,gt_l (show k+j<o.length by omega),aa]
    have ho:=lQ j8 (k+j)
    have hou:=pL j11
    refine TotX.bind (E:=λs=>s=lb o (k+j)+c+lb y7 j) (Tot.ite (λq=>?_) (λq=>?_)) (λs hs=>?_)
    · have q':j<y7.length:=by simp_all
      rw[gt_l q',aa]
      exact .ok (by grind[wU32])
    · have q':y7.length≤j:=by simp_all
      exact .ok (by grind[lb_out,wU32])
    · refine TotX.bind (E:=λw=>(w.1=0∨w.1=1)∧0≤w.2∧w.2<1000000000∧w.2+1000000000*w.1=s) (Tot.ite (λq=>.ok ?_) (λq=>.ok ?_)) (λw hw=>?_)
      · simp only[ge_iff_le,rc]at q
        grind[wU32]
      grind
      · obtain⟨w1,w2⟩:=w
        dsimp only at hw ⊢
        obtain⟨q1,q2,q3,q4⟩:=hw
        refine TotX.guard hgd ?_
        rw[aa,wI64 (by omega) (by omega)]
        refine .go ⟨n+1-(j+1),by omega,j+1,by omega,rfl,by simp_all,q1,ko j8 q2 q3,by simp[j9],?_,?_,?_⟩
        simp_all[take_set_lt]
        grind[lK,pa]
        · dsimp only
          rw[win_set (by omega),win_succ,eP,fc,←hou]
          grind
theorem qu(x:Int):val [x]=x:=by simp[val]
theorem win_all(hu:okL u)(h:val (u.drop k)<pw n):val (u.drop k)=win u k n∧val (u.drop (k+n))=0:=by
 unfold win
 rcases Nat.le_total n (u.drop k).length with q | q
 ·have h1:=dK (u.drop k) n q
  have h2:=bh (g9 n (kA k hu))
  have h3:=bh (kA n (kA k hu))
  rw[zR]at h1 h3
  rcases zT 0 (val (u.drop (k+n)))with z | z
  ·have:=zB (show 1≤val (u.drop (k+n)) by omega) (zG (kv n))
   omega
  grind
 ·rw[dU q,←zR,List.drop_of_length_le q]
  exact⟨rfl,rfl⟩
theorem div_scale{B:List Int}(hB:okL B)(tB:trm B=B)(hn:B.length=n+2):1≤lb B (n+1)∧1≤1000000000 / (lb B (n+1)+1)∧1000000000 / (lb B (n+1)+1)<1000000000∧pw (n+1)≤val B*(1000000000 / (lb B (n+1)+1))∧val B*(1000000000 / (lb B (n+1)+1))<pw (n+2):=by
 have hx:=lQ hB (n+1)
 have hx0:1≤lb B (n+1):=by
  have hl:B[n+1]? = some B[n+1]:=List.getElem?_eq_getElem (by omega)
  grind[last_trm,lb_of]
 have hBhi:val B<(lb B (n+1)+1)*pw (n+1):=by
  have h1:=eP B (n+1)
  rw[dU (by omega)]at h1
  have h2:=(bh (g9 (n+1) hB)).2
  grind
 have hBlo:pw (n+1)≤val B:=pw_le_val hB tB hn
 have hP:=kv (n+1)
 have hB0:=(bh hB).1
 generalize lb B (n+1)=x at *
 have hs1:1≤1000000000 / (x+1):=(Int.le_ediv_iff_mul_le (by omega)).2 (by omega)
 have hs2:(x+1)*(1000000000 / (x+1))≤1000000000:=by
  have:=Int.ediv_mul_le 1000000000 (b:=x+1) (by omega)
  grind
 generalize 1000000000 / (x+1)=s at *
 have hs3:s<1000000000:=by
  have:2*s≤(x+1)*s:=zA (by omega) (by omega)
  omega
 refine⟨hx0,hs1,hs3,?_,?_⟩
 ·have h1:val B*1≤val B*s:=zB hs1 hB0
  omega
 ·have h1:val B*s<(x+1)*pw (n+1)*s:=Int.mul_lt_mul_of_pos_right hBhi (by omega)
  have h2:(x+1)*s*pw (n+1)≤1000000000*pw (n+1):=zA hs2 (by omega)
  grind[fc]
variable {v:List Int}
theorem len_of_val(hV:okL v)(tV:trm v=v)(h1:pw n≤val v)(h2:val v<pw (n+1)):v.length=n+1:=by
 have h3:=len_le_of_val hV tV h2
 rcases zW v.length (n+1)with z | z
 ·have:=(bh hV).2
  have:=oJ (show v.length≤n by omega)
  omega
 ·omega
theorem top_pos(hV:okL v)(tV:trm v=v)(hl:v.length=n+1):1≤lb v n:=by
 have h1:v[n]? = some v[n]:=List.getElem?_eq_getElem (by omega)
 have hg:v.getLast? = some v[n]:=by grind
 have h2:=last_trm tV hg
 have h3:=lQ hV n
 grind[lb_of]
theorem div_win(hw:okL w)(hlt:val (w.drop (k+1))<val v)(hv:val v<pw (n+2)):win w k (n+3)<1000000000*val v∧val (w.drop k)=win w k (n+3)∧val (w.drop (k+(n+3)))=0 ∧
  win w k (n+3)=lb w (k+(n+2))*(1000000000*pw (n+1))+lb w (k+(n+1))*pw (n+1)+lb w (k+n)*pw n+win w k n:=by
 have hd1:=qv w k
 have hkk:=lQ hw k
 grind[fc,win_all,win_succ]
theorem div_v(hV:okL v)(hl:v.length=n+2):val v=lb v (n+1)*pw (n+1)+lb v n*pw n+val (v.take n)∧0≤val (v.take n)∧val (v.take n)<pw n:=by
 have h1:=eP v (n+1)
 rw[dU (by omega),eP v n]at h1
 have hWb:=bh (g9 n hV)
 grind
theorem div_pick{o P:Int}(h:o+g*V=W+b*P)(hb:b=0∨b=1)(ho:0≤o∧o<P)(h1:g*V<W+V)(h2:W<(g+1)*V)(hg:0≤g)(hW:0≤W):(b=0→0≤o∧o<V∧o+g*V=W)∧(b=1→1≤g∧∀z,0≤z∧z<P→(z=o+V∨z+P=o+V)→0≤z∧z<V∧z+(g-1)*V=W):=by
 grind
theorem div_round{q:List Int}{N:Nat}{T:Int}{GL:Option Int}{SL:Int→Option (Int×Int×List Int)}{RL:Bool×List Int→Option (List Int)}{c1:Bool}{cw:Bool×List Int→Bool}
  (hk:k<N) (hN:N+n≤600000) (hw:okL w) (hwl:w.length=N+n+2) (hq:okL q) (hql:q.length=N) (hc1:c1=true)
  (hwin:val (w.drop k)=win w k (n+3)) (htop:val (w.drop (k+(n+3)))=0) (hinv:val w+val v*(pw (k+1)*val (q.drop (k+1)))=T)
  (hcw:∀b o,o.length=w.length→cw (b,o)=true)
  (hGL:Tot GL (λg=>0≤g∧g<1000000000∧g*val v<win w k (n+3)+val v∧win w k (n+3)<(g+1)*val v))
  (hSL:∀g,0≤g∧g<1000000000→Tot (SL g) (λt=>t.1=0∧(t.2.1=0∨t.2.1=1)∧okL t.2.2∧t.2.2.length=w.length∧t.2.2.take k=w.take k∧t.2.2.drop (k+(n+3))=w.drop (k+(n+3))∧win t.2.2 k (n+3)+g*val v=win w k (n+3)+t.2.1*pw (n+3)))
  (hRL:∀b o,okL o→o.length=w.length→Tot (RL (b,o)) (λz=>okL z∧z.length=o.length∧z.take k=o.take k∧z.drop (k+(n+3))=o.drop (k+(n+3))∧(win z k (n+3)=win o k (n+3)+val v∨win z k (n+3)+pw (n+3)=win o k (n+3)+val v))) :
  Tot (aA c1 (aA c1 (ac GL λv4=>aA (cw (true,w)) (ac (ac (SL v4) λv8=>some (decide (v8.2.1>0)||decide (v8.1>0),v8.2.2)) λv9 =>
    ac (if v9.1=true then aA (cw v9) (ac (RL v9) λv13=>some (IntKind.u64.wrap (v4-1),v13))else some (v4,v9.2)) λv14 =>
    ac (gt q (k:Int)) λe14=>some (v14.2,q.set (zZ (k:Int)) (IntKind.u32.wrap v14.1))))))
   (λr=>okL r.1∧r.1.length=N+n+2∧okL r.2∧r.2.length=N∧val (r.1.drop k)<val v∧val r.1+val v*(pw k*val (r.2.drop k))=T):=by
 refine Tot.guard hc1 (Tot.guard hc1 (Tot.bind hGL λg hg=>?_))
 obtain⟨g1,g2,g3,g4⟩:=hg
 refine Tot.guard (hcw _ _ rfl) ?_
 refine Tot.bind (Tot.bind (hSL g ⟨g1,g2⟩) (λt ht=>.ok (E:=λt=>∃c b:Int,∃o:List Int,t=(decide (b>0)||decide (c>0),o)∧c=0∧(b=0∨b=1)∧okL o∧o.length=w.length∧o.take k=w.take k∧o.drop (k+(n+3))=w.drop (k+(n+3))∧win o k (n+3)+g*val v=win w k (n+3)+b*pw (n+3)) ⟨t.1,t.2.1,t.2.2,rfl,ht⟩)) (λt ht=>?_)
 obtain⟨c,b,o,rfl,rfl,o1,o2,o3,o4,o5,o6⟩:=ht
 obtain⟨k1,k2⟩:=div_pick o6 o1 (win_bound o2 k (n+3)) g3 g4 g1 (win_bound hw k (n+3)).1
 refine Tot.bind (E:=λt=>∃g':Int,∃z:List Int,t=(g',z)∧0≤g'∧g'<1000000000∧okL z∧z.length=w.length∧z.take k=w.take k∧z.drop (k+(n+3))=w.drop (k+(n+3))∧win z k (n+3)<val v∧win z k (n+3)+g'*val v=win w k (n+3)) (Tot.ite (λhb=>?_) (λhb=>?_)) (λt ht=>?_)
 ·have b1:b=1:=by
   grind
  obtain⟨hg1,hz⟩:=k2 b1
  refine Tot.guard (hcw _ _ o3) (Tot.bind (hRL _ _ o2 o3) (λz hz'=>?_))
  obtain⟨z1,z2,z3,z4,z5⟩:=hz'
  obtain⟨y1,y2,y3⟩:=hz _ (win_bound z1 k (n+3)) z5
  rw[wU64 (by omega) (by omega)]
  exact .ok ⟨g-1,z,rfl,by omega,by omega,z1,by omega,by rw[z3,o4],by rw[z4,o5],y2,y3⟩
 ·have b0:b=0:=by
   grind
  obtain⟨y1,y2,y3⟩:=k1 b0
  exact .ok ⟨g,o,rfl,g1,g2,o2,o3,o4,o5,y2,y3⟩
 ·obtain⟨g',z,rfl,g1',g2',z1,z2,z3,z4,z6,z7⟩:=ht
  clear k1 k2 o1 o2 o3 o4 o5 o6 g3 g4 g1 g2 hSL hRL hcw
  dsimp only
  rw[gt_l (show k<q.length by omega),aa,wU32 (by omega) (by omega),zD]
  have hzt:val (z.drop (k+(n+3)))=0:=by simp_all
  have hzd:val (z.drop k)=win z k (n+3):=by
   grind[dK,zR,win]
  have hwt:=dK w k (by omega)
  have hzt2:=dK z k (by omega)
  rw[z3]at hzt2
  refine .ok ⟨z1,by simp_all,ko hq g1' g2',by simp[hql],by simp_all,?_⟩
  grind[val_drop_set,pw]
theorem div_last{t s X:Int}(h:t*s+r=s*X)(h0:0≤r)(h1:r<s):t=X:=by
 have e3:s*(X-t)=r:=by
  grind
 have d0:X-t=0:=by
  generalize X-t=d at *
  rcases Int.lt_trichotomy d 0 with z | z | z
  ·have:=zB (show d≤-1 by omega) (show 0≤s by omega);omega
  ·exact z
  ·have:=zB (show 1≤d by omega) (show 0≤s by omega);omega
 omega
theorem div_init{w0:List Int}{N:Nat}(hU0:okL w0)(hl:w0.length=N+n+2)(hu1:okL u)(hul:u.length=N+(n+1))(hv:val w0=val u):val (w0.drop N)<pw (n+1):=by
 have h1:=dK w0 N (by omega)
 have h2:=(bh (g9 N hU0)).1
 have h3:val w0<pw N*pw (n+1):=by
  rw[←pw_add,hv]
  have h4:=(bh hu1).2
  simp_all
 have h5:pw N*val (w0.drop N)<pw N*pw (n+1):=by omega
 simp_all[kv]
theorem sg_dec:decide (sg z<0)=decide (z<0):=by
 apply decide_eq_decide.2
 grind[sg]
set_option maxHeartbeats 4000000 in
theorem it_divide_ok{a b:List Int}(ha:okL a)(hb:okL b)(la0:a.length≤500000)(lb0:b.length≤500000)(h0:val b≠0):Tot (mN a b) (λp=>okL p.1∧okL p.2∧val p.1*val b+val p.2=val a∧val p.2<val b∧p.1.length≤a.length+2∧p.2.length≤a.length+2):=by
  have la:a.length≤1000000:=by omega
  have lb':b.length≤1000000:=by omega
  (unfold mN;simp -proj -iota -zeta only [auN])
  rw[kR a la,aa,kR b lb',aa]
  have hA:=oQ ha;have vA:=mj a;have lA:=trm_le a
  have hB:=oQ hb;have tB:=trm_trm b;have vB:=mj b;have lB:=trm_le b
  rw[←vB,←vA]
  rw[←vB]at h0
  generalize trm a=A at *
  generalize trm b=B at *
  have hbA:=bh hA
  have hbB:=bh hB
  clear ha hb vA vB la lb'
  refine Tot.ite (λq=>?_) (λq=>?_)
  · have q1:B.length=1:=by grind
    have hx:=lQ hB 0
    have hBx:B=[lb B 0]:=by
      cases B with
      | nil=>simp at q1
      | cons x l =>
        cases l with
        | nil=>rfl
        | cons y l=>simp at q1
    have vx:val B=lb B 0:=by grind[qu]
    have e0:gt B 0=some (lb B 0):=gt_l (i:=0) (by omega)
    rw[e0,aa]
    rw[vx]at h0 ⊢
    refine Tot.bind (it_byWord_ok hA (by omega) (by omega) hx.2) (λp hp=>.ok ?_)
    grind[fe,qu]
  · rw[kF hA hB (by omega) (by omega),aa,sg_dec]
    refine Tot.ite (λq2=>?_) (λq2=>?_)
    · have hlt:val A<val B:=by grind
      refine Tot.guard (br (by omega)) (.ok ⟨jc,hA,by simp[val],hlt,by simp,by grind⟩)
    · have hge:val B≤val A:=by simp_all
      have hlen:B.length≤A.length:=by
        grind[ni]
      obtain⟨n,hn⟩:∃n,B.length=n+2:=by
        rcases zW B.length 2 with z | z
        · exfalso
          have z1:B.length≠1:=by grind
          have z0:B=[]:=List.length_eq_zero_iff.1 (by omega)
          rw[z0]at h0;exact h0 rfl
        · exact⟨B.length-2,by omega⟩
      clear q q2 hge
      have eN1:IntKind.i64.wrap ((B.length:Int)-1)=((n+1:Nat):Int):=by grind[wI64]
      have eN2:IntKind.i64.wrap ((B.length:Int)-2)=(n:Int):=by grind[wI64]
      rw[eN1,eN2,gt_l (show n+1<B.length by omega),aa]
      have hx:=lQ hB (n+1)
      obtain⟨hx0,hs1,hs3,hVlo,hVhi⟩:=div_scale hB tB hn
      generalize hX:lb B (n+1)=x at *
      rw[wU64 (n:=x) (by omega) (by omega),wU64 (n:=x+1) (by omega) (by omega),tdv (by omega)]
      generalize 1000000000 / (x+1)=s at *
      rw[wU64 (n:=s) (by omega) (by omega),wU32 (n:=s) (by omega) (by omega)]
      refine Tot.guard (by simp;omega) ?_
      have hS:okL [s]:=fe.2 ⟨by omega,jc⟩
      refine Tot.bind (qH hA hS (by omega) (by simp)) (λu hu=>?_)
      obtain⟨hu1,hu2,hu3⟩:=hu
      rw[qu]at hu2
      have hu3':u.length=A.length+1:=by omega
      refine Tot.guard (br (by omega)) ?_
      refine Tot.bind (qH hB hS (by omega) (by simp)) (λv0 hv0=>?_)
      obtain⟨hv1,hv2,hv3⟩:=hv0
      rw[qu]at hv2
      have hv3':v0.length=B.length+1:=by omega
      rw[kR v0 (by omega),aa]
      have hV:=oQ hv1
      have tV:=trm_trm v0
      have vV:val (trm v0)=val B*s:=by rw[mj,hv2]
      generalize trm v0=v at *
      rw[←vV]at hVlo hVhi
      have hvl:=len_of_val hV tV hVlo hVhi
      have hv1p:=top_pos hV tV hvl
      clear hu3 hv3 hv3' hv1 hv2 hX hx hx0
      have eQ:IntKind.i64.wrap (((u.length+1:Nat):Int)-(B.length:Int))=((A.length-n:Nat):Int):=by grind[wI64]
      rw[eQ,zD]
      refine Tot.guard (qY (by omega)) (Tot.guard (br (by omega)) ?_)
      obtain⟨N,hN⟩:∃N,A.length-n=N:=⟨_,rfl⟩
      rw[hN]
      have hU0:okL (u++[0]):=mL.2 ⟨hu1,fe.2 ⟨by omega,jc⟩⟩
      have hUu:val (u++[0])=val u:=by grind[iI,qu]
      have hUl:(u++[0]).length=N+n+2:=by simp;omega
      have hin:=div_init hU0 hUl hu1 (by omega) hUu
      generalize u++[0]=w0 at *
      rw[hu2]at hUu
      have hNn:N+n≤500000:=by omega
      have hBn:B.length≤N+n+2:=by omega
      have hAl:A.length=N+n:=by omega
      clear hu1 hu2 hu3' eQ hlen eN1 eN2
      refine Tot.bind (E:=λp=>okL p.1∧p.1.length=N+n+2∧okL p.2∧p.2.length=N∧val p.1<val v∧val p.1+val v*val p.2=val A*s) (Tot.loop (λm p=>p.1=(m:Int)-1∧m≤N∧okL p.2.1∧p.2.1.length=N+n+2∧okL p.2.2∧p.2.2.length=N∧val (p.2.1.drop m)<val v∧val p.2.1+val v*(pw m*val (p.2.2.drop m))=val A*s) _ N (gy (by omega)) ⟨?_,zE _,hU0,hUl,oS _,by simp,?_,?_⟩ (λm p hp=>?_)) (λp hp=>?_)
      grind[wI64]
      grind
      simp_all[val]
      · obtain⟨kk,w,q⟩:=p
        dsimp only at hp ⊢
        obtain⟨rfl,hm,hw,hwl,hq,hql,hlt,hinv⟩:=hp
        clear hU0 hUl hin hUu hN
        cases m with
        | zero =>
          refine TotX.ite (λz=>absurd z (by simp)) (λ_=>.ret ⟨hw,hwl,hq,hql,by simp_all,?_⟩)
          simp_all[pw]
        | succ k =>
          have e1:((k+1:Nat):Int)-1=(k:Int):=by omega
          rw[e1]
          refine TotX.ite (λ_=>?_) (λz=>absurd z (by simp))
          have ek:IntKind.i64.wrap ((k:Int)+(B.length:Int))=((k+(n+2):Nat):Int):=by grind[wI64]
          rw[ek]
          have ek1:IntKind.i64.wrap (((k+(n+2):Nat):Int)-1)=((k+(n+1):Nat):Int):=by grind[wI64]
          have ek2:IntKind.i64.wrap (((k+(n+2):Nat):Int)-2)=((k+n:Nat):Int):=by grind[wI64]
          have ek3:IntKind.i64.wrap (((k+(n+2):Nat):Int)+1)=((k+(n+3):Nat):Int):=by grind[wI64]
          have ek4:(((k+(n+3):Nat):Int)).toNat-((k:Int)).toNat=(n+2)+1:=by omega
          rw[ek1,ek2,ek3,ek4]
          rw[gt_l (show k+(n+2)<w.length by omega),gt_l (show k+(n+1)<w.length by omega),gt_l (show k+n<w.length by omega),gt_l (show n+1<v.length by omega),gt_l (show n<v.length by omega)]
          simp only[aa]
          clear ek ek1 ek2 ek3 ek4 e1
          have hW0:=lQ hw (k+(n+2));have hW1:=lQ hw (k+(n+1));have hW2:=lQ hw (k+n)
          have hv1':=lQ hV (n+1);have hv2':=lQ hV n
          obtain⟨hUV,hwin,htop,hU⟩:=div_win hw hlt hVhi
          obtain⟨hVd,hV1,hV2⟩:=div_v hV hvl
          have hYb:=win_bound hw k n
          have hG:=guess_loop (fc n) hU hVd hYb.1 hYb.2 hV1 hV2 (kv n) hW0 hW1 hW2 ⟨hv1p,hv1'.2⟩ hv2' hUV
          have hq0:0≤(lb w (k+(n+2))*1000000000+lb w (k+(n+1))) / lb v (n+1):=zU (by omega) (by omega)
          have hq1:(lb w (k+(n+2))*1000000000+lb w (k+(n+1))) / lb v (n+1)≤lb w (k+(n+2))*1000000000+lb w (k+(n+1)):=Int.ediv_le_self _ (by omega)
          have hc1:(!(lb v (n+1)==0))=true:=by simp;omega
          clear hU hVd hYb hV1 hV2 hUV hlt hVlo hVhi hs1 hs3
          rw[wU64 (n:=lb v (n+1)) (by omega) (by omega),wU64 (n:=lb v n) (by omega) (by omega),wU64 (n:=lb w (k+(n+2))) (by omega) (by omega),wU64 (n:=lb w (k+(n+1))) (by omega) (by omega),wU64 (n:=lb w (k+n)) (by omega) (by omega),wU64 (n:=lb w (k+(n+2))*1000000000) (by omega) (by omega),wU64 (n:=lb w (k+(n+2))*1000000000+lb w (k+(n+1))) (by omega) (by omega),tdv (by omega),tmd (by omega)]
          rw[wU64 (n:=(lb w (k+(n+2))*1000000000+lb w (k+(n+1))) / lb v (n+1)) hq0 (by omega)]
          clear hq0 hq1 hW0 hW1 hW2 hv1' hv2' hv1p
          refine TotX.bind (div_round (cw:=λv9=>decide ((0:Int)≤(k:Int)∧(k:Int)≤((k+(n+3):Nat):Int)∧((k+(n+3):Nat):Int)≤((v9.2.length:Nat):Int))) (show k<N by omega) (by omega) hw hwl hq hql hc1 hwin htop hinv (λb o ho=>qY ⟨by omega,by omega,by grind⟩) hG (λg hg=>?_) (λb o ho hol=>?_)) (λr hr=>?_)
          · exact sub_loop hw hV hvl (by omega) (by omega) hg
          · exact res_loop ho hV hvl (show k+(n+2)+1≤o.length by omega) (show o.length≤2000000 by omega)
          · rw[wI64 (by omega) (by omega)]
            obtain⟨r1,r2,r3,r4,r5,r6⟩:=hr
            exact .go ⟨k,by omega,rfl,by omega,r1,r2,r3,r4,r5,r6⟩
      · obtain⟨w,q⟩:=p
        dsimp only at hp ⊢
        obtain⟨p1,p2,p3,p4,p5,p6⟩:=hp
        rw[cutT_k (show B.length≤w.length by omega),aa,hn]
        have hrl:(w.take (n+2)).length≤n+2:=by simp;omega
        rw[kR _ (by omega),aa]
        have hwb:=bh p1
        have hwe:val (w.take (n+2))=val w:=by
          have:=(win_all (k:=0) (n:=n+2) p1 (by grind)).1
          simp_all[win]
        refine Tot.bind (it_byWord_ok (oQ (g9 _ p1)) (zH (trm_le _) (by omega)) (by omega) hs3) (λt ht=>.ok ?_)
        obtain⟨t1,t2,r,t3,t4,t5,t6⟩:=ht
        rw[mj,hwe]at t6
        have hr0:val t.1=val A-val B*val q:=div_last (s:=s) (r:=r) (by
          grind) t4 t5
        have htl:=trm_le (w.take (n+2))
        refine⟨p3,t1,?_,?_,by grind,by grind⟩
        grind
        · dsimp only
          rcases zT (val t.1) (val B)with z | z
          · exact z
          · exfalso
            have e1:val B*s≤val t.1*s:=zA z (by omega)
            omega
theorem Tot.get{m:Option α}{x:α}(h:Tot m (λe=>e=x)):m=some x:=by
 obtain⟨e,h1,rfl⟩:=h;exact h1
def Bd(n:Nat)(z:Int):Prop:=(z.natAbs:Int)<pw n
variable {m:Nat}
theorem Bd.mono(h:Bd n z)(hm:n≤m):Bd m z:=zV h (oJ hm)
theorem Bd.len(h:Bd n z):(ofI z).Limbs.length≤n:=ofI_len h
theorem Bd.neg(h:Bd n z):Bd n (-z):=by simp_all[Bd]
theorem Bd.le(h:Bd n b)(hb:a.natAbs≤b.natAbs):Bd n a:=by grind[Bd]
theorem Bd.add(ha:Bd n a)(hb:Bd m b):Bd (max n m+1) (a+b):=by
 have h1:Bd (max n m) a:=ha.mono (Nat.le_max_left _ _)
 have h2:Bd (max n m) b:=hb.mono (Nat.le_max_right _ _)
 grind[Bd,fc]
theorem Bd.mul(ha:Bd n a)(hb:Bd m b):Bd (n+m) (a*b):=by
 unfold Bd at *
 rw[Int.natAbs_mul,pw_add,Int.natCast_mul]
 have h1:(a.natAbs:Int)*b.natAbs≤pw n*b.natAbs:=zA (zG ha) (by omega)
 have h2:pw n*(b.natAbs:Int)<pw n*pw m:=Int.mul_lt_mul_of_pos_left hb (kv n)
 omega
theorem Bd.i64(h:-9223372036854775808≤z)(h2:z≤9223372036854775807):Bd 3 z:=by grind[Bd,pw]
theorem Bd.ediv(ha:Bd n a)(hb:0<b):Bd n (a / b):=by
 refine ha.le ?_
 rcases Int.le_total 0 a with h | h
 ·have h1:=zU h (zG hb)
  have h2:=Int.ediv_le_self b h
  omega
 ·have h1:a≤a / b:=by
   rw[Int.le_ediv_iff_mul_le hb]
   have:=zB (show 1≤b by omega) (show 0≤-a by omega)
   grind
  have h2:a / b≤0:=by
   rcases zT 0 (a / b)with z | z
   ·have:=(Int.le_ediv_iff_mul_le (a:=1) (b:=a) hb).1 (by omega)
    omega
   ·exact z
  omega
theorem Bd.emod(hb:Bd n b)(h:0<b):Bd n (a % b):=by
 have h1:=zY a (show b≠0 by omega)
 have h2:=zO a h
 exact hb.le (by omega)
theorem Bd.toNat{a:Nat}(h:Bd n (a:Int)):(a:Int)<pw n:=by simp_all[Bd]
theorem dE(z:Int):(ofI z).Neg=decide (z<0):=rfl
theorem dec_beq{p q:Prop}[Decidable p][Decidable q]:((decide p==decide q)=true)↔(p↔q):=by
 simp_all
theorem kf(h:a=b):ofI a=ofI b:=by rw[h]
theorem it_split_ok{u:Int}(h0:0≤u)(h:u<18446744073709551616):∃l,pM u=some l∧okL l∧val l=u∧l.length=3:=by
 grind[pM,wU64,wU32,fe,jc,val]
theorem wrap_u64'(n:Int):IntKind.u64.wrap n=n % 18446744073709551616:=by
 simp_all[IntKind.wrap,IntKind.signed,IntKind.bits]
theorem abs_u64{n:Int}(h:-9223372036854775808≤n)(h2:n≤9223372036854775807)(h3:n<0):IntKind.u64.wrap (0-(IntKind.u64.wrap n))=(n.natAbs:Int):=by
 grind[wrap_u64']
theorem eJ{n:Int}(h:-9223372036854775808≤n)(h2:n≤9223372036854775807):dW n=some (ofI n):=by
 apply Tot.get
 (unfold dW;try delta jC)
 refine Tot.bind (E:=λu=>u=(n.natAbs:Int)) (Tot.ite (λq=>.ok (abs_u64 h h2 (by simpa using q))) (λq=>.ok ?_)) (λu hu=>?_)
 grind[wU64]
 ·subst hu
  obtain⟨l,h3,h4,h5,h6⟩:=it_split_ok (u:=(n.natAbs:Int)) (by omega) (by omega)
  rw[h3,aa,dV _ _ (by omega) h4,aa,h5]
  refine .ok (kf ?_)
  grind
theorem it_Sign_eq(z:Int):qI (ofI z)=some (sg z):=by
 unfold qI
 rw[dE]
 by_cases h:z<0
 simp_all[sg_neg]
 ·rw[qU (by simpa using h)]
  by_cases h2:z=0
  ·subst h2;rfl
  ·have:(ofI z).Limbs≠[]:=λq=>h2 (ofI_nil.1 q)
   have:0<(ofI z).Limbs.length:=List.length_pos_iff.2 this
   rw[qV (qY (by omega)),sg_pos (by omega)]
theorem kh(ha:Bd n a)(hb:Bd m b)(hn:n≤1000000)(hm:m≤1000000):ls (ofI a) (ofI b)=some (sg (a-b)):=by
 have la:=ha.len;have lb:=hb.len
 unfold ls
 rw[dE,dE]
 by_cases h1:a<0<;>by_cases h2:b<0
 ·rw[qY h1,qY h2]
  simp only[beq_self_eq_true,zX,zJ,qW,qX]
  grind[kF,cu,aa,bM]
 grind[sg_neg]
 grind[sg_pos]
 ·rw[qZ h1,qZ h2]
  simp only[beq_self_eq_true,zX,zJ,qW]
  grind[kF,cu,aa,bM]
theorem oY(ha:Bd n a)(hb:Bd m b)(hn:n≤900000)(hm:m≤900000):oZ (ofI a) (ofI b)=some (ofI (a+b)):=by
 have la:=ha.len;have lb:=hb.len
 apply Tot.get
 (unfold oZ;try delta jC)
 rw[dE,dE]
 refine Tot.ite (λq=>?_) (λq=>?_)
 ·rw[dec_beq]at q
  refine Tot.bind (it_plus_ok (cu a) (cu b) (by omega) (by omega)) (λl hl=>?_)
  obtain⟨h1,h2,h3⟩:=hl
  rw[dV _ _ (by omega) h1,aa,h2,bM,bM]
  refine .ok (kf ?_)
  grind
 ·have q':¬(a<0↔b<0):=λz=>by simp_all
  rw[kF (cu a) (cu b) (by omega) (by omega),aa,bM,bM,sg_dec]
  refine Tot.bind (E:=λp=>∃x y:Int,p=(ofI x,ofI y)∧y.natAbs≤x.natAbs∧(ofI x).Limbs.length≤900000∧(ofI y).Limbs.length≤900000∧x+y=a+b∧¬(x<0↔y<0)) (Tot.ite (λz=>.ok ⟨b,a,rfl,by grind,by omega,by omega,by omega,by omega⟩) (λz=>.ok ⟨a,b,rfl,by simp_all,by omega,by omega,rfl,q'⟩)) (λp hp=>?_)
  obtain⟨x,y,rfl,h1,h2,h3,h4,h5⟩:=hp
  refine Tot.bind (it_minus_ok (cu x) (cu y) (by grind) (by grind) (by simp_all[bM])) (λl hl=>?_)
  obtain⟨h6,h7,h8⟩:=hl
  dsimp only at h7 h8
  rw[dV _ _ (by omega) h6,aa,h7,bM,bM,dE]
  refine .ok (kf ?_)
  grind
theorem it_Sub_eq(ha:Bd n a)(hb:Bd m b)(hn:n≤900000)(hm:m≤900000):it_Sub (ofI a) (ofI b)=some (ofI (a-b)):=by
 (unfold it_Sub;try delta jV)
 have h:am.mk (!(ofI b).Neg&&(decide (((ofI b).Limbs.length:Int)>0))) (ofI b).Limbs=ofI (-b):=by
  have e:(ofI (-b)).Limbs=(ofI b).Limbs:=by show toL (-b).natAbs=toL b.natAbs;simp_all
  have e2:(!(ofI b).Neg&&(decide (((ofI b).Limbs.length:Int)>0)))=(ofI (-b)).Neg:=by
   rw[dE,dE]
   by_cases hb0:b=0
   ·subst hb0;rfl
   ·have:(ofI b).Limbs≠[]:=λq=>hb0 (ofI_nil.1 q)
    have:0<(ofI b).Limbs.length:=List.length_pos_iff.2 this
    grind
  rw[e2,←e]
 rw[h,oY ha hb.neg hn hm,aa,Int.sub_eq_add_neg]
theorem it_Neg_eq(ha:Bd n a)(hn:n≤1000000):it_Neg (ofI a)=some (ofI (-a)):=by
 have la:=ha.len
 unfold it_Neg
 rw[br (by omega),aX,dV _ _ (by omega) (cu a),aa,bM,dE]
 grind
theorem mul_sign:(if (!(decide (a<0)==decide (b<0)))=true then -((a.natAbs:Int)*b.natAbs)else (a.natAbs:Int)*b.natAbs)=a*b:=by
 grind
theorem gn(ha:Bd n a)(hb:Bd m b)(hn:n≤400000)(hm:m≤400000):fW (ofI a) (ofI b)=some (ofI (a*b)):=by
 have la:=ha.len;have lb:=hb.len
 apply Tot.get
 unfold fW
 refine Tot.bind (qH (cu a) (cu b) (by omega) (by omega)) (λl hl=>?_)
 obtain⟨h1,h2,h3⟩:=hl
 rw[dV _ _ (by omega) h1,aa,h2,bM,bM,dE,dE,mul_sign]
 exact .ok rfl
theorem l9:(ofI z).Limbs.length=0↔z=0:=by simp_all[ofI_nil]
theorem mh(ha:Bd n a)(hb:Bd m b)(hn:n≤400000)(hm:m≤400000)(h0:0<b):jf (ofI a) (ofI b)=some (ofI (a / b),ofI (a % b),0):=by
  have la:=ha.len;have lb:=hb.len
  apply Tot.get
  (unfold jf;try delta jC jV)
  have hb0:((((ofI b).Limbs.length:Int)==0))=false:=by
    grind[l9]
  rw[hb0]
  refine Tot.ite (λq=>by cases q) (λ_=>?_)
  refine Tot.bind (it_divide_ok (cu a) (cu b) (by omega) (by omega) (by grind[bM])) (λp hp=>?_)
  obtain⟨h1,h2,h3,h4,h5,h6⟩:=hp
  have hy0:=(bh h2).1
  have hx0:=(bh h1).1
  rw[bM,bM]at h3
  rw[bM]at h4
  rw[dV _ _ (by omega) h1,aa,dV _ _ (by omega) h2,aa,dE a,dE b,qZ (show ¬b<0 by omega)]
  have eb:(b.natAbs:Int)=b:=by omega
  rw[eb]at h3 h4
  generalize val p.1=x at *
  generalize val p.2=y at *
  by_cases ha0:a<0
  · have ea:(a.natAbs:Int)=-a:=by omega
    rw[ea]at h3
    rw[qY ha0]
    simp only[beq_false,Bool.not_false,zX,qX,bne_self_eq_false]
    by_cases hy:y=0
    · subst hy
      have hu:=(zI (a:=a) (b:=b) (r:=0) (q:=-x) h0).2 ⟨by grind,by omega,h0⟩
      rw[hu.1,hu.2]
      refine Tot.bind (E:=λv=>v=(ofI (-x),ofI 0)) (Tot.ite (λq=>?_) (λ_=>.ok rfl)) (λv hv=>by subst hv;exact .ok rfl)
      simp_all[ofI]
    · have hu:=(zI (a:=a) (b:=b) (r:=-y+b) (q:=-x-1) h0).2 ⟨by grind,by omega,by omega⟩
      rw[hu.1,hu.2]
      have hbx:Bd n x:=ha.le (by
        have:x*1≤x*b:=zB (show 1≤b by omega) hx0
        omega)
      have hby:Bd m y:=hb.le (by omega)
      have e1:=it_Sub_eq hbx.neg (Bd.i64 (z:=1) (by omega) (by omega)) (by omega) (by omega)
      have e2:=oY hby.neg hb (by omega) (by omega)
      rw[eJ (by omega) (by omega),aa,e1,aa,e2,aa]
      refine Tot.bind (E:=λv=>v=(ofI (-x-1),ofI (-y+b))) (Tot.ite (λq=>.ok rfl) (λq=>?_)) (λv hv=>by subst hv;exact .ok rfl)
      grind[l9,dE]
  · have ea:(a.natAbs:Int)=a:=by omega
    rw[ea]at h3
    have hu:=(zI (a:=a) (b:=b) (r:=y) (q:=x) h0).2 ⟨by grind,hy0,h4⟩
    rw[hu.1,hu.2,qZ ha0]
    simp only[beq_self_eq_true,zX,zJ,qW]
    refine Tot.bind (E:=λv=>v=(ofI x,ofI y)) (Tot.ite (λq=>?_) (λq=>.ok rfl)) (λv hv=>by subst hv;exact .ok rfl)
    simp_all[dE,qZ]
theorem pw_two:∀n:Nat,pw n≤((2 ^ (30*n):Nat):Int)
 | 0=>by simp[pw]
 | n+1=>by
  have h:=pw_two n
  grind[fc]
theorem it_word_ok(hz:0≤z)(hb:Bd n z)(hn:n≤1000000):∃w b,it_word (ofI z)=some (w,b)∧(b=true→w=z∧z<1000000000000000000):=by
 have hl:=hb.len
 have ho:=cu z
 have hv:=bM z
 generalize ofI z=a at *
 obtain⟨s,l⟩:=a
 dsimp only at hl ho hv
 unfold it_word
 dsimp only
 match l,ho,hv with
 | [],ho,hv =>
  (simp_all[val];omega)
 | [x],ho,hv =>
  have h1:=(fe.1 ho).1
  refine⟨x,true,?_,λ_=>?_⟩
  ·simp[gt,wU64 h1.1 (show x<18446744073709551616 by omega)]
  grind[val]
 | [x,y],ho,hv =>
  have h1:=(fe.1 ho).1
  have h2:=(fe.1 (fe.1 ho).2).1
  refine⟨y*1000000000+x,true,?_,λ_=>?_⟩
  ·simp only[gt,List.length_cons,List.length_nil]
   simp
   grind[wU64]
  grind[val]
 | x::y::t::r,ho,hv =>
  refine⟨0,false,?_,λh=>by cases h⟩
  grind
theorem gcd_step(x y:Nat):Nat.gcd y (x % y)=Nat.gcd x y:=by
 grind[Nat.gcd_comm,Nat.gcd_rec]
theorem gcd_loop (x y : Nat) (hy : y ≤ 9223372036854775807) : dR (λ(v2 : Int × Int) =>
      if (decide (v2.2>0))=true then
        aA (!(v2.2==0)) (
        some (.go (v2.2,Int.tmod v2.1 v2.2)))
      else
        some (.ret v2.1)) fuel ((x:Int),(y:Int))=some ((Nat.gcd x y:Nat):Int):=by
  apply Tot.get
  refine Tot.loop (λm v=>∃a:Nat,v=((a:Int),(m:Int))∧Nat.gcd a m=Nat.gcd x y) _ y (gy hy) ⟨x,rfl,rfl⟩ (λm v hv=>?_)
  obtain⟨a,rfl,h⟩:=hv
  dsimp only
  cases m with
  | zero=>exact TotX.ite (λq=>absurd q (by simp)) (λ_=>.ret (by simp_all))
  | succ m =>
    refine TotX.ite (λ_=>TotX.guard (by simp;omega) (.go ⟨a % (m+1),Nat.mod_lt _ (by omega),m+1,?_,?_⟩)) (λq=>absurd q (by simp))<;>simp_all[tmd,gcd_step]
def eucM(m x y:Nat):Prop:=(y≤x∧x*y<2 ^ m)∨(1≤m∧x*y<2 ^ (m-1))
theorem eucM_step{m x y:Nat}(h:eucM m x y)(hy:0<y):∃m',m'<m∧eucM m' y (x % y):=by
 have key:∀k,y≤x→x*y<2 ^ k→∃m',m'<k∧eucM m' y (x % y):=by
  intro k h1 h2
  have h3:=euclid_half h1 hy
  have h4:1≤x*y:=Nat.mul_pos (by omega) hy
  have hk:k≠0:=λz=>by simp_all
  obtain⟨j,rfl⟩:=Nat.exists_eq_succ_of_ne_zero hk
  refine⟨j,by omega,.inl ⟨Nat.le_of_lt (Nat.mod_lt _ hy),?_⟩⟩
  omega
 rcases h with⟨h1,h2⟩|⟨h1,h2⟩
 simp_all
 ·rcases zW x y with q | q
  ·refine⟨m-1,by omega,.inl ⟨Nat.le_of_lt (Nat.mod_lt _ hy),?_⟩⟩
   simp_all[Nat.mod_eq_of_lt,Nat.mul_comm]
  grind
theorem euc_start{x y:Nat}(hx:Bd n (x:Int))(hy:Bd n (y:Int)):eucM (60*n+1) x y:=by
 refine .inr ⟨by omega,?_⟩
 have h1:=pw_two n
 unfold Bd at hx hy
 rw[zF]at hx hy
 rw[show 60*n+1-1=30*n+30*n by omega,Nat.pow_add]
 exact Nat.mul_lt_mul_of_lt_of_lt (by omega) (by omega)
theorem signed_abs(h:Bd n z)(hn:n≤1000000):dz false (ofI z).Limbs=some (ofI (z.natAbs:Int)):=by
 have:=h.len
 grind[dV,cu,bM]
theorem Bd.gcd(hb:Bd n b)(h0:b≠0):Bd n ((zM a b:Nat):Int):=by
 refine hb.le ?_
 simp_all[Nat.gcd_le_right,zM]
theorem it_GCD_eq(ha:Bd n a)(hb:Bd n b)(hn:n≤400000):it_GCD (ofI a) (ofI b)=some (ofI ((zM a b:Nat):Int)):=by
 apply Tot.get
 (unfold it_GCD;try delta jB jC lF jV)
 rw[signed_abs ha (by omega),aa,signed_abs hb (by omega),aa]
 have ha':Bd n ((a.natAbs:Nat):Int):=by simp_all[Bd]
 have hb':Bd n ((b.natAbs:Nat):Int):=by simp_all[Bd]
 refine Tot.bindX (E:=λp=>p.1=ofI ((zM a b:Nat):Int)∧p.1.Limbs.length≤n) (TotX.of (Tot.loop (λm v=>∃x y:Nat,v=(ofI (x:Int),ofI (y:Int))∧Nat.gcd x y=zM a b∧Bd n (x:Int)∧Bd n (y:Int)∧eucM m x y) _ (60*n+1) (gy (by omega)) ⟨a.natAbs,b.natAbs,rfl,rfl,ha',hb',euc_start ha' hb'⟩ (λm v hv=>?_))) (λp hp=>?_)
 ·obtain⟨x,y,rfl,hg,hx,hy,hm⟩:=hv
  dsimp only
  refine TotX.ite (λq=>?_) (λq=>?_)
  ·have hy0:0<y:=by
    grind[ofI,toL_zero]
   obtain⟨w1,b1,e1,f1⟩:=it_word_ok (show (0:Int)≤x by omega) hx (by omega)
   obtain⟨w2,b2,e2,f2⟩:=it_word_ok (show (0:Int)≤y by omega) hy (by omega)
   rw[e1,aa,e2,aa]
   dsimp only
   refine TotX.bindX (E:=λ_=>True) (TotX.ite (λz=>?_) (λz=>.go trivial)) (λ_ _=>?_)
   ·simp only[Bool.and_eq_true]at z
    obtain⟨z1,z2⟩:=z
    obtain⟨rfl,s1⟩:=f1 z1
    obtain⟨rfl,s2⟩:=f2 z2
    rw[gcd_loop x y (by omega),aa]
    have hgl:Nat.gcd x y≤y:=Nat.gcd_le_right x hy0
    obtain⟨l,h3,h4,h5,h6⟩:=it_split_ok (u:=((Nat.gcd x y:Nat):Int)) (by omega) (by omega)
    rw[h3,aa,dV _ _ (by omega) h4,aa,h5]
    refine .ret ?_
    simp_all
   ·have hlx:=hx.len;have hly:=hy.len
    refine TotX.bind (it_divide_ok (cu _) (cu _) (by omega) (by omega) (by grind[bM])) (λp hp=>?_)
    obtain⟨p1,p2,p3,p4,p5,p6⟩:=hp
    rw[dV _ _ (by omega) p2,aa]
    rw[bM,bM,zF,zF]at p3
    rw[bM,zF]at p4
    have hy2:=(bh p2).1
    have hu:=(zI (a:=(x:Int)) (b:=(y:Int)) (r:=val p.2) (q:=val p.1) (by omega)).2 ⟨by grind,hy2,p4⟩
    have hr:val p.2=((x % y:Nat):Int):=by omega
    obtain⟨m',hm1,hm2⟩:=eucM_step hm hy0
    refine .go ⟨m',hm1,y,x % y,?_,by grind[gcd_step],hy,?_,hm2⟩
    grind
    ·exact hy.le (by omega)
  ·have hy0:y=0:=by
    grind[l9]
   subst hy0
   rw[Nat.gcd_zero_right]at hg
   subst hg
   exact .ret ⟨rfl,hx.len⟩
 ·obtain⟨⟨s,l⟩,q⟩:=p
  obtain⟨h1,h2⟩:=hp
  dsimp only at h1 h2 ⊢
  refine Tot.guard (br (by omega)) ?_
  have hl:l=(ofI ((zM a b:Nat):Int)).Limbs:=by rw[←h1]
  rw[dV _ _ (by omega) (by simp_all[cu]),aa,hl,bM]
  exact .ok (kf (by simp))
theorem isq_small{a:Nat}(h:(a:Int)<pw (k+k)):(isq a:Int)<pw k:=by
 obtain⟨h1,h2⟩:=isq_ok a
 have hp:=kv k
 obtain⟨P,hP⟩:=Int.eq_ofNat_of_zero_le (zG hp)
 rw[pw_add,hP]at h
 rw[hP]
 have h3:a<P*P:=by omega
 have:=sq_lt (Nat.lt_of_le_of_lt h1 h3)
 omega
theorem Bd.isq{a:Nat}(h:Bd n (a:Int)):Bd n ((Go.Proofs.YtphbhdoljnokkaaGreatDoor.isq a:Nat):Int):=by
 refine h.le ?_
 obtain⟨h1,h2⟩:=isq_ok a
 rw[zF,zF]
 rcases Nat.eq_zero_or_pos (Go.Proofs.YtphbhdoljnokkaaGreatDoor.isq a)with z | z
 ·omega
 ·have:=zL (show 1≤Go.Proofs.YtphbhdoljnokkaaGreatDoor.isq a from z) (zE (Go.Proofs.YtphbhdoljnokkaaGreatDoor.isq a))
  omega
theorem newton_loop{DM:am→am→Option (am×am×Int)}{AD:am→am→Option am}{CM:am→am→Option Int}{a:Nat}(hb:Bd n (a:Int))(ha:0<a)(hk:(a:Int)<pw (k+k))(hkn:k+n≤150000)
  (hD:∀(x y:Int) (i j:Nat),Bd i x→Bd j y→i≤200000→j≤200000→0<y→DM (ofI x) (ofI y)=some (ofI (x / y),ofI (x % y),0))
  (hA:∀(x y:Int) (i j:Nat),Bd i x→Bd j y→i≤900000→j≤900000→AD (ofI x) (ofI y)=some (ofI (x+y)))
  (hC:∀(x y:Int) (i j:Nat),Bd i x→Bd j y→i≤1000000→j≤1000000→CM (ofI x) (ofI y)=some (sg (x-y))) :
  dR (λ(v1:am) =>
    ac (DM (ofI (a:Int)) v1) λ(y3:am×am×Int) =>
    ac (AD v1 y3.1) λ(y4:am) =>
    ac (DM y4 (ofI 2)) λ(y5:am×am×Int) =>
    ac (CM y5.1 v1) λ(y6:Int) =>
    if (decide (y6≥0))=true then
     some (.ret (v1,(0:Int)))
    else
     some (.go y5.1)) fuel (ofI (pw k))=some (ofI ((isq a:Nat):Int),0):=by
 apply Tot.get
 have hp:=kv k
 have hs:=isq_small hk
 have h2k:=pw_two k
 have hs1:1≤isq a:=le_isq.2 (by omega)
 refine Tot.loop (λm v=>∃x:Nat,v=ofI (x:Int)∧Bd (k+1) (x:Int)∧isq a≤x∧x-isq a<2 ^ m) _ (30*k) (gy (by omega)) ⟨(pw k).toNat,?_,?_,?_,?_⟩ (λm v hv=>?_)
 grind
 grind[Bd,fc]
 ·omega
 ·omega
 ·obtain⟨x,rfl,hx,hge,hm⟩:=hv
  have hx0:0<x:=by omega
  have e1:((a:Int) / (x:Int))=((a / x:Nat):Int):=rfl
  have hq:Bd n ((a / x:Nat):Int):=hb.le (by rw[zF,zF];exact Nat.div_le_self _ _)
  have h2:Bd 3 (2:Int):=Bd.i64 (by omega) (by omega)
  have hadd:=hx.add hq
  have e2:((x:Int)+((a / x:Nat):Int)) / 2=(((x+a / x) / 2:Nat):Int):=by omega
  have hnx:=(hadd.ediv (b:=2) (by omega))
  rw[hD _ _ _ _ hb hx (by omega) (by omega) (by omega),aa,e1]
  dsimp only
  rw[hA _ _ _ _ hx hq (by omega) (by omega),aa,hD _ _ _ _ hadd h2 (by omega) (by omega) (by omega),aa]
  dsimp only
  rw[hC _ _ _ _ hnx hx (by omega) (by omega),aa,e2]
  refine TotX.ite (λq=>.ret ?_) (λq=>?_)
  grind[sg_neg,newton_stop]
  ·have hlt:(x+a / x) / 2<x:=by
    (simp_all[sg];omega)
   obtain⟨h5,h6⟩:=newton_half hge hlt
   have h7:=newton_ge (a:=a) hx0
   have hm0:m≠0:=λz=>by grind
   obtain⟨j,rfl⟩:=Nat.exists_eq_succ_of_ne_zero hm0
   have:2 ^ (j.succ)=2*2 ^ j:=by omega
   refine .go ⟨j,by omega,(x+a / x) / 2,rfl,hx.le (by omega),h7,by omega⟩
theorem sqrt_start(k:Nat)(hk:k≤900000):dz false (List.replicate k (0:Int)++[1])=some (ofI (pw k)):=by
 have ho:okL (List.replicate k (0:Int)++[1]):=mL.2 ⟨oS k,fe.2 ⟨by omega,jc⟩⟩
 rw[dV _ _ (by simp;omega) ho,iI,val_rep,List.length_replicate,qu]
 simp_all
theorem it_Sqrt_eq(hb:Bd n a)(hn:n≤60000)(h0:0≤a):it_Sqrt (ofI a)=some (ofI ((isq a.toNat:Nat):Int),0):=by
 obtain⟨a,rfl⟩:=Int.eq_ofNat_of_zero_le h0
 rw[zD]
 have hl:=hb.len
 (unfold it_Sqrt;try delta lF)
 rw[dE,qZ (show ¬(a:Int)<0 by omega)]
 simp only[zJ,qW]
 by_cases ha:a=0
 ·subst ha;rfl
 ·have hl0:(ofI (a:Int)).Limbs.length≠0:=λz=>by grind[l9]
  rw[qU (by simp_all)]
  have ek:IntKind.i64.wrap (Int.tdiv (IntKind.i64.wrap (((ofI (a:Int)).Limbs.length:Int)+1)) 2)=((((ofI (a:Int)).Limbs.length+1) / 2:Nat):Int):=by
   grind[wI64]
  rw[ek,zD]
  have hk:(a:Int)<pw ((((ofI (a:Int)).Limbs.length+1) / 2)+(((ofI (a:Int)).Limbs.length+1) / 2)):=by
   have h1:=(bh (cu (a:Int))).2
   rw[bM,zF]at h1
   exact zV h1 (oJ (by omega))
  have hkk:((ofI (a:Int)).Limbs.length+1) / 2≤60000:=by omega
  generalize ((ofI (a:Int)).Limbs.length+1) / 2=k at *
  rw[qY (show (0:Int)≤(k:Int) by omega),aX]
  rw[br (by omega),aX,br (by simp;omega),aX,sqrt_start k (by omega),aa,eJ (by omega) (by omega),aa]
  exact newton_loop hb (by omega) hk (by omega) (λx y i j h1 h2 h3 h4 h5=>mh h1 h2 (by omega) (by omega) h5) (λx y i j h1 h2 h3 h4=>oY h1 h2 h3 h4) (λx y i j h1 h2 h3 h4=>kh h1 h2 h3 h4)
theorem r01_trim_eq(l:List Int)(hl:l.length≤1000000):jQ l=some (trm l):=by
 have key:Tot (jQ l) (λe=>e=trm l):=by
  (unfold jQ;try delta jB jR lF)
  refine Tot.bind (E:=λe=>e=trm l) (Tot.loop (λm (v:List Int)=>v=l.take m∧m≤l.length∧trm v=trm l) _ l.length (gy (by omega)) ⟨by simp,by omega,rfl⟩ (λm v hv=>?_)) (λv hv=>.ok hv)
  obtain⟨rfl,h1,h2⟩:=hv
  have hlen:(l.take m).length=m:=by simp;omega
  rw[hlen]
  cases m with
  | zero =>
   refine TotX.bind (E:=λb=>b=false) (Tot.ite (λq=>by simp at q) (λ_=>.ok rfl)) (λb hb=>?_)
   subst hb
   refine TotX.ite (λq=>by cases q) (λ_=>.ret ?_)
   simp_all[trm]
  | succ m =>
   have hx:l[m]? = some l[m]:=List.getElem?_eq_getElem (by omega)
   generalize l[m]=x at hx
   have hx2:(l.take (m+1))[m]? = some x:=by grind
   rw[aE (by omega) (by omega),show ((m+1:Nat):Int)-1=(m:Int) by omega,gt_k hx2,aa]
   refine TotX.bind (E:=λb=>b=(x==0)) (Tot.ite (λ_=>.ok rfl) (λq=>absurd q (by simp))) (λb hb=>?_)
   subst hb
   refine TotX.ite (λq=>?_) (λq=>.ret ?_)
   ·have:x=0:=by simpa using q
    subst this
    rw[cutT_k (by omega),aa]
    refine .go ⟨m,by omega,by grind,by omega,?_⟩
    simp_all[List.take_take,trm_take0]
   simp_all[trm_takeN]
 obtain⟨e,he,rfl⟩:=key
 exact he
theorem oC(h:okL l)(hl:l.length≤1000000):jQ l=some (toL (val l).toNat):=by grind[r01_trim_eq,trm_toL]
theorem nC(neg:Bool)(l:List Int)(hl:l.length≤1000000)(ho:okL l):dQ neg l=some (ofI (if neg=true then -val l else val l)):=by
 (unfold dQ;try delta jV)
 rw[r01_trim_eq l hl,aa,←signed_eq ho]
 simp_all[List.length_pos_iff]
theorem lY(ho:okL l)(hl:l.length≤1000000)(hv:val l<18446744073709551616):kd l=some (val l):=by
 apply Tot.get
 (unfold kd;try delta jB lF)
 refine Tot.bind (E:=λu=>u=val l) (Tot.loop (λm v=>v.2=(m:Int)-1∧m≤l.length∧v.1=val (l.drop m)) _ l.length (gy (by omega)) ⟨by grind[wI64],zE _,by simp[val]⟩ (λm v hw=>?_)) (λu hu=>.ok hu)
 obtain⟨a,i⟩:=v
 dsimp only at hw ⊢
 obtain⟨rfl,h1,rfl⟩:=hw
 cases m with
 | zero=>exact TotX.ite (λq=>absurd q (by simp)) (λ_=>.ret (by simp))
 | succ m =>
  have e1:((m+1:Nat):Int)-1=(m:Int):=by omega
  rw[e1]
  refine TotX.ite (λ_=>?_) (λq=>absurd q (by simp))
  have hx:=lQ ho m
  have hd:=qv l m
  have hb:=bh (kA (m+1) ho)
  have ht:val (l.drop m)≤val l:=by
   have h2:=dK l m (by omega)
   have h3:=(bh (g9 m ho)).1
   have h4:=(bh (kA m ho)).1
   have h5:=zA (show 1≤pw m from kv m) h4
   omega
  rw[gt_l (show m<l.length by omega),aa,wU64 (n:=val (l.drop (m+1))*1000000000) (by omega) (by omega),wU64 (n:=lb l m) (by omega) (by omega),wU64 (by omega) (by omega),wI64 (by omega) (by omega)]
  exact .go ⟨m,by omega,rfl,by omega,by omega⟩
theorem ke{n:Int}(h0:0≤n)(h:n<18446744073709551616):jb n=some (toL n.toNat):=by
 apply Tot.get
 (unfold jb;try delta jB lF gF)
 refine Tot.bind (E:=λu=>u=toL n.toNat) (Tot.loop (λm v=>v.1=(m:Int)∧m<18446744073709551616∧okL v.2∧val v.2+pw v.2.length*v.1=n∧(m=0→trm v.2=v.2)∧v.2.length≤3∧v.1*pw v.2.length≤n∧pw v.2.length≤1000000000*n+1∧(m≠0→pw v.2.length≤n)) _ n.toNat (by grind[fuel]) ⟨by omega,by omega,jc,by simp[val,pw],λ_=>rfl,by simp,by simp[pw],by grind[pw],λ_=>by grind[pw]⟩ (λm v hw=>?_)) (λu hu=>.ok hu)
 obtain⟨a,l⟩:=v
 dsimp only at hw ⊢
 obtain⟨rfl,hm,h1,h2,h3,h4,h5,h6,h7⟩:=hw
 have hp:=kv l.length
 cases m with
 | zero =>
  refine TotX.ite (λq=>absurd q (by simp)) (λ_=>.ret ?_)
  grind[toL_of]
 | succ m =>
  refine TotX.ite (λ_=>?_) (λq=>absurd q (by simp))
  have h7':=h7 (by omega)
  have hl3:l.length≤2:=by
   rcases zW 2 l.length with z | z
   ·exfalso
    rw[show l.length=3 by omega]at h7'
    grind[pw]
   ·exact z
  refine TotX.guard (br (by omega)) ?_
  rw[tdv (by omega),tmd (by omega),wU64 (by omega) (by omega),wU32 (by omega) (by omega)]
  have e:=zQ (((m+1:Nat):Int)) 1000000000
  have hl:(l++[((m+1:Nat):Int) % 1000000000]).length=l.length+1:=by simp
  have hmul:pw l.length*(((m+1:Nat):Int) / 1000000000)*1000000000≤((m+1:Nat):Int)*pw l.length:=by
   have:1000000000*(((m+1:Nat):Int) / 1000000000)≤((m+1:Nat):Int):=by omega
   have:=zA this (zG hp)
   grind
  refine .go ⟨(m+1) / 1000000000,by omega,by omega,by omega,mL.2 ⟨h1,fe.2 ⟨by omega,jc⟩⟩,?_,?_,by simp_all,?_,?_,?_⟩
  grind[iI,qu,fc]
  ·intro z
   exact trm_last (x:=((m+1:Nat):Int) % 1000000000) (by simp) (by omega)
  ·dsimp only
   rw[hl,fc]
   grind
  grind[fc]
  ·intro z
   dsimp only
   rw[hl,fc]
   have h8:1≤((m+1:Nat):Int) / 1000000000:=by omega
   have h9:=zB h8 (show 0≤pw l.length*1000000000 by omega)
   grind
theorem r01_plus_eq{a b:List Int}(ha:okL a)(hb:okL b)(la:a.length≤900000)(lb':b.length≤900000):r01_plus a b=some (toL (val a+val b).toNat):=by
 apply Tot.get
 (unfold r01_plus;try delta jB jC rF)
 refine Tot.bind (E:=λp=>okL p.1∧okL p.2∧p.2.length≤p.1.length∧p.1.length≤max a.length b.length∧val p.1+val p.2=val a+val b) (Tot.ite (λq=>.ok ⟨hb,ha,by grind,by grind,by grind⟩) (λq=>.ok ⟨ha,hb,by simp_all,by simp_all,rfl⟩)) (λp hp=>?_)
 obtain⟨c,d⟩:=p
 dsimp only at hp ⊢
 obtain⟨hc,hd,h1,h2,h3⟩:=hp
 have el:IntKind.i64.wrap ((c.length:Int)+1)=((c.length+1:Nat):Int):=by grind[wI64]
 rw[el,zD]
 refine Tot.guard (qY (by omega)) (Tot.guard (br (by omega)) ?_)
 refine Tot.bind (E:=λv=>okL v.2∧v.2.length=c.length+1∧(v.1=0∨v.1=1)∧val (v.2.take c.length)+v.1*pw c.length=val c+val d) (Tot.guard (bn (by omega)) (Tot.range (λi v=>okL v.2∧v.2.length=c.length+1∧(v.1=0∨v.1=1)∧val (v.2.take i)+v.1*pw i=val (c.take i)+val (d.take i)) _ ⟨oS _,by simp,.inl rfl,by simp[val]⟩ (λi x v hx hr=>?_) (λv hr=>?_))) (λv hv=>?_)
 ·obtain⟨k,out⟩:=v
  dsimp only at hr ⊢
  obtain⟨r1,r2,r3,r4⟩:=hr
  have hx1:=lj hc hx
  have hil:=aF hx
  have hy:=lQ hd i
  refine TotX.bind (E:=λs=>s=x+k+lb d i) (Tot.ite (λq=>?_) (λq=>?_)) (λs hs=>?_)
  ·have q':i<d.length:=by simp_all
   rw[gt_l q',aa]
   exact .ok (by grind[wU32])
  ·have q':d.length≤i:=by simp_all
   exact .ok (by grind[wU32,lb_out])
  ·rw[gt_l (show i<out.length by omega),aa,zD,tdv (by omega),tmd (by omega),wU32 (by omega) (by omega)]
   refine .go ⟨ko r1 (by omega) (by omega),by simp[r2],by omega,?_⟩
   grind[fB,fh,eP,fc]
 ·obtain⟨r1,r2,r3,r4⟩:=hr
  exact .ok ⟨r1,r2,r3,by simp_all[dU]⟩
 ·obtain⟨k,out⟩:=v
  dsimp only at hv ⊢
  obtain⟨r1,r2,r3,r4⟩:=hv
  have ho:okL (out.set c.length k):=ko r1 (by omega) (by omega)
  rw[gt_l (show c.length<out.length by omega),aa,zD,oC ho (by simp;omega),aa]
  refine .ok (congrArg toL (congrArg zZ ?_))
  grind[fB,dU]
theorem r01_minus_eq{a b:List Int}(ha:okL a)(hb:okL b)(la:a.length≤900000)(lb':b.length≤900000)(h:val b≤val a):mI a b=some (toL (val a-val b).toNat):=by
 apply Tot.get
 (unfold mI;try delta jB jC rF)
 refine Tot.guard (qY (by omega)) (Tot.guard (br (by omega)) ?_)
 refine Tot.bind (E:=λv=>okL v∧val v=val a-val b∧v.length=a.length) (Tot.guard (bn (by omega)) (Tot.range (λi v=>okL v.2∧v.2.length=a.length∧(v.1=0∨v.1=1)∧val (v.2.take i)-v.1*pw i=val (a.take i)-val (b.take i)) _ ⟨oS _,by simp,.inl rfl,by simp[val]⟩ (λi x v hx hr=>?_) (λv hr=>?_))) (λv hv=>?_)
 ·obtain⟨k,out⟩:=v
  dsimp only at hr ⊢
  obtain⟨r1,r2,r3,r4⟩:=hr
  have hx1:=lj ha hx
  have hil:=aF hx
  have hy:=lQ hb i
  refine TotX.bind (E:=λs=>s=x+1000000000-k-lb b i) (Tot.ite (λq=>?_) (λq=>?_)) (λs hs=>?_)
  ·have q':i<b.length:=by simp_all
   rw[gt_l q',aa]
   exact .ok (by grind[wU32])
  ·have q':b.length≤i:=by simp_all
   exact .ok (by grind[lb_out,wU32])
  ·refine TotX.bind (E:=λw=>(w.1=0∨w.1=1)∧0≤w.2∧w.2<1000000000∧w.2-1000000000*w.1=x-k-lb b i) (Tot.ite (λq=>.ok ?_) (λq=>.ok ?_)) (λw hw=>?_)
   ·simp only[ge_iff_le,rc]at q
    grind[wU32]
   grind
   ·obtain⟨w1,w2⟩:=w
    dsimp only at hw ⊢
    obtain⟨q1,q2,q3,q4⟩:=hw
    rw[gt_l (show i<out.length by omega),aa,zD]
    refine .go ⟨ko r1 q2 q3,by simp[r2],q1,?_⟩
    grind[fB,eP,fh,fc]
 ·obtain⟨k,out⟩:=v
  dsimp only at hr ⊢
  obtain⟨r1,r2,r3,r4⟩:=hr
  refine .ok ⟨r1,?_,r2⟩
  rw[dU (by omega),dU (zE _)]at r4
  have hb1:=bh r1
  have ha1:=bh ha
  have hbt:=bh (g9 a.length hb)
  have hbd:=bh (kA a.length hb)
  have hp:=kv a.length
  have hbb:val b=val (b.take a.length):=by
   rcases Nat.le_total b.length a.length with q | q
   ·rw[dU q]
   ·have h1:=dK b a.length q
    rcases zT 0 (val (b.drop a.length))with z | z
    ·have:=zB (show 1≤val (b.drop a.length) by omega) (zG hp)
     omega
    grind
  grind
 ·obtain⟨h1,h2,h3⟩:=hv
  rw[oC h1 (by omega),aa,h2]
  exact .ok rfl
theorem r01_times_eq{a b:List Int}(ha:okL a)(hb:okL b)(la:a.length≤500000)(lb':b.length≤500000):oD a b=some (toL (val a*val b).toNat):=by
 apply Tot.get
 (unfold oD;try delta jB rF)
 have hlen:IntKind.i64.wrap ((a.length:Int)+(b.length:Int))=((a.length+b.length:Nat):Int):=by grind[wI64]
 rw[hlen,zD]
 refine Tot.guard (qY (by omega)) (Tot.guard (br (by omega)) ?_)
 refine Tot.bind (E:=λv=>okL v∧val v=val a*val b∧v.length=a.length+b.length) (Tot.guard (bn (by omega)) (Tot.range (λi v=>okL v∧v.length=a.length+b.length∧val (v.take (i+b.length))=val (a.take i)*val b) _ ⟨oS _,by simp,?_⟩ (λi x v hx hr=>?_) (λv hr=>?_))) (λv hv=>?_)
 simp_all[val,val_rep]
 ·obtain⟨r1,r2,r3⟩:=hr
  have hx1:=lj ha hx
  have hil:=aF hx
  refine TotX.bind (E:=λu=>okL u∧u.length=a.length+b.length∧val (u.take (i+1+b.length))=val (a.take (i+1))*val b) (Tot.bind (E:=λu=>okL u.2∧u.2.length=a.length+b.length∧(0≤u.1∧u.1<1000000000)∧val (u.2.take (i+b.length))+u.1*pw (i+b.length)=val (v.take (i+b.length))+x*val b*pw i) (Tot.guard (bn (by omega)) (Tot.range (λk u=>okL u.2∧u.2.length=a.length+b.length∧(0≤u.1∧u.1<1000000000)∧u.2.drop (i+k)=v.drop (i+k)∧val (u.2.take (i+k))+u.1*pw (i+k)=val (v.take (i+k))+x*val (b.take k)*pw i) _ ⟨r1,r2,by omega,rfl,by simp[val]⟩ (λk y u hy hu=>?_) (λu hu=>?_))) (λu hu=>?_)) (λu hu=>.go hu)
  ·obtain⟨c,out⟩:=u
   dsimp only at hu ⊢
   obtain⟨u1,u2,u3,u4,u5⟩:=hu
   have hy1:=lj hb hy
   have hkl:=aF hy
   have hik:IntKind.i64.wrap ((i:Int)+(k:Int))=((i+k:Nat):Int):=by grind[wI64]
   rw[hik,zD,gt_l (show i+k<out.length by omega),aa,aa]
   have ho:=lQ u1 (i+k)
   have hov:lb out (i+k)=lb v (i+k):=pL u4
   have hm:=mulB hx1 hy1
   rw[wU64 (n:=x) (by omega) (by omega),wU64 (n:=y) (by omega) (by omega),wU64 (n:=x*y) (by omega) (by omega),wU64 (n:=lb out (i+k)) (by omega) (by omega),wU64 (n:=c+lb out (i+k)) (by omega) (by omega),wU64 (n:=c+lb out (i+k)+x*y) (by omega) (by omega),tdv (by omega),tmd (by omega),wU64 (by omega) (by omega),wU32 (by omega) (by omega)]
   refine .go ⟨ko u1 (by omega) (by omega),by simp[u2],by omega,?_,?_⟩
   grind[lK,pa]
   ·rw[show i+(k+1)=i+k+1 by omega,fB (by omega),eP v,fh hy,fc,←hov,pw_add]
    grind[pw_add]
  ·obtain⟨u1,u2,u3,u4,u5⟩:=hu
   exact .ok ⟨u1,u2,u3,by simp_all⟩
  ·obtain⟨c,out⟩:=u
   dsimp only at hu ⊢
   obtain⟨u1,u2,u3,u5⟩:=hu
   have hik:IntKind.i64.wrap ((i:Int)+(b.length:Int))=((i+b.length:Nat):Int):=by grind[wI64]
   rw[hik,zD,gt_l (show i+b.length<out.length by omega),aa,wU32 (by omega) (by omega)]
   refine .ok ⟨ko u1 (by omega) (by omega),by simp[u2],?_⟩
   grind[fB,fh]
 ·obtain⟨r1,r2,r3⟩:=hr
  refine .ok ⟨r1,?_,r2⟩
  grind
 ·obtain⟨h1,h2,h3⟩:=hv
  rw[oC h1 (by omega),aa,h2]
  exact .ok rfl
theorem val_toL(h:0≤z):val (toL z.toNat)=z:=by grind[toL_val]
theorem toL_lenI(h0:0≤z)(h:z<pw n):(toL z.toNat).length≤n:=toL_len (by omega)
theorem sg_decP:decide (sg z>0)=decide (z>0):=by
 (simp_all[sg];omega)
set_option maxHeartbeats 4000000 in
theorem r01_parts_eq{a b:List Int}(ha:okL a)(hb:okL b)(tb:trm b=b)(la:a.length≤2)(lb0:b.length≤2)(h0:val b≠0):oG a b=some (toL (val a / val b).toNat,toL (val a % val b).toNat):=by
 have hbA:=bh ha
 have hbB:=bh hb
 apply Tot.get
 (unfold oG;try delta jV)
 refine Tot.ite (λq=>?_) (λq=>?_)
 ·simp only[Bool.and_eq_true,rc]at q
  have p2:pw 2=1000000000000000000:=by simp[pw]
  have a1:val a<pw 2:=zV hbA.2 (oJ (by omega))
  have b1:val b<pw 2:=zV hbB.2 (oJ (by omega))
  have hq0:0≤val a / val b:=zU hbA.1 hbB.1
  have hq1:val a / val b≤val a:=Int.ediv_le_self _ hbA.1
  have hr0:=zY (val a) h0
  have hr1:=zO (val a) (show 0<val b by omega)
  rw[lY ha (by omega) (by omega),aa,lY hb (by omega) (by omega),aa,tdv hbA.1,tmd hbA.1,wU64 hq0 (by omega)]
  refine Tot.guard (by simp_all) ?_
  rw[ke hq0 (by omega),aa]
  refine Tot.guard (by simp_all) ?_
  rw[ke hr0 (by omega),aa]
  exact .ok rfl
 grind
theorem ez(neg:Bool)(h0:0≤z)(hl:(toL z.toNat).length≤1000000):dQ neg (toL z.toNat)=some (ofI (if neg=true then -z else z)):=by
 simp_all[nC,toL_ok,val_toL]
theorem toL_Bd(h0:0≤z)(h:Bd n z):(toL z.toNat).length≤n:=toL_lenI h0 (by grind[Bd])
theorem gl{n:Int}(h:-9223372036854775808≤n)(h2:n≤9223372036854775807):fa n=some (ofI n):=by
 have hb:∀z:Int,0≤z→z<18446744073709551616→(toL z.toNat).length≤3:=λz h0 h1=>toL_lenI h0 (by grind[pw])
 apply Tot.get
 unfold fa
 refine Tot.ite (λq=>?_) (λq=>?_)
 ·have q':n<0:=by simpa using q
  rw[abs_u64 h h2 q',ke (by omega) (by omega),aa,ez true (by omega) (zH (hb _ (by omega) (by omega)) (by omega)),aa]
  exact .ok (kf (by simp;omega))
 ·have q':0≤n:=by simp_all
  rw[wU64 q' (by omega),ke q' (by omega),aa,ez false q' (zH (hb _ (by omega) (by omega)) (by omega)),aa]
  exact .ok rfl
theorem r01_Sign_eq(z:Int):r01_Sign (ofI z)=some (sg z):=by
 unfold r01_Sign
 by_cases h2:z=0
 ·subst h2;rfl
 ·have h3:(ofI z).Limbs.length≠0:=λq=>h2 (l9.1 q)
  rw[qU (by simp_all),dE]
  by_cases h:z<0
  simp_all[sg_neg]
  ·rw[qU (by simpa using h),sg_pos (by omega)]
theorem r01_cmp_ofI(ha:Bd n a)(hn:n≤1000000):lh (ofI a).Limbs (ofI b).Limbs=some (sg ((a.natAbs:Int)-b.natAbs)):=by
 rw[cmp_len (cu a) (cu b) (ofI_trm a) (ofI_trm b) (zH ha.len hn),bM,bM]
theorem Bd.absI(h:Bd n a):Bd n (a.natAbs:Int):=by simp_all[Bd]
theorem r01_Add_eq(ha:Bd n a)(hb:Bd m b)(hn:n≤900000)(hm:m≤900000):oI (ofI a) (ofI b)=some (ofI (a+b)):=by
 have la:=ha.len;have lb:=hb.len
 apply Tot.get
 unfold oI
 rw[dE a,dE b]
 refine Tot.ite (λq=>?_) (λq=>?_)
 ·rw[dec_beq]at q
  rw[r01_plus_eq (cu a) (cu b) (by omega) (by omega),aa,bM,bM,ez _ (by omega) (zH (toL_Bd (by omega) (ha.absI.add hb.absI)) (by omega)),aa]
  refine .ok (kf ?_)
  grind
 ·have q':¬(a<0↔b<0):=λz=>by simp_all
  rw[r01_cmp_ofI ha (by omega),aa]
  refine Tot.ite (λz=>?_) (λz=>?_)
  ·have z':(b.natAbs:Int)≤a.natAbs:=by
    grind[sg_neg]
   rw[r01_minus_eq (cu a) (cu b) (by omega) (by omega) (by simp_all[bM]),aa,bM,bM,ez _ (by omega) (zH (toL_Bd (by omega) (ha.absI.le (by omega))) (by omega)),aa]
   refine .ok (kf ?_)
   grind
  ·have z':(a.natAbs:Int)≤b.natAbs:=by
    (simp_all[sg];omega)
   rw[r01_minus_eq (cu b) (cu a) (by omega) (by omega) (by simp_all[bM]),aa,bM,bM,ez _ (by omega) (zH (toL_Bd (by omega) (hb.absI.le (by omega))) (by omega)),aa]
   refine .ok (kf ?_)
   grind
theorem r01_Neg_eq(ha:Bd n a)(hn:n≤1000000):qC (ofI a)=some (ofI (-a)):=by
 have la:=ha.len
 unfold qC
 rw[nC _ _ (by omega) (cu a),aa,bM,dE]
 grind
theorem r01_Sub_eq(ha:Bd n a)(hb:Bd m b)(hn:n≤900000)(hm:m≤900000):r01_Sub (ofI a) (ofI b)=some (ofI (a-b)):=by
 unfold r01_Sub
 rw[r01_Neg_eq hb (by omega),aa,r01_Add_eq ha hb.neg hn hm,aa,Int.sub_eq_add_neg]
theorem r01_Mul_eq(ha:Bd n a)(hb:Bd m b)(hn:n≤400000)(hm:m≤400000):mn (ofI a) (ofI b)=some (ofI (a*b)):=by
 have la:=ha.len;have lb:=hb.len
 have h0:(0:Int)≤(a.natAbs:Int)*b.natAbs:=zK (by omega) (by omega)
 unfold mn
 rw[r01_times_eq (cu a) (cu b) (by omega) (by omega),aa,bM,bM,ez _ h0 (zH (toL_Bd h0 (ha.absI.mul hb.absI)) (by omega)),aa,dE,dE,mul_sign]
theorem r01_DivMod_eq(ha:Bd n a)(hb:Bd m b)(hn:n≤2)(hm:m≤2)(h0:0<b):kP (ofI a) (ofI b)=some (ofI (a / b),ofI (a % b),0):=by
 have la:=ha.len;have lb:=hb.len
 apply Tot.get
 (unfold kP;try delta jC jV)
 have hb0:((((ofI b).Limbs.length:Int)==0))=false:=by
  grind[l9]
 rw[hb0]
 refine Tot.ite (λq=>by cases q) (λ_=>?_)
 rw[r01_parts_eq (cu a) (cu b) (ofI_trm b) (by omega) (by omega) (by grind[bM]),aa,bM,bM]
 dsimp only
 have eb:(b.natAbs:Int)=b:=by omega
 rw[eb]
 have hx0:(0:Int)≤(a.natAbs:Int) / b:=zU (by omega) (by omega)
 have hy0:=zY (a.natAbs:Int) (show b≠0 by omega)
 have hy1:=zO (a.natAbs:Int) h0
 have hxb:Bd n ((a.natAbs:Int) / b):=ha.absI.ediv h0
 have hyb:Bd m ((a.natAbs:Int) % b):=hb.emod h0
 have hsum:=zQ (a.natAbs:Int) b
 have hly:=toL_Bd hy0 hyb
 have hy00:((((toL ((a.natAbs:Int) % b).toNat).length:Nat):Int)>0)↔(a.natAbs:Int) % b≠0:=by
  grind[toL_nil,List.length_eq_zero_iff]
 rw[ez _ hx0 (zH (toL_Bd hx0 hxb) (by omega)),aa,ez _ hy0 (by omega),aa,dE a,dE b,qZ (show ¬b<0 by omega)]
 generalize (a.natAbs:Int) / b=x at *
 generalize hyy:(a.natAbs:Int) % b=y at *
 by_cases ha0:a<0
 ·have ea:(a.natAbs:Int)=-a:=by omega
  rw[ea]at hsum
  rw[qY ha0]
  simp only[beq_false,Bool.not_false,zX,qX,Bool.and_true]
  by_cases hy:y=0
  ·rw[qZ (by omega)]
   subst hy
   have hu:=(zI (a:=a) (b:=b) (r:=0) (q:=-x) h0).2 ⟨by grind,by omega,h0⟩
   rw[hu.1,hu.2]
   exact .ok rfl
  ·rw[qY (hy00.2 hy)]
   have hu:=(zI (a:=a) (b:=b) (r:=-y+b) (q:=-x-1) h0).2 ⟨by grind,by omega,by omega⟩
   rw[hu.1,hu.2]
   have e1:=r01_Sub_eq hxb.neg (Bd.i64 (z:=1) (by omega) (by omega)) (by omega) (by omega)
   have e2:=r01_Add_eq hyb.neg hb (by omega) (by omega)
   rw[gl (by omega) (by omega),aa,e1,aa,e2,aa]
   exact .ok rfl
 ·have ea:(a.natAbs:Int)=a:=by omega
  rw[ea]at hsum
  have hu:=(zI (a:=a) (b:=b) (r:=y) (q:=x) h0).2 ⟨hsum,hy0,hy1⟩
  rw[hu.1,hu.2,qZ ha0]
  simp only[beq_self_eq_true,zX,zJ,qW,Bool.and_false]
  exact .ok rfl
theorem r01_GCD_eq(ha:Bd n a)(hb:Bd n b)(hn:n≤2):r01_GCD (ofI a) (ofI b)=some (ofI ((zM a b:Nat):Int)):=by
 have la:=ha.len;have lb:=hb.len
 have p2:pw 2=1000000000000000000:=by simp[pw]
 have x1:(a.natAbs:Int)<pw 2:=(ha.mono hn:Bd 2 a)
 have y1:(b.natAbs:Int)<pw 2:=(hb.mono hn:Bd 2 b)
 apply Tot.get
 (unfold r01_GCD;try delta jB lF jV)
 have hlp:∀{f:Unit→Option (Ex Unit Unit)},f ()=some (.ret ())→dR f fuel ()=some ():=by
  simp_all[fuel,dR]
 rw[hlp (qU (by simp;omega)),aa]
 refine Tot.ite (λq=>?_) (λq=>?_)
 ·have hb0:b=0:=l9.1 (by simp_all)
  subst hb0
  rw[nC _ _ (by omega) (cu a),aa,bM]
  simp
  exact .ok rfl
 ·have hb0:b≠0:=λz=>by grind[l9]
  rw[lY (cu a) (by omega) (by grind[bM]),aa,lY (cu b) (by omega) (by grind[bM]),aa,bM,bM,gcd_loop a.natAbs b.natAbs (by omega),aa]
  have hgl:Nat.gcd a.natAbs b.natAbs≤b.natAbs:=Nat.gcd_le_right _ (by omega)
  rw[ke (by omega) (by omega),aa,ez _ (by omega) (zH (toL_lenI (by omega) (show ((Nat.gcd a.natAbs b.natAbs:Nat):Int)<pw 2 by omega)) (by omega)),aa]
  exact .ok rfl
def ofQ(q:Rat):ah:=⟨ofI q.num,ofI (q.den:Int)⟩
def BQ(n:Nat)(q:Rat):Prop:=Bd n q.num∧Bd n (q.den:Int)
theorem BQ.mono{q:Rat}(h:BQ n q)(hm:n≤m):BQ m q:=⟨h.1.mono hm,h.2.mono hm⟩
theorem divInt_BQ{n:Int}(h:Bd m n)(h2:Bd m d)(h0:d≠0):BQ m (Rat.divInt n d):=by
 have key:∀n d:Int,Bd m n→Bd m d→0<d→BQ m (Rat.divInt n d):=by
  intro n d h h2 h0
  obtain⟨e1,e2⟩:=mi (n:=n) h0
  have hg:=qO (n:=n) (d:=d) (by omega)
  exact⟨by rw[e1];exact h.ediv hg,by rw[e2];exact h2.ediv hg⟩
 rcases zT d 0 with z | z
 ·rw[←qQ]
  exact key _ _ h.neg h2.neg (by omega)
 grind
theorem BQ.add{a b:Rat}(ha:BQ n a)(hb:BQ m b):BQ (n+m+1) (a+b):=by
 rw[←pW]
 have h1:=(ha.1.mul hb.2).add (hb.1.mul ha.2)
 have h2:=ha.2.mul hb.2
 exact divInt_BQ (h1.mono (by omega)) (h2.mono (by omega)) (Int.ne_of_gt (Int.mul_pos (den_pos a) (den_pos b)))
theorem BQ.mul{a b:Rat}(ha:BQ n a)(hb:BQ m b):BQ (n+m) (a*b):=by
 rw[←mul_divInt]
 exact divInt_BQ (ha.1.mul hb.1) (ha.2.mul hb.2) (Int.ne_of_gt (Int.mul_pos (den_pos a) (den_pos b)))
theorem BQ.neg{a:Rat}(ha:BQ n a):BQ n (-a):=⟨ha.1.neg,ha.2⟩
theorem BQ.int(h:Bd n z)(hn:1≤n):BQ n (z:Rat):=⟨h,(Bd.mono (n:=1) (by simp_all[Bd,pw]) hn)⟩
theorem sg_lt:(decide (sg z<0))=decide (z<0):=sg_dec
theorem sg_eq0:(sg z==0)=decide (z=0):=by
 grind[sg]
theorem ra_unit_eq:ra_unit=some (ofI 1):=by
 simp_all[ra_unit,eJ]
theorem lW{n:Int}(hn:Bd m n)(hd:Bd m d)(hm:m≤100000)(h0:d≠0):gk (ofI n) (ofI d)=some (ofQ (Rat.divInt n d)):=by
 apply Tot.get
 (unfold gk;try delta jC)
 rw[it_Sign_eq,aa,sg_lt]
 refine Tot.bind (E:=λv=>∃a b:Int,v=(ofI a,ofI b)∧0<b∧Bd m a∧Bd m b∧Rat.divInt a b=Rat.divInt n d) (Tot.ite (λq=>?_) (λq=>.ok ⟨n,d,rfl,by grind,hn,hd,rfl⟩)) (λv hv=>?_)
 ·rw[it_Neg_eq hn (by omega),aa,it_Neg_eq hd (by omega),aa]
  exact .ok ⟨-n,-d,rfl,by simp_all,hn.neg,hd.neg,qQ n d⟩
 ·obtain⟨a,b,rfl,hb0,ha,hb,he⟩:=hv
  dsimp only
  have hg:=qO (n:=a) (d:=b) (by omega)
  have hgb:Bd m ((zM a b:Nat):Int):=hb.gcd (by omega)
  obtain⟨e1,e2⟩:=mi (n:=a) hb0
  rw[he]at e1 e2
  rw[it_GCD_eq ha hb (by omega),aa,ra_unit_eq,aa,kh hgb (Bd.i64 (z:=1) (by omega) (by omega)) (by omega) (by omega),aa]
  refine Tot.bind (E:=λv=>v=(ofI (a / (zM a b:Int)),ofI (b / (zM a b:Int)))) (Tot.ite (λq=>?_) (λq=>.ok ?_)) (λv hv=>?_)
  ·unfold ra_exact
   rw[mh ha hgb (by omega) (by omega) hg,aa,aa,mh hb hgb (by omega) (by omega) hg,aa,aa]
   exact .ok rfl
  ·have h1:(zM a b:Int)=1:=by
    grind[sg_pos]
   simp_all
  ·subst hv
   dsimp only
   refine .ok ?_
   simp_all[ofQ]
theorem ja{a b:Rat}(ha:BQ n a)(hb:BQ m b)(hn:n+m≤90000):lf (ofQ a) (ofQ b)=some (ofQ (a+b)):=by
 apply Tot.get
 unfold lf
 show Tot (ac (ls (ofI (a.den:Int)) (ofI (b.den:Int))) _) _
 rw[kh ha.2 hb.2 (by omega) (by omega),aa,sg_eq0]
 refine Tot.ite (λq=>?_) (λq=>?_)
 ·have hd:a.den=b.den:=by grind
  show Tot (ac (oZ (ofI a.num) (ofI b.num)) λy2=>ac (gk y2 (ofI (a.den:Int))) λy3=>some y3) _
  have hs:=ha.1.add hb.1
  rw[oY ha.1 hb.1 (by omega) (by omega),aa,lW (m:=max n m+1) hs (ha.2.mono (by omega)) (by omega) (Int.ne_of_gt (den_pos a)),aa,add_same hd]
  exact .ok rfl
 ·show Tot (ac (fW (ofI a.num) (ofI (b.den:Int))) λy4=>ac (fW (ofI b.num) (ofI (a.den:Int))) λy5=>ac (oZ y4 y5) λy6=>ac (fW (ofI (a.den:Int)) (ofI (b.den:Int))) λy7=>ac (gk y6 y7) λy8=>some y8) _
  have h1:=ha.1.mul hb.2
  have h2:=hb.1.mul ha.2
  have h3:=ha.2.mul hb.2
  have h4:=h1.add h2
  rw[gn ha.1 hb.2 (by omega) (by omega),aa,gn hb.1 ha.2 (by omega) (by omega),aa,oY h1 h2 (by omega) (by omega),aa,gn ha.2 hb.2 (by omega) (by omega),aa,lW (m:=n+m+1) (h4.mono (by omega)) (h3.mono (by omega)) (by omega) (Int.ne_of_gt (Int.mul_pos (den_pos a) (den_pos b))),aa,pW]
  exact .ok rfl
theorem eG{a b:Rat}(ha:BQ n a)(hb:BQ m b)(hn:n+m≤90000):im (ofQ a) (ofQ b)=some (ofQ (a*b)):=by
 unfold im
 show ac (fW (ofI a.num) (ofI b.num)) (λy1=>ac (fW (ofI (a.den:Int)) (ofI (b.den:Int))) λy2=>ac (gk y1 y2) λy3=>some y3)=_
 rw[gn ha.1 hb.1 (by omega) (by omega),aa,gn ha.2 hb.2 (by omega) (by omega),aa,lW (ha.1.mul hb.1) (ha.2.mul hb.2) (by omega) (Int.ne_of_gt (Int.mul_pos (den_pos a) (den_pos b))),aa,mul_divInt]
theorem oy{a:Rat}(ha:BQ n a)(hn:n≤100000):qk (ofQ a)=some (ofQ (-a)):=by
 unfold qk
 show ac (it_Neg (ofI a.num)) _=_
 rw[it_Neg_eq ha.1 (by omega)];rfl
theorem bt(a:Rat):bG (ofQ a)=some (sg a.num):=by
 unfold bG
 show ac (qI (ofI a.num)) _=_
 rw[it_Sign_eq];rfl
theorem ra_Floor_eq{a:Rat}(ha:BQ n a)(hn:n≤100000):pF (ofQ a)=some (ofI a.floor):=by
 unfold pF
 show ac (jf (ofI a.num) (ofI (a.den:Int))) _=_
 rw[mh ha.1 ha.2 (by omega) (by omega) (den_pos a),Rat.floor_def];rfl
theorem r02_unit_eq:r02_unit=some (ofI 1):=by
 simp_all[r02_unit,gl]
theorem r02_Of_eq{n:Int}(hn:Bd m n)(hd:Bd m d)(hm:m≤2)(h0:d≠0):r02_Of (ofI n) (ofI d)=some (ofQ (Rat.divInt n d)):=by
 apply Tot.get
 (unfold r02_Of;try delta jC)
 rw[r01_Sign_eq,aa,sg_lt]
 refine Tot.bind (E:=λv=>∃a b:Int,v=(ofI a,ofI b)∧0<b∧Bd m a∧Bd m b∧Rat.divInt a b=Rat.divInt n d) (Tot.ite (λq=>?_) (λq=>.ok ⟨n,d,rfl,by grind,hn,hd,rfl⟩)) (λv hv=>?_)
 ·rw[r01_Neg_eq hn (by omega),aa,r01_Neg_eq hd (by omega),aa]
  exact .ok ⟨-n,-d,rfl,by simp_all,hn.neg,hd.neg,qQ n d⟩
 ·obtain⟨a,b,rfl,hb0,ha,hb,he⟩:=hv
  dsimp only
  have hg:=qO (n:=a) (d:=b) (by omega)
  have hgb:Bd m ((zM a b:Nat):Int):=hb.gcd (by omega)
  obtain⟨e1,e2⟩:=mi (n:=a) hb0
  rw[he]at e1 e2
  rw[r01_GCD_eq ha hb (by omega),aa,r01_DivMod_eq ha hgb (by omega) (by omega) hg,aa,r01_DivMod_eq hb hgb (by omega) (by omega) hg,aa]
  refine .ok ?_
  simp_all[ofQ]
theorem r02_Frac_eq{n:Int}(h1:-1000000000<n)(h2:n<1000000000)(h3:-1000000000<d)(h4:d<1000000000)(h0:d≠0):pH n d=some (ofQ (Rat.divInt n d)):=by
 (unfold pH;try delta jC)
 rw[show (d==0)=false from beq_eq_false_iff_ne.2 h0]
 simp only[zJ,qW,aa]
 rw[gl (by omega) (by omega),aa,gl (by omega) (by omega),aa,r02_Of_eq (m:=1) (by grind[Bd,pw]) (by grind[Bd,pw]) (by omega) h0]
 rfl
theorem r02_AddI_eq{a:Rat}(ha:BQ 1 a)(h1:-100000≤z)(h2:z≤100000):mm (ofQ a) (ofQ (z:Rat))=some (ofQ (a+z)):=by
 have p1:pw 1=1000000000:=rfl
 have p2:pw 2=1000000000000000000:=by simp[pw]
 have hb:Bd 1 z:=by grind[Bd]
 have e3:(z*(a.den:Int)).natAbs≤100000*1000000000:=by
  have q:Bd 1 (a.den:Int):=ha.2
  unfold Bd at q
  rw[Int.natAbs_mul]
  exact zL (by omega) (by omega)
 have q1:Bd 1 a.num:=ha.1
 have q2:Bd 1 (a.den:Int):=ha.2
 unfold mm
 show ac (mn (ofI a.num) (ofI 1)) (λy4=>ac (mn (ofI z) (ofI (a.den:Int))) λy5=>ac (oI y4 y5) λy6=>ac (mn (ofI (a.den:Int)) (ofI 1)) λy7=>ac (r02_Of y6 y7) λy8=>some y8)=_
 have b1:Bd 1 1:=by grind[Bd]
 rw[r01_Mul_eq ha.1 b1 (by omega) (by omega),aa,r01_Mul_eq hb ha.2 (by omega) (by omega),aa,r01_Add_eq (ha.1.mul b1) (hb.mul ha.2) (by omega) (by omega),aa,r01_Mul_eq ha.2 b1 (by omega) (by omega),aa]
 have k1:Bd 2 (a.num*1+z*(a.den:Int)):=by (simp_all[Bd];omega)
 have k2:Bd 2 ((a.den:Int)*1):=by rw[Int.mul_one];exact ha.2.mono (by omega)
 rw[r02_Of_eq k1 k2 (by omega) (by rw[Int.mul_one];exact Int.ne_of_gt (den_pos a)),aa]
 have:=pW a (z:Rat)
 simp_all
theorem ofQ_int(z:Int):ofQ (z:Rat)=⟨ofI z,ofI 1⟩:=rfl
theorem km(h1:-9223372036854775808≤z)(h2:z≤9223372036854775807):dt z=some (ofQ (z:Rat)):=by
 simp_all[dt,gl,r02_unit_eq,ofQ_int]
def ofR(A B C:Rat):aL:=⟨ofQ A,ofQ B,ofQ C⟩
theorem sq_nonneg(b:Rat):0≤b*b:=by
 rcases Rat.le_total (a:=0) (b:=b)with h | h
 grind[Rat.mul_nonneg]
 ·have:0≤-b:=by grind
  have:=Rat.mul_nonneg this this
  grind
end Go.Proofs.YtphbhdoljnokkaaGreatDoor
