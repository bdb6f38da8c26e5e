/-
  Lm, Lq, Li, Ia, Ib, Ic, Id, Ie, If, Ig, Ih, Ij, Ik in one text.
-/
import Derived.Test.YtgbafiejgciilaaGreatDoorPz
import Derived.Test.YtgbafiejgciilaaGreatDoorMI
import Derived.Test.YtgbafiejgciilaaGreatDoorMQ
open Int renaming mul_le_mul_of_nonneg_right → zA,mul_le_mul_of_nonneg_left → zB,toNat_natCast → zE,le_of_lt → zG,lt_or_le → zI,emod_add_mul_ediv → zK,natAbs_natCast → zL,gcd → zO,mul_nonneg → zP,ediv_emod_unique → zR,mul_comm → zX,le_ediv_iff_mul_le → zZ
open Nat renaming le_refl → zD,min_eq_left → zF,add_assoc → zT,lt_or_ge → zW
open List renaming drop_of_length_le → zH,length_cons → zM,length_take → zN,drop_drop → zQ,drop_eq_getElem_cons → zV,take_of_length_le → zY
open Bool renaming false_eq_true → zJ,not_true → zU
namespace Go.Proofs.YtgbafiejgciilaaGreatDoor
open Go.RowKit
def val:List Int→Int
 | []=>0
 | x::l=>x+1000000000*val l
def okL(l:List Int):Prop:=∀x∈l,0≤x∧x<1000000000
def pw:Nat→Int
 | 0=>1
 | n+1=>1000000000*pw n
theorem jb:∀n,0<pw n
 | 0=>by simp[pw]
 | n+1=>by have:=jb n;simp only[pw];omega
theorem ce(n:Nat):pw (n+1)=1000000000*pw n:=rfl
theorem pw_add(a:Nat):∀b,pw (a+b)=pw a*pw b
 | 0=>by simp[pw]
 | b+1=>by rw[←zT,ce,ce,pw_add a b,Int.mul_left_comm]
theorem pw_mono{a b:Nat}(h:a≤b):pw a≤pw b:=by
 induction b with
 | zero=>rw[show a=0 by omega];exact Int.le_refl _
 | succ b ih =>
  rcases Nat.eq_or_lt_of_le h with e | e
  ·rw[e];exact Int.le_refl _
  ·have:=ih (by omega);have:=jb b;rw[ce];omega
theorem dZ(x:Int)(l:List Int):val (x::l)=x+1000000000*val l:=rfl
theorem eN:∀(a b:List Int),val (a++b)=val a+pw a.length*val b
 | [],b=>by simp[val,pw]
 | x::a,b=>by
  rw[List.cons_append,dZ,dZ,eN a b,zM,ce]
  grind
theorem d9:okL []:=λx h=>by simp at h
theorem bJ{x:Int}{l:List Int}:okL (x::l)↔(0≤x∧x<1000000000)∧okL l:=by
 unfold okL;simp
theorem jU{a b:List Int}:okL (a++b)↔okL a∧okL b:=by
 unfold okL
 constructor
 ·exact λh=>⟨λx hx=>h x (by simp[hx]),λx hx=>h x (by simp[hx])⟩
 ·rintro⟨h1,h2⟩ x hx
  rcases List.mem_append.1 hx with q | q
  ·exact h1 x q
  ·exact h2 x q
theorem okL_get{l:List Int}{i:Nat}{x:Int}(h:okL l)(hx:l[i]? = some x):0≤x∧x<1000000000:=h x (List.mem_of_getElem? hx)
theorem kW{l:List Int}{i:Nat}{y:Int}(h:okL l)(h0:0≤y)(h1:y<1000000000):okL (l.set i y):=by
 intro x hx
 rcases List.mem_or_eq_of_mem_set hx with q | q
 ·exact h x q
 ·rw[q];exact⟨h0,h1⟩
theorem eT{l:List Int}(n:Nat)(h:okL l):okL (l.take n):=λx hx=>h x (List.mem_of_mem_take hx)
theorem jT{l:List Int}(n:Nat)(h:okL l):okL (l.drop n):=λx hx=>h x (List.mem_of_mem_drop hx)
theorem okL_rep(n:Nat):okL (List.replicate n 0):=λx hx=>by rw[List.eq_of_mem_replicate hx];omega
theorem val_rep:∀n,val (List.replicate n 0)=0
 | 0=>rfl
 | n+1=>by rw[List.replicate_succ,dZ,val_rep n];rfl
theorem ba:∀{l:List Int},okL l→0≤val l∧val l<pw l.length
 | [],_=>by simp[val,pw]
 | x::l,h=>by
  obtain⟨h1,h2⟩:=bJ.1 h
  have:=ba h2
  rw[dZ,zM,ce]
  omega
theorem bV(l:List Int)(n:Nat)(h:n≤l.length):val l=val (l.take n)+pw n*val (l.drop n):=by
 have:=eN (l.take n) (l.drop n)
 rw[List.take_append_drop,zN,zF h]at this
 exact this
theorem eV{l:List Int}{i:Nat}{x:Int}(h:l[i]? = some x):val (l.take (i+1))=val (l.take i)+x*pw i:=by
 have hl:=ao h
 rw[List.take_add_one,h,eN,zN,zF (by omega)]
 simp only[Option.toList,val]
 grind
theorem eW{l:List Int}{i:Nat}{x:Int}(h:l[i]? = some x):val (l.drop i)=x+1000000000*val (l.drop (i+1)):=by
 have:l.drop i=x::l.drop (i+1):=by
  have hl:=ao h
  rw[zV hl]
  rw[List.getElem?_eq_getElem hl]at h
  injection h with h
  rw[h]
 rw[this,dZ]
def trm:List Int→List Int
 | []=>[]
 | x::l=>if x=0∧trm l=[]then []else x::trm l
theorem gI:∀l,val (trm l)=val l
 | []=>rfl
 | x::l=>by
  unfold trm
  split
  ·rename_i h
   rw[dZ,←gI l,h.2,h.1];rfl
  ·rw[dZ,dZ,gI l]
theorem jv:∀{l:List Int},okL l→okL (trm l)
 | [],_=>d9
 | x::l,h=>by
  obtain⟨h1,h2⟩:=bJ.1 h
  unfold trm
  split
  ·exact d9
  ·exact bJ.2 ⟨h1,jv h2⟩
theorem trm_trm:∀l,trm (trm l)=trm l
 | []=>rfl
 | x::l=>by
  by_cases h:x=0∧trm l=[]
  ·have:trm (x::l)=[]:=by rw[trm,if_pos h]
   rw[this];rfl
  ·have:trm (x::l)=x::trm l:=by rw[trm,if_neg h]
   rw[this]
   rw[trm,trm_trm l,if_neg h]
theorem trm_le:∀l:List Int,(trm l).length≤l.length
 | []=>zD _
 | x::l=>by
  unfold trm
  have:=trm_le l
  split
  ·simp
  ·simp only[zM];omega
theorem trm_tail{x:Int}{l:List Int}(h:trm (x::l)=x::l):trm l=l:=by
 rw[trm]at h
 split at h
 ·simp at h
 ·injection h
theorem trm_zero:∀{l:List Int},okL l→val l=0→trm l=[]
 | [],_,_=>rfl
 | x::l,h,hv=>by
  obtain⟨h1,h2⟩:=bJ.1 h
  have hb:=ba h2
  rw[dZ]at hv
  rw[trm,if_pos ⟨by omega,trm_zero h2 (by omega)⟩]
theorem val_inj:∀{a b:List Int},okL a→okL b→trm a=a→trm b=b→val a=val b→a=b
 | [],b,_,hb,_,tb,h=>by rw[←tb,trm_zero hb (by rw[←h];rfl)]
 | x::a,[],ha,_,ta,_,h=>by
  have:=trm_zero ha (by rw[h];rfl)
  rw[ta]at this;simp at this
 | x::a,y::b,ha,hb,ta,tb,h=>by
  obtain⟨h1,h2⟩:=bJ.1 ha
  obtain⟨h3,h4⟩:=bJ.1 hb
  rw[dZ,dZ]at h
  have hx:x=y:=by omega
  rw[hx,val_inj h2 h4 (trm_tail ta) (trm_tail tb) (by omega)]
theorem trm_last:∀{l:List Int} {x:Int},l.getLast? = some x→x≠0→trm l=l
 | [],x,h,_=>by simp at h
 | [y],x,h,h0=>by
  simp at h;subst h
  simp[trm,h0]
 | y::z::l,x,h,h0=>by
  rw[List.getLast?_cons_cons]at h
  have:=trm_last h h0
  rw[trm,this,if_neg (by simp)]
theorem trm_snoc0:∀(l:List Int),trm (l++[0])=trm l
 | []=>by simp[trm]
 | x::l=>by rw[List.cons_append,trm,trm,trm_snoc0 l]
theorem last_trm:∀{l:List Int} {x:Int},trm l=l→l.getLast? = some x→x≠0
 | [],x,_,h=>by simp at h
 | [y],x,t,h=>by
  simp at h;subst h
  intro q
  simp[trm,q]at t
 | y::z::l,x,t,h=>by
  rw[List.getLast?_cons_cons]at h
  exact last_trm (trm_tail t) h
theorem pw_le_val{l:List Int}{n:Nat}(ho:okL l)(ht:trm l=l)(hn:l.length=n+1):pw n≤val l:=by
 have hl:l[n]? = some l[n]:=List.getElem?_eq_getElem (by omega)
 have hx:l.getLast? = some l[n]:=by
  rw[List.getLast?_eq_getElem?,show l.length-1=n by omega];exact hl
 have h0:=last_trm ht hx
 have hb:=okL_get ho hl
 have h1:=bV l n (by omega)
 have h2:=(ba (eT n ho)).1
 have h3:=(ba (jT (n+1) ho)).1
 rw[eW hl]at h1
 have h4:pw n*1≤pw n*(l[n]+1000000000*val (l.drop (n+1))):=zB (by omega) (zG (jb n))
 omega
theorem iy{a b:List Int}(ha:okL a)(hb:okL b)(tb:trm b=b)(h:a.length<b.length):val a<val b:=by
 have h1:=ba ha
 have h2:=pw_le_val (n:=b.length-1) hb tb (by omega)
 have h3:=pw_mono (a:=a.length) (b:=b.length-1) (by omega)
 omega
theorem len_le_of_val{a:List Int}{n:Nat}(ha:okL a)(ta:trm a=a)(h:val a<pw n):a.length≤n:=by
 rcases zW n a.length with q | q
 ·have h2:=pw_le_val (n:=a.length-1) ha ta (by omega)
  have h3:=pw_mono (a:=n) (b:=a.length-1) (by omega)
  omega
 ·exact q
theorem val_cmp_at{a b:List Int}{i:Nat}{x y:Int}(ha:okL a)(hb:okL b)(hx:a[i]? = some x)(hy:b[i]? = some y)(he:a.drop (i+1)=b.drop (i+1))(h:x<y):val a<val b:=by
 have la:=ao hx;have lb:=ao hy
 rw[bV a i (by omega),bV b i (by omega),eW hx,eW hy,he]
 have h1:=ba (eT i ha)
 have h2:=ba (eT i hb)
 rw[zN,zF (by omega)]at h1 h2
 have h3:pw i*(x+1+1000000000*val (b.drop (i+1)))≤pw i*(y+1000000000*val (b.drop (i+1))):=zB (by omega) (zG (jb i))
 have h4:pw i*(x+1+1000000000*val (b.drop (i+1)))=pw i*(x+1000000000*val (b.drop (i+1)))+pw i:=by grind
 omega
def toLF:Nat→Nat→List Int
 | 0,_=>[]
 | f+1,n=>if n=0 then []else ((n % 1000000000:Nat):Int)::toLF f (n / 1000000000)
def toL(n:Nat):List Int:=toLF n n
theorem toLF_ok:∀(f n:Nat),n≤f→okL (toLF f n)∧val (toLF f n)=(n:Int)∧trm (toLF f n)=toLF f n
 | 0,n,h=>by
  rw[show n=0 by omega]
  exact⟨d9,rfl,rfl⟩
 | f+1,n,h=>by
  unfold toLF
  split
  ·rename_i q
   subst q
   exact⟨d9,rfl,rfl⟩
  ·rename_i q
   obtain⟨h1,h2,h3⟩:=toLF_ok f (n / 1000000000) (by omega)
   refine⟨bJ.2 ⟨by omega,h1⟩,?_,?_⟩
   ·rw[dZ,h2];omega
   ·rw[trm,h3,if_neg]
    rintro⟨q1,q2⟩
    rw[q2]at h2
    simp[val]at h2
    omega
theorem toL_ok(n:Nat):okL (toL n):=(toLF_ok n n (zD _)).1
theorem toL_val(n:Nat):val (toL n)=(n:Int):=(toLF_ok n n (zD _)).2.1
theorem toL_trm(n:Nat):trm (toL n)=toL n:=(toLF_ok n n (zD _)).2.2
theorem toL_of{l:List Int}(h:okL l)(ht:trm l=l):l=toL (val l).toNat:=by
 refine val_inj h (toL_ok _) ht (toL_trm _) ?_
 rw[toL_val]
 have:=(ba h).1
 omega
theorem trm_toL{l:List Int}(h:okL l):trm l=toL (val l).toNat:=by
 have:=toL_of (jv h) (trm_trm l)
 rwa [gI]at this
theorem toL_zero:toL 0=[]:=rfl
theorem toL_nil{n:Nat}:toL n=[]↔n=0:=by
 constructor
 ·intro h
  have:=toL_val n
  rw[h]at this
  simp[val]at this
  omega
 ·rintro rfl;rfl
theorem toL_len{n k:Nat}(h:(n:Int)<pw k):(toL n).length≤k:=len_le_of_val (toL_ok n) (toL_trm n) (by rw[toL_val];exact h)
theorem toL_small{n:Nat}(h:n<1000000000)(h0:n≠0):toL n=[(n:Int)]:=by
 refine val_inj (toL_ok n) (bJ.2 ⟨by omega,d9⟩) (toL_trm n) ?_ ?_
 ·simp[trm];omega
 ·rw[toL_val];simp[val]
theorem digit_hi{U V u0 u1 u2 v1 v2 P1 P2 Y W g r:Int}(hP:P1=1000000000*P2)(hU:U=u0*(1000000000*P1)+u1*P1+u2*P2+Y)(hV:V=v1*P1+v2*P2+W)(hY:Y<P2)(hW:0≤W)(hP2:0<P2)
  (hg:0≤g) (hgr:g*v1+r=u0*1000000000+u1) (hUV:U<1000000000*V) (hV0:0<V) (hc:g≥1000000000∨g*v2>r*1000000000+u2):U<g*V:=by
 rcases hc with h | h
 ·have:1000000000*V≤g*V:=zA h (zG hV0)
  omega
 ·have h1:(r*1000000000+u2+1)*P2≤(g*v2)*P2:=zA (by omega) (zG hP2)
  have h2:0≤g*W:=zP hg hW
  have h3:g*V=(g*v1)*P1+(g*v2)*P2+g*W:=by rw[hV];grind
  have h4:(g*v1)*P1=(u0*1000000000+u1)*P1-r*P1:=by rw[←hgr];grind
  have h5:(r*1000000000+u2+1)*P2=r*P1+u2*P2+P2:=by rw[hP];grind
  have h6:(u0*1000000000+u1)*P1=u0*(1000000000*P1)+u1*P1:=by grind
  omega
theorem digit_lo{U V u0 u1 u2 v1 v2 P1 P2 Y W g r:Int}(hP:P1=1000000000*P2)(hU:U=u0*(1000000000*P1)+u1*P1+u2*P2+Y)(hV:V=v1*P1+v2*P2+W)(hY:0≤Y)(hW:0≤W)(hW2:W<P2)
  (hg:0≤g) (hgr:g*v1+r=u0*1000000000+u1) (hP2:0<P2) (hv1:1≤v1) (hv2:0≤v2) (hB:g<1000000000) (hc:g*v2≤r*1000000000+u2):g*V<U+V:=by
 have h1:(g*v2)*P2≤(r*1000000000+u2)*P2:=zA hc (zG hP2)
 have h2:g*W≤999999999*W:=zA (by omega) hW
 have h3:g*V=(g*v1)*P1+(g*v2)*P2+g*W:=by rw[hV];grind
 have h4:(g*v1)*P1=(u0*1000000000+u1)*P1-r*P1:=by rw[←hgr];grind
 have h5:(r*1000000000+u2)*P2=r*P1+u2*P2:=by rw[hP];grind
 have h6:(u0*1000000000+u1)*P1=u0*(1000000000*P1)+u1*P1:=by grind
 have h7:1*P1≤v1*P1:=zA hv1 (by omega)
 have h8:0≤v2*P2:=zP hv2 (zG hP2)
 omega
theorem euclid_half{x y:Nat}(h:y≤x)(hy:0<y):2*(y*(x % y))≤x*y:=by
 have h1:=Nat.mod_lt x hy
 have h2:2*(x % y)≤x:=by
  have:=Nat.div_add_mod x y
  have h3:1≤x / y:=(Nat.le_div_iff_mul_le hy).2 (by omega)
  have h4:y*1≤y*(x / y):=Nat.mul_le_mul (zD _) h3
  omega
 calc 2*(y*(x % y))=(2*(x % y))*y:=by grind
  _≤x*y:=Nat.mul_le_mul h2 (zD _)
theorem den_pos(a:Rat):0<(a.den:Int):=by have:=a.den_pos;omega
theorem divInt_parts{n d:Int}(h:0<d):(Rat.divInt n d).num=n / (zO n d:Int)∧((Rat.divInt n d).den:Int)=d / (zO n d:Int):=by
 constructor
 ·rw[Rat.num_divInt,Int.sign_eq_one_of_pos h,Int.one_mul,Int.gcd_comm]
 ·rw[Rat.den_divInt,if_neg (by omega),Int.gcd_comm,Int.natCast_ediv,Int.natAbs_of_nonneg (by omega)]
theorem divInt_neg2(n d:Int):Rat.divInt (-n) (-d)=Rat.divInt n d:=Rat.neg_divInt_neg n d
theorem mkRat_divInt(n:Int)(d:Nat):mkRat n d=Rat.divInt n (d:Int):=(Rat.divInt_ofNat n d).symm
theorem add_divInt(a b:Rat):Rat.divInt (a.num*b.den+b.num*a.den) ((a.den:Int)*b.den)=a+b:=by
 rw[Rat.add_def',mkRat_divInt,Int.natCast_mul]
theorem add_same{a b:Rat}(h:a.den=b.den):Rat.divInt (a.num+b.num) (a.den:Int)=a+b:=by
 rw[←add_divInt,←h,←Int.add_mul,Rat.divInt_mul_right (by have:=den_pos a;omega)]
theorem mul_divInt(a b:Rat):Rat.divInt (a.num*b.num) ((a.den:Int)*b.den)=a*b:=by
 rw[Rat.mul_def',mkRat_divInt,Int.natCast_mul]
theorem gcd_dvd_div{n d:Int}(h:d≠0):0<(zO n d:Int):=by
 have:=Int.gcd_pos_of_ne_zero_right n h
 omega
set_option linter.unusedVariables false
set_option linter.unusedSimpArgs false
def ofI(z:Int):aq:=⟨decide (z<0),toL z.natAbs⟩
theorem signed_eq{neg:Bool}{l:List Int}(h:okL l):(⟨neg&&decide (trm l≠[]),trm l⟩:aq)=ofI (if neg=true then -val l else val l):=by
 have hb:=(ba h).1
 rcases (show 0=val l∨0<val l by omega)with q | q
 ·rw[trm_zero h q.symm,←q]
  cases neg<;>rfl
 ·have h0:trm l≠[]:=λz=>by
   have:=gI l
   rw[z]at this
   simp[val]at this
   omega
  rw[decide_eq_true h0,Bool.and_true,trm_toL h]
  unfold ofI
  cases neg with
  | true =>
   simp only[if_true]
   rw[decide_eq_true (show -val l<0 by omega),show (-val l).natAbs=(val l).toNat by omega]
  | false =>
   simp only[zJ,if_false]
   rw[decide_eq_false (show ¬val l<0 by omega),show (val l).natAbs=(val l).toNat by omega]
theorem ofI_len{z:Int}{n:Nat}(h:(z.natAbs:Int)<pw n):(ofI z).Limbs.length≤n:=toL_len h
theorem ofI_nil{z:Int}:(ofI z).Limbs=[]↔z=0:=by
 show toL z.natAbs=[]↔_
 rw[toL_nil];omega
theorem bM(z:Int):val (ofI z).Limbs=(z.natAbs:Int):=toL_val _
theorem cq(z:Int):okL (ofI z).Limbs:=toL_ok _
theorem wrap_i64{n:Int}(h:-9223372036854775808≤n)(h2:n≤9223372036854775807):IntKind.i64.wrap n=n:=IntWalk.i64_in _ ⟨h,by omega⟩
theorem gt_k{α:Type}{l:List α}{k:Nat}{x:α}(h:l[k]? = some x):gt l (k:Int)=some x:=by
 unfold gt
 have hl:=ao h
 rw[if_neg (by omega)]
 simpa using h
theorem cutT_k{α:Type}{l:List α}{n:Nat}(h:n≤l.length):cutT l (n:Int)=some (l.take n):=by
 unfold cutT
 rw[if_neg (by omega)]
 simp
theorem take_last{l:List Int}{n:Nat}{x:Int}(h:l[n]? = some x):l.take (n+1)=l.take n++[x]:=by
 rw[List.take_add_one,h];rfl
theorem trm_take0{l:List Int}{n:Nat}(h:l[n]? = some 0):trm (l.take (n+1))=trm (l.take n):=by
 rw[take_last h,trm_snoc0]
theorem trm_takeN{l:List Int}{n:Nat}{x:Int}(h:l[n]? = some x)(h0:x≠0):trm (l.take (n+1))=l.take (n+1):=by
 refine trm_last (x:=x) ?_ h0
 rw[take_last h];simp
theorem fL(l:List Int)(hl:l.length≤1000000):fX l=some (trm l):=by
 have key:Tot (fX l) (λe=>e=trm l):=by
  unfold fX
  refine Tot.bind (E:=λe=>e=trm l) (Tot.loop (λm (v:List Int)=>v=l.take m∧m≤l.length∧trm v=trm l) _ l.length (fm (by omega)) ⟨by simp,by omega,rfl⟩ (λm v hv=>?_)) (λv hv=>.ok hv)
  obtain⟨rfl,h1,h2⟩:=hv
  have hlen:(l.take m).length=m:=by simp;omega
  rw[hlen]
  cases m with
  | zero =>
   refine TotX.bind (E:=λb=>b=false) (Tot.ite (λq=>by simp at q) (λ_=>.ok rfl)) (λb hb=>?_)
   subst hb
   refine TotX.ite (λq=>by cases q) (λ_=>.ret ?_)
   rw[←h2];simp[trm]
  | succ m =>
   have hx:l[m]? = some l[m]:=List.getElem?_eq_getElem (by omega)
   generalize l[m]=x at hx
   have hx2:(l.take (m+1))[m]? = some x:=by rw[List.getElem?_take,if_pos (by omega)];exact hx
   rw[wrap_i64 (by omega) (by omega),show ((m+1:Nat):Int)-1=(m:Int) by omega,gt_k hx2,ae]
   refine TotX.bind (E:=λb=>b=(x==0)) (Tot.ite (λ_=>.ok rfl) (λq=>absurd q (by simp))) (λb hb=>?_)
   subst hb
   refine TotX.ite (λq=>?_) (λq=>.ret ?_)
   ·have:x=0:=by simpa using q
    subst this
    rw[cutT_k (by rw[hlen];omega),ae]
    refine .go ⟨m,by omega,by rw[List.take_take,zF (by omega)],by omega,?_⟩
    rw[List.take_take,zF (by omega),←h2,trm_take0 hx]
   ·have h0:x≠0:=by simpa using q
    rw[←h2,trm_takeN hx h0]
 obtain⟨e,he,rfl⟩:=key
 exact he
theorem bN(neg:Bool)(l:List Int)(hl:l.length≤1000000)(ho:okL l):bG neg l=some (ofI (if neg=true then -val l else val l)):=by
 have key:Tot (bG neg l) (λe=>e=⟨neg&&decide (trm l≠[]),trm l⟩):=by
  unfold bG
  refine Tot.bind (E:=λv=>∃n:Nat,v=(n:Int)∧n≤l.length∧l.take n=trm l) (Tot.loop (λm (v:Int)=>v=(m:Int)∧m≤l.length∧trm (l.take m)=trm l) _ l.length (fm (by omega)) ⟨rfl,by omega,by simp⟩ (λm v hv=>?_)) (λv hv=>?_)
  ·obtain⟨rfl,h1,h2⟩:=hv
   cases m with
   | zero =>
    refine TotX.bind (E:=λb=>b=false) (Tot.ite (λq=>by simp at q) (λ_=>.ok rfl)) (λb hb=>?_)
    subst hb
    refine TotX.ite (λq=>by cases q) (λ_=>.ret ⟨0,rfl,by omega,?_⟩)
    rw[←h2];simp[trm]
   | succ m =>
    have hx:l[m]? = some l[m]:=List.getElem?_eq_getElem (by omega)
    generalize l[m]=x at hx
    rw[wrap_i64 (by omega) (by omega),show ((m+1:Nat):Int)-1=(m:Int) by omega,gt_k hx,ae]
    refine TotX.bind (E:=λb=>b=(x==0)) (Tot.ite (λ_=>.ok rfl) (λq=>absurd q (by simp))) (λb hb=>?_)
    subst hb
    refine TotX.ite (λq=>?_) (λq=>.ret ⟨m+1,rfl,h1,?_⟩)
    ·have:x=0:=by simpa using q
     subst this
     exact .go ⟨m,by omega,rfl,by omega,by rw[←h2,trm_take0 hx]⟩
    ·have h0:x≠0:=by simpa using q
     rw[←h2,trm_takeN hx h0]
  ·obtain⟨n,rfl,h1,h2⟩:=hv
   have hd:decide ((n:Int)>0)=decide (trm l≠[]):=by
    apply decide_eq_decide.2
    rw[←h2]
    constructor
    ·intro q z
     have:=congrArg List.length z
     rw[zN,zF h1,List.length_nil]at this;omega
    ·intro q
     rcases Nat.eq_zero_or_pos n with z | z
     ·subst z;simp at q
     ·omega
   rw[cutT_k h1,h2]
   cases neg with
   | true=>simp only[if_true,ae,hd,Bool.true_and];exact .ok rfl
   | false=>simp only[zJ,if_false,ae,Bool.false_and];exact .ok rfl
 obtain⟨e,he,rfl⟩:=key
 rw[he,signed_eq ho]
theorem wU32{n:Int}(h:0≤n)(h2:n<4294967296):IntKind.u32.wrap n=n:=by
 unfold IntKind.wrap;simp[IntKind.signed,IntKind.bits];omega
theorem wU64{n:Int}(h:0≤n)(h2:n<18446744073709551616):IntKind.u64.wrap n=n:=by
 unfold IntKind.wrap;simp[IntKind.signed,IntKind.bits];omega
theorem wI64{n:Int}(h:-9223372036854775808≤n)(h2:n≤9223372036854775807):IntKind.i64.wrap n=n:=wrap_i64 h h2
theorem tdv{a b:Int}(h:0≤a):Int.tdiv a b=a / b:=Int.tdiv_eq_ediv_of_nonneg h
theorem tmd{a b:Int}(h:0≤a):Int.tmod a b=a % b:=Int.tmod_eq_emod_of_nonneg h
theorem mulB{x y:Int}(hx:0≤x∧x<1000000000)(hy:0≤y∧y<1000000000):0≤x*y∧x*y≤999999998000000001:=by
 refine⟨zP hx.1 hy.1,?_⟩
 have:=Int.mul_le_mul (show x≤999999999 by omega) (show y≤999999999 by omega) hy.1 (by omega)
 omega
def lb(l:List Int)(i:Nat):Int:=(l[i]?).getD 0
theorem lb_of{l:List Int}{i:Nat}{x:Int}(h:l[i]? = some x):lb l i=x:=by unfold lb;rw[h];rfl
theorem lb_out{l:List Int}{i:Nat}(h:l.length≤i):lb l i=0:=by unfold lb;rw[List.getElem?_eq_none h];rfl
theorem lb_ok{l:List Int}(h:okL l)(i:Nat):0≤lb l i∧lb l i<1000000000:=by
 unfold lb
 cases hx:l[i]? with
 | none=>simp
 | some x=>exact okL_get h hx
theorem cd(l:List Int)(i:Nat):val (l.take (i+1))=val (l.take i)+lb l i*pw i:=by
 cases hx:l[i]? with
 | none =>
  have hl:l.length≤i:=by simpa using hx
  rw[lb_out hl,zY (by omega),zY hl];omega
 | some x=>rw[lb_of hx];exact eV hx
theorem bC{l:List Int}{n:Nat}(h:l.length≤n):val (l.take n)=val l:=by rw[zY h]
theorem val_drop_lb(l:List Int)(i:Nat):val (l.drop i)=lb l i+1000000000*val (l.drop (i+1)):=by
 cases hx:l[i]? with
 | none =>
  have hl:l.length≤i:=by simpa using hx
  rw[lb_out hl,zH hl,zH (show l.length≤i+1 by omega)];rfl
 | some x=>rw[lb_of hx];exact eW hx
theorem gn{l:List Int}{i:Nat}{x:Int}(h:i<l.length):val ((l.set i x).take (i+1))=val (l.take i)+x*pw i:=by
 have h1:(l.set i x)[i]? = some x:=by simp[h]
 rw[eV h1,List.take_set,List.set_eq_of_length_le (by rw[zN];omega)]
theorem take_set_lt{l:List Int}{i j:Nat}{x:Int}(h:j≤i):(l.set i x).take j=l.take j:=by
 rw[List.take_set,List.set_eq_of_length_le (by simp;omega)]
theorem i7{l:List Int}{i j:Nat}{x:Int}(h:i<j):(l.set i x).drop j=l.drop j:=List.drop_set_of_lt h
theorem val_drop_set{l:List Int}{i:Nat}{x:Int}(h:i<l.length):val ((l.set i x).drop i)=x+1000000000*val (l.drop (i+1)):=by
 have h1:(l.set i x)[i]? = some x:=by simp[h]
 rw[eW h1,i7 (by omega)]
theorem gt_l{l:List Int}{i:Nat}(h:i<l.length):gt l (i:Int)=some (lb l i):=by
 have h1:l[i]? = some l[i]:=List.getElem?_eq_getElem h
 rw[gt_k h1,lb_of h1]
theorem lb_drop(l:List Int)(k j:Nat):lb (l.drop k) j=lb l (k+j):=by unfold lb;rw[List.getElem?_drop]
theorem lb_of_drop{u w:List Int}{i:Nat}(h:u.drop i=w.drop i):lb u i=lb w i:=by
 have h1:=lb_drop u i 0
 rw[h,lb_drop w i 0,Nat.add_zero]at h1
 exact h1.symm
theorem drop_succ_eq{u w:List Int}{i:Nat}(h:u.drop i=w.drop i):u.drop (i+1)=w.drop (i+1):=by
 rw[←zQ,h,zQ]
def sg(z:Int):Int:=if z<0 then -1 else if 0<z then 1 else 0
theorem sg_neg{z:Int}(h:z<0):sg z=-1:=by unfold sg;rw[if_pos h]
theorem sg_pos{z:Int}(h:0<z):sg z=1:=by unfold sg;rw[if_neg (by omega),if_pos h]
theorem sg_zero{z:Int}(h:z=0):sg z=0:=by unfold sg;rw[if_neg (by omega),if_neg (by omega)]
theorem cmp_loop {y1 y2 : List Int} (h1 : okL y1) (h2 : okL y2) (hl : y1.length = y2.length) (hs : y1.length ≤ 1000000) : (bindX (loopX (λ(v1 : Int) =>
          if (decide (v1≥0))=true then
            bindO (gt y1 v1) λ(e1:Int) =>
            bindO (gt y2 v1) λ(e2:Int) =>
            if (decide (e1<e2))=true then
              some (.ret (.ret (-1)))
            else
              if (decide (e1>e2))=true then
                some (.ret (.ret 1))
              else
                some (.go (IntKind.i64.wrap (v1-1)))
          else
            some (.ret (.go ()))) fuel (IntKind.i64.wrap ((y1.length:Int)-1))) λ(v2:Unit) =>
    some 0)=some (sg (val y1-val y2)):=by
  have key : Tot (bindX (loopX (λ(v1 : Int) =>
          if (decide (v1≥0))=true then
            bindO (gt y1 v1) λ(e1:Int) =>
            bindO (gt y2 v1) λ(e2:Int) =>
            if (decide (e1<e2))=true then
              some (.ret (.ret (-1)))
            else
              if (decide (e1>e2))=true then
                some (.ret (.ret 1))
              else
                some (.go (IntKind.i64.wrap (v1-1)))
          else
            some (.ret (.go ()))) fuel (IntKind.i64.wrap ((y1.length:Int)-1))) λ(v2:Unit) =>
    some (0:Int)) (λe=>e=sg (val y1-val y2)):=by
    refine Tot.bindX (E:=λ_=>y1=y2) (TotX.of (Tot.loop (λm (v:Int)=>v=(m:Int)-1∧m≤y1.length∧y1.drop m=y2.drop m) _ y1.length (fm (by omega)) ⟨by rw[wI64 (by omega) (by omega)],zD _,by rw[zH (zD _),zH (by omega)]⟩ (λm v hv=>?_))) (λ_ h=>.ok (by rw[h,sg_zero (by omega)]))
    obtain⟨rfl,hm,hd⟩:=hv
    cases m with
    | zero=>exact TotX.ite (λq=>by simp at q) (λ_=>.ret (by simpa using hd))
    | succ m =>
      have e1:((m+1:Nat):Int)-1=(m:Int):=by omega
      rw[e1]
      have hx:y1[m]? = some y1[m]:=List.getElem?_eq_getElem (by omega)
      have hy:y2[m]? = some y2[m]:=List.getElem?_eq_getElem (by omega)
      generalize y1[m]=x at hx
      generalize y2[m]=y at hy
      refine TotX.ite (λ_=>?_) (λq=>absurd q (by simp))
      rw[gt_k hx,ae,gt_k hy,ae]
      refine TotX.ite (λq=>.ret ?_) (λq=>TotX.ite (λq2=>.ret ?_) (λq2=>.go ⟨m,by omega,by rw[wI64 (by omega) (by omega)],by omega,?_⟩))
      · have:=val_cmp_at h1 h2 hx hy hd (by simpa using q)
        exact (sg_neg (by omega)).symm
      · have:=val_cmp_at h2 h1 hy hx hd.symm (by simpa using q2)
        exact (sg_pos (by omega)).symm
      · have hxy:x=y:=by simp at q q2;omega
        have l1:=ao hx;have l2:=ao hy
        rw[zV l1,zV l2,hd]
        rw[List.getElem?_eq_getElem l1]at hx;rw[List.getElem?_eq_getElem l2]at hy
        injection hx with hx;injection hy with hy
        rw[hx,hy,hxy]
  obtain⟨e,he,rfl⟩:=key
  exact he
def cmpL(y1 y2:List Int):Option Int :=
  if ((y1.length:Int) != (y2.length:Int))=true then
    if (decide ((y1.length:Int)<(y2.length:Int)))=true then
      some (-1)
    else
      some 1
  else
    bindX (loopX (λ(v1 : Int) =>
          if (decide (v1≥0))=true then
            bindO (gt y1 v1) λ(e1:Int) =>
            bindO (gt y2 v1) λ(e2:Int) =>
            if (decide (e1<e2))=true then
              some (.ret (.ret (-1)))
            else
              if (decide (e1>e2))=true then
                some (.ret (.ret 1))
              else
                some (.go (IntKind.i64.wrap (v1-1)))
          else
            some (.ret (.go ()))) fuel (IntKind.i64.wrap ((y1.length:Int)-1))) λ(v2:Unit) =>
    some 0
theorem cmp_lenL{a b:List Int}(ha:okL a)(hb:okL b)(ta:trm a=a)(tb:trm b=b)(la:a.length≤1000000):cmpL a b=some (sg (val a-val b)):=by
 unfold cmpL
 by_cases h:(a.length:Int)=(b.length:Int)
 ·have:((a.length:Int) != (b.length:Int))=false:=by simp[h]
  rw[this]
  exact cmp_loop ha hb (by omega) la
 ·have:((a.length:Int) != (b.length:Int))=true:=by simpa using h
  rw[this,if_pos rfl]
  by_cases h2:(a.length:Int)<b.length
  ·rw[if_pos (decide_eq_true h2),sg_neg]
   have:=iy ha hb tb (by omega)
   omega
  ·rw[if_neg (by simpa using h2),sg_pos]
   have:=iy hb ha ta (by omega)
   omega
theorem fE{a b:List Int}(ha:okL a)(hb:okL b)(la:a.length≤1000000)(lb':b.length≤1000000):er a b=some (sg (val a-val b)):=by
 have h:=cmp_lenL (jv ha) (jv hb) (trm_trm a) (trm_trm b) (Nat.le_trans (trm_le a) la)
 rw[gI,gI]at h
 unfold er
 rw[fL a la,ae,fL b lb',ae,←h]
 rfl
theorem it_plus_ok{a b:List Int}(ha:okL a)(hb:okL b)(la:a.length≤1000000)(lb':b.length≤1000000):Tot (it_plus a b) (λl=>okL l∧val l=val a+val b∧l.length≤max a.length b.length+1):=by
 unfold it_plus
 refine Tot.bind (E:=λp=>okL p.1∧okL p.2∧p.2.length≤p.1.length∧p.1.length≤max a.length b.length∧val p.1+val p.2=val a+val b) (Tot.ite (λq=>.ok ⟨hb,ha,by simp at q;dsimp only;omega,by dsimp only;omega,by dsimp only;omega⟩) (λq=>.ok ⟨ha,hb,by simp at q;dsimp only;omega,by dsimp only;omega,rfl⟩)) (λp hp=>?_)
 obtain⟨c,d⟩:=p
 dsimp only at hp ⊢
 obtain⟨hc,hd,h1,h2,h3⟩:=hp
 refine Tot.guard (by rw[wI64 (by omega) (by omega)];exact decide_eq_true (by omega)) (Tot.guard (bF (by rw[wI64 (by omega) (by omega)];omega)) ?_)
 refine Tot.bind (E:=λv=>okL v.1∧v.1.length=c.length∧(v.2=0∨v.2=1)∧val v.1+v.2*pw c.length=val c+val d) (Tot.guard (bE (by omega)) (Tot.range (λi v=>okL v.1∧v.1.length=i∧(v.2=0∨v.2=1)∧val v.1+v.2*pw i=val (c.take i)+val (d.take i)) _ ⟨d9,rfl,.inl rfl,by simp[val]⟩ (λi x v hx hr=>?_) (λv hr=>?_))) (λv hv=>?_)
 ·obtain⟨out,k⟩:=v
  dsimp only at hr ⊢
  obtain⟨r1,r2,r3,r4⟩:=hr
  have hx1:=okL_get hc hx
  have hil:=ao hx
  have hy:=lb_ok hd i
  refine TotX.bind (E:=λs=>s=x+k+lb d i) (Tot.ite (λq=>?_) (λq=>?_)) (λs hs=>?_)
  ·have q':i<d.length:=by simp at q;omega
   rw[gt_l q',ae]
   exact .ok (by rw[wU32 (n:=x+k) (by omega) (by omega),wU32 (by omega) (by omega)])
  ·have q':d.length≤i:=by simp at q;omega
   exact .ok (by rw[wU32 (by omega) (by omega),lb_out q'];omega)
  ·subst hs
   refine TotX.bind (E:=λw=>(w.1=0∨w.1=1)∧0≤w.2∧w.2<1000000000∧w.2+1000000000*w.1=x+k+lb d i) (Tot.ite (λq=>.ok ?_) (λq=>.ok ?_)) (λw hw=>?_)
   ·simp only[ge_iff_le,decide_eq_true_eq]at q
    rw[wU32 (by omega) (by omega)]
    exact⟨.inr rfl,by dsimp only;omega,by dsimp only;omega,by dsimp only;omega⟩
   ·simp only[ge_iff_le,decide_eq_false_iff_not]at q
    exact⟨.inl rfl,by dsimp only;omega,by dsimp only;omega,by dsimp only;omega⟩
   ·obtain⟨w1,w2⟩:=w
    dsimp only at hw ⊢
    obtain⟨q1,q2,q3,q4⟩:=hw
    refine TotX.guard (bF (by omega)) (.go ⟨jU.2 ⟨r1,bJ.2 ⟨⟨q2,q3⟩,d9⟩⟩,by simp[r2],q1,?_⟩)
    rw[eN,r2,cd c i,cd d i,lb_of hx,ce]
    simp only[val]
    grind
 ·obtain⟨r1,r2,r3,r4⟩:=hr
  exact .ok ⟨r1,r2,r3,by rw[r4,bC (zD _),bC (by omega)]⟩
 ·obtain⟨out,k⟩:=v
  dsimp only at hv ⊢
  obtain⟨r1,r2,r3,r4⟩:=hv
  refine Tot.guard (bF (by omega)) (.ok ⟨jU.2 ⟨r1,bJ.2 ⟨by omega,d9⟩⟩,?_,by simp;omega⟩)
  rw[eN,r2]
  simp only[val]
  grind
theorem it_minus_ok{a b:List Int}(ha:okL a)(hb:okL b)(la:a.length≤1000000)(lb':b.length≤1000000)(h:val b≤val a):Tot (it_minus a b) (λl=>okL l∧val l=val a-val b∧l.length=a.length):=by
 unfold it_minus
 refine Tot.guard (decide_eq_true (by omega)) (Tot.guard (bF (by omega)) ?_)
 refine Tot.bind (E:=λv=>okL v∧val v=val a-val b∧v.length=a.length) (Tot.guard (bE (by omega)) (Tot.range (λi v=>okL v.2∧v.2.length=a.length∧(v.1=0∨v.1=1)∧val (v.2.take i)-v.1*pw i=val (a.take i)-val (b.take i)) _ ⟨okL_rep _,by simp,.inl rfl,by simp[val]⟩ (λi x v hx hr=>?_) (λv hr=>?_))) (λv hv=>.ok hv)
 ·obtain⟨k,out⟩:=v
  dsimp only at hr ⊢
  obtain⟨r1,r2,r3,r4⟩:=hr
  have hx1:=okL_get ha hx
  have hil:=ao hx
  have hy:=lb_ok hb i
  refine TotX.bind (E:=λs=>s=k+lb b i) (Tot.ite (λq=>?_) (λq=>?_)) (λs hs=>?_)
  ·have q':i<b.length:=by simp at q;omega
   rw[gt_l q',ae]
   exact .ok (by rw[wU32 (by omega) (by omega)])
  ·have q':b.length≤i:=by simp at q;omega
   exact .ok (by rw[lb_out q'];omega)
  ·subst hs
   refine TotX.bind (E:=λw=>(w.1=0∨w.1=1)∧k+lb b i≤w.2∧w.2-(k+lb b i)<1000000000∧w.2=x+1000000000*w.1) (Tot.ite (λq=>.ok ?_) (λq=>.ok ?_)) (λw hw=>?_)
   ·simp only[decide_eq_true_eq]at q
    rw[wU32 (by omega) (by omega)]
    exact⟨.inr rfl,by dsimp only;omega,by dsimp only;omega,by dsimp only;omega⟩
   ·simp only[decide_eq_false_iff_not]at q
    exact⟨.inl rfl,by dsimp only;omega,by dsimp only;omega,by dsimp only;omega⟩
   ·obtain⟨w1,w2⟩:=w
    dsimp only at hw ⊢
    obtain⟨q1,q2,q3,q4⟩:=hw
    rw[gt_l (show i<out.length by omega),ae,wU32 (by omega) (by omega),zE]
    refine .go ⟨kW r1 (by omega) q3,by simp[r2],q1,?_⟩
    rw[gn (by omega),cd b i,eV hx,ce,q4]
    grind
 ·obtain⟨k,out⟩:=v
  dsimp only at hr ⊢
  obtain⟨r1,r2,r3,r4⟩:=hr
  refine .ok ⟨r1,?_,r2⟩
  rw[bC (by omega),bC (zD _)]at r4
  have hb1:=ba r1
  have ha1:=ba ha
  have hbt:=ba (eT a.length hb)
  have hbd:=ba (jT a.length hb)
  have hp:=jb a.length
  have hbb:val b=val (b.take a.length):=by
   rcases Nat.le_total b.length a.length with q | q
   ·rw[bC q]
   ·have h1:=bV b a.length q
    rcases zI 0 (val (b.drop a.length))with z | z
    ·have:=zB (show 1≤val (b.drop a.length) by omega) (zG hp)
     omega
    ·rw[show val (b.drop a.length)=0 by omega]at h1;omega
  rw[r2]at hb1
  rcases r3 with z | z
  ·subst z;omega
  ·subst z;omega
theorem kX{a b:List Int}(ha:okL a)(hb:okL b)(la:a.length≤1000000)(lb':b.length≤1000000):Tot (fD a b) (λl=>okL l∧val l=val a*val b∧l.length=a.length+b.length):=by
 unfold fD
 have hlen:IntKind.i64.wrap ((a.length:Int)+(b.length:Int))=((a.length+b.length:Nat):Int):=by rw[wI64 (by omega) (by omega)];omega
 rw[hlen,zE]
 refine Tot.guard (decide_eq_true (by omega)) (Tot.guard (bF (by omega)) ?_)
 refine Tot.bind (E:=λv=>okL v∧val v=val a*val b∧v.length=a.length+b.length) (Tot.guard (bE (by omega)) (Tot.range (λi v=>okL v∧v.length=a.length+b.length∧val (v.take (i+b.length))=val (a.take i)*val b) _ ⟨okL_rep _,by simp,?_⟩ (λi x v hx hr=>?_) (λv hr=>?_))) (λv hv=>.ok hv)
 ·have h1:val ((List.replicate (a.length+b.length) (0:Int)).take (0+b.length))=0:=by
   rw[List.take_replicate];exact val_rep _
  rw[h1];simp[val]
 ·obtain⟨r1,r2,r3⟩:=hr
  have hx1:=okL_get ha hx
  have hil:=ao hx
  refine TotX.bind (E:=λu=>okL u∧u.length=a.length+b.length∧val (u.take (i+1+b.length))=val (a.take (i+1))*val b) (Tot.bind (E:=λu=>okL u.2∧u.2.length=a.length+b.length∧(0≤u.1∧u.1<1000000000)∧val (u.2.take (i+b.length))+u.1*pw (i+b.length)=val (v.take (i+b.length))+x*val b*pw i) (Tot.guard (bE (by omega)) (Tot.range (λk u=>okL u.2∧u.2.length=a.length+b.length∧(0≤u.1∧u.1<1000000000)∧u.2.drop (i+k)=v.drop (i+k)∧val (u.2.take (i+k))+u.1*pw (i+k)=val (v.take (i+k))+x*val (b.take k)*pw i) _ ⟨r1,r2,by dsimp only;omega,rfl,by simp[val]⟩ (λk y u hy hu=>?_) (λu hu=>?_))) (λu hu=>?_)) (λu hu=>.go hu)
  ·obtain⟨c,out⟩:=u
   dsimp only at hu ⊢
   obtain⟨u1,u2,u3,u4,u5⟩:=hu
   have hy1:=okL_get hb hy
   have hkl:=ao hy
   have hik:IntKind.i64.wrap ((i:Int)+(k:Int))=((i+k:Nat):Int):=by rw[wI64 (by omega) (by omega)];omega
   rw[hik,zE,gt_l (show i+k<out.length by omega),ae,ae]
   have ho:=lb_ok u1 (i+k)
   have hov:lb out (i+k)=lb v (i+k):=lb_of_drop u4
   have hm:=mulB hx1 hy1
   rw[wU64 (n:=x) (by omega) (by omega),wU64 (n:=y) (by omega) (by omega),wU64 (n:=x*y) (by omega) (by omega),wU64 (n:=lb out (i+k)) (by omega) (by omega),wU64 (n:=lb out (i+k)+x*y) (by omega) (by omega),wU64 (n:=lb out (i+k)+x*y+c) (by omega) (by omega),tdv (by omega),tmd (by omega),wU64 (by omega) (by omega),wU32 (by omega) (by omega)]
   refine .go ⟨kW u1 (by omega) (by omega),by simp[u2],by dsimp only;omega,?_,?_⟩
   ·rw[i7 (by omega),←zT,←zQ,u4,zQ]
   ·rw[show i+(k+1)=i+k+1 by omega,gn (by omega),cd v,eV hy,ce,←hov,pw_add]
    rw[pw_add]at u5
    have e:=zK (lb out (i+k)+x*y+c) 1000000000
    generalize (lb out (i+k)+x*y+c) % 1000000000=m at *
    generalize (lb out (i+k)+x*y+c) / 1000000000=d at *
    grind
  ·obtain⟨u1,u2,u3,u4,u5⟩:=hu
   exact .ok ⟨u1,u2,u3,by rw[u5,bC (zD b.length)]⟩
  ·obtain⟨c,out⟩:=u
   dsimp only at hu ⊢
   obtain⟨u1,u2,u3,u5⟩:=hu
   have hik:IntKind.i64.wrap ((i:Int)+(b.length:Int))=((i+b.length:Nat):Int):=by rw[wI64 (by omega) (by omega)];omega
   rw[hik,zE,gt_l (show i+b.length<out.length by omega),ae,wU32 (by omega) (by omega)]
   refine .ok ⟨kW u1 (by omega) (by omega),by simp[u2],?_⟩
   rw[show i+1+b.length=i+b.length+1 by omega,gn (by omega),u5,r3,eV hx]
   grind
 ·obtain⟨r1,r2,r3⟩:=hr
  refine .ok ⟨r1,?_,r2⟩
  rw[bC (by omega),bC (zD _)]at r3
  exact r3
theorem it_byWord_ok{a:List Int}{b:Int}(ha:okL a)(la:a.length≤1000000)(hb:0<b)(hb2:b<1000000000):Tot (ie a b) (λp=>okL p.1∧p.1.length=a.length∧∃r,p.2=[r]∧0≤r∧r<b∧val p.1*b+r=val a):=by
 unfold ie
 refine Tot.guard (decide_eq_true (by omega)) (Tot.guard (bF (by omega)) ?_)
 refine Tot.bind (E:=λv=>okL v.2∧v.2.length=a.length∧0≤v.1∧v.1<b∧val v.2*b+v.1=val a) (Tot.loop (λm v=>v.2.1=(m:Int)-1∧m≤a.length∧okL v.2.2∧v.2.2.length=a.length∧0≤v.1∧v.1<b∧val (v.2.2.drop m)*b+v.1=val (a.drop m)) _ a.length (fm (by omega)) ⟨by rw[wI64 (by omega) (by omega)],zD _,okL_rep _,by simp,by dsimp only;omega,hb,by simp[val]⟩ (λm v hv=>?_)) (λv hv=>?_)
 ·obtain⟨r,i,out⟩:=v
  dsimp only at hv ⊢
  obtain⟨rfl,h1,h2,h3,h4,h5,h6⟩:=hv
  cases m with
  | zero=>exact TotX.ite (λq=>by simp at q) (λ_=>.ret ⟨h2,h3,h4,h5,by simpa using h6⟩)
  | succ m =>
   have e1:((m+1:Nat):Int)-1=(m:Int):=by omega
   rw[e1]
   refine TotX.ite (λ_=>?_) (λq=>absurd q (by simp))
   have hx:=lb_ok ha m
   rw[gt_l (show m<a.length by omega),ae,wU64 (n:=b) (by omega) (by omega)]
   have hg:(!(b==0))=true:=by simp;omega
   refine TotX.guard hg (TotX.guard hg ?_)
   rw[gt_l (show m<out.length by omega),ae,zE]
   have hrb:r*1000000000+lb a m<b*1000000000:=by omega
   have hq:(r*1000000000+lb a m) / b<1000000000:=Int.ediv_lt_of_lt_mul hb (by omega)
   have hq0:0≤(r*1000000000+lb a m) / b:=Int.ediv_nonneg (by omega) (by omega)
   rw[wU64 (n:=r*1000000000) (by omega) (by omega),wU64 (n:=lb a m) (by omega) (by omega),wU64 (n:=r*1000000000+lb a m) (by omega) (by omega),tdv (by omega),tmd (by omega),wU64 (by omega) (by omega),wU32 (by omega) (by omega),wI64 (by omega) (by omega)]
   refine .go ⟨m,by omega,rfl,by omega,kW h2 hq0 hq,by simp[h3],Int.emod_nonneg _ (by omega),Int.emod_lt_of_pos _ hb,?_⟩
   rw[val_drop_set (by omega),val_drop_lb a m,←h6]
   have e:=zK (r*1000000000+lb a m) b
   generalize (r*1000000000+lb a m) / b=q at *
   generalize (r*1000000000+lb a m) % b=s at *
   grind
 ·obtain⟨r,out⟩:=v
  dsimp only at hv ⊢
  obtain⟨h1,h2,h3,h4,h5⟩:=hv
  exact .ok ⟨h1,h2,r,by rw[wU32 (by omega) (by omega)],h3,h4,h5⟩
theorem guess_loop{U V u0 u1 u2 v1 v2 P1 P2 Y W:Int}(hP:P1=1000000000*P2)(hU:U=u0*(1000000000*P1)+u1*P1+u2*P2+Y)(hV:V=v1*P1+v2*P2+W)(hY0:0≤Y)(hY:Y<P2)(hW0:0≤W)(hW:W<P2)(hP2:0<P2)(hu0:0≤u0∧u0<1000000000)(hu1:0≤u1∧u1<1000000000)(hu2:0≤u2∧u2<1000000000)(hv1:1≤v1∧v1<1000000000)(hv2:0≤v2∧v2<1000000000)(hUV:U<1000000000*V) :
  Tot (loopX (λ(w:Int×Int) =>
    bindO (if (decide (w.1≥1000000000))=true then some true else some (decide ((IntKind.u64.wrap (w.1*v2))>(IntKind.u64.wrap ((IntKind.u64.wrap (w.2*1000000000))+u2))))) λ(b:Bool) =>
    if b=true then
     if (decide ((IntKind.u64.wrap (w.2+v1))≥1000000000))=true then
      some (.ret (IntKind.u64.wrap (w.1-1)))
     else
      some (.go (IntKind.u64.wrap (w.1-1),IntKind.u64.wrap (w.2+v1)))
    else
     some (.ret w.1)) fuel ((u0*1000000000+u1) / v1,(u0*1000000000+u1) % v1)) (λg=>0≤g∧g<1000000000∧g*V<U+V∧U<(g+1)*V):=by
 have hP1:0<P1:=by omega
 have hq0:0≤(u0*1000000000+u1) / v1:=Int.ediv_nonneg (by omega) (by omega)
 have hq1:(u0*1000000000+u1) / v1≤u0*1000000000+u1:=Int.ediv_le_self _ (by omega)
 have hVP:v1*P1≤V∧V<(v1+1)*P1:=by
  have h1:v2*P2≤999999999*P2:=zA (by omega) (by omega)
  have h2:0≤v2*P2:=zP hv2.1 (by omega)
  have h3:(v1+1)*P1=v1*P1+P1:=by grind
  omega
 have hV0:0<V:=by
  have:1*P1≤v1*P1:=zA hv1.1 (by omega)
  omega
 have hUP:U<(u0*1000000000+u1+1)*P1∧u0*(1000000000*P1)≤U:=by
  have h1:u2*P2≤999999999*P2:=zA (by omega) (by omega)
  have h2:0≤u2*P2:=zP hu2.1 (by omega)
  have h3:(u0*1000000000+u1+1)*P1=u0*(1000000000*P1)+u1*P1+P1:=by grind
  have h4:0≤u1*P1:=zP hu1.1 (by omega)
  omega
 have hU0:0≤U:=by
  have:0≤u0*(1000000000*P1):=zP hu0.1 (by omega)
  omega
 have hu0v:u0≤v1:=by
  rcases zI v1 u0 with z | z
  ·exfalso
   have h1:(v1+1)*(1000000000*P1)≤u0*(1000000000*P1):=zA (by omega) (by omega)
   have h2:(v1+1)*(1000000000*P1)=1000000000*((v1+1)*P1):=by grind
   omega
  ·exact z
 refine Tot.loop (λm w=>w.1=(m:Int)∧0≤w.2∧w.2<1000000000∧w.1*v1+w.2=u0*1000000000+u1∧U<(w.1+1)*V) _ ((u0*1000000000+u1) / v1).toNat (fm (by omega)) ⟨by dsimp only;omega,Int.emod_nonneg _ (by omega),?_,?_,?_⟩ (λm w hw=>?_)
 ·have:=Int.emod_lt_of_pos (u0*1000000000+u1) (show 0<v1 by omega)
  dsimp only;omega
 ·dsimp only
  have:=zK (u0*1000000000+u1) v1
  grind
 ·dsimp only
  have h1:=zK (u0*1000000000+u1) v1
  have h2:=Int.emod_lt_of_pos (u0*1000000000+u1) (show 0<v1 by omega)
  generalize (u0*1000000000+u1) / v1=q at *
  have h3:(q+1)*(v1*P1)≤(q+1)*V:=zB hVP.1 (by omega)
  have h4:(u0*1000000000+u1+1)*P1≤(v1*q+v1)*P1:=zA (by omega) (by omega)
  have h5:(q+1)*(v1*P1)=(v1*q+v1)*P1:=by grind
  omega
 ·obtain⟨g,r⟩:=w
  dsimp only at hw ⊢
  obtain⟨h1,h2,h3,h4,h5⟩:=hw
  have hgt:g≤u0*1000000000+u1:=by
   have:g*1≤g*v1:=zB hv1.1 (by omega)
   omega
  refine TotX.bind (E:=λb=>b=true↔(g≥1000000000∨g*v2>r*1000000000+u2)) (Tot.ite (λq=>.ok ?_) (λq=>.ok ?_)) (λb hb=>?_)
  ·simp only[decide_eq_true_eq]at q;simp[q]
  ·simp only[decide_eq_false_iff_not]at q
   have hm:=mulB ⟨show 0≤g by omega,show g<1000000000 by omega⟩ hv2
   rw[wU64 (n:=g*v2) (by omega) (by omega),wU64 (n:=r*1000000000) (by omega) (by omega),wU64 (n:=r*1000000000+u2) (by omega) (by omega)]
   simp only[decide_eq_true_eq]
   constructor
   ·exact .inr
   ·rintro (z | z)
    ·omega
    ·exact z
  ·refine TotX.ite (λq=>?_) (λq=>?_)
   ·have hc:=hb.1 q
    have hi:=digit_hi hP hU hV hY hW0 hP2 (show 0≤g by omega) h4 hUV hV0 hc
    have hg1:1≤g:=by
     rcases zI g 1 with z | z
     ·have:g=0:=by omega
      rw[this]at hi;omega
     ·exact z
    have h4':(g-1)*v1+(r+v1)=u0*1000000000+u1:=by rw[←h4];grind
    rw[wU64 (n:=r+v1) (by omega) (by omega),wU64 (n:=g-1) (by omega) (by omega)]
    refine TotX.ite (λq2=>.ret ?_) (λq2=>.go ⟨(g-1).toNat,by omega,by omega,by omega,by simp at q2;omega,h4',by rw[Int.sub_add_cancel];exact hi⟩)
    simp only[ge_iff_le,decide_eq_true_eq]at q2
    have hgB:g-1<1000000000:=by
     rcases zI (g-1) 1000000000 with z | z
     ·exact z
     ·exfalso
      have e1:1000000000*v1≤(g-1)*v1:=zA z (by omega)
      omega
    have hm:=mulB ⟨show 0≤g-1 by omega,hgB⟩ hv2
    exact⟨by omega,hgB,digit_lo hP hU hV hY0 hW0 hW (by omega) h4' hP2 hv1.1 hv2.1 hgB (by omega),by rw[Int.sub_add_cancel];exact hi⟩
   ·have hc:¬(g≥1000000000∨g*v2>r*1000000000+u2):=λz=>by rw[hb.2 z]at q;cases q
    have c1:g<1000000000:=by rcases zI g 1000000000 with z | z;exact z;exact absurd (.inl z) hc
    have c2:g*v2≤r*1000000000+u2:=by rcases zI (r*1000000000+u2) (g*v2)with z | z;exact absurd (.inr z) hc;exact z
    exact .ret ⟨by omega,c1,digit_lo hP hU hV hY0 hW0 hW (by omega) h4 hP2 hv1.1 hv2.1 c1 c2,h5⟩
def win(u:List Int)(k j:Nat):Int:=val ((u.drop k).take j)
theorem win_zero(u:List Int)(k:Nat):win u k 0=0:=by unfold win;simp[val]
theorem win_succ(u:List Int)(k j:Nat):win u k (j+1)=win u k j+lb u (k+j)*pw j:=by unfold win;rw[cd,lb_drop]
theorem win_set{u:List Int}{k j:Nat}{x:Int}(h:k+j<u.length):win (u.set (k+j) x) k (j+1)=win u k j+x*pw j:=by
 unfold win
 have h1:(u.set (k+j) x).drop k=(u.drop k).set j x:=by rw[List.drop_set,if_neg (by omega),Nat.add_sub_cancel_left]
 rw[h1,gn (by simp;omega)]
theorem win_bound{u:List Int}(h:okL u)(k j:Nat):0≤win u k j∧win u k j<pw j:=by
 have h1:=ba (eT j (jT k h))
 refine⟨h1.1,Int.lt_of_lt_of_le h1.2 (pw_mono (by simp;omega))⟩
theorem sub_loop {u y7 : List Int} {k n : Nat} {g : Int} (hu : okL u) (hv : okL y7) (hn : y7.length = n) (hk : k + n + 1 ≤ u.length) (hl : u.length ≤ 2000000) (hg : 0 ≤ g ∧ g < 1000000000) :
    Tot (loopX (λ(v5 : Int × Int × Int × (List Int)) =>
                            if (decide (v5.2.2.1<((n+1:Nat):Int)))=true then
                              bindO (if (decide (v5.2.2.1 < (y7.length : Int))) = true then
                                    bindO (gt y7 v5.2.2.1) λ(e8:Int) =>
                                    some (IntKind.u64.wrap (v5.1+(IntKind.u64.wrap ((IntKind.u64.wrap e8)*g))))
                                  else
                                    some v5.1) λ(v6:Int) =>
                              aB (decide (0≤v5.2.2.1∧v5.2.2.1<((n+1:Nat):Int))) (
                              bindO (gt v5.2.2.2 ((k+Int.toNat v5.2.2.1:Nat):Int)) λ(e9:Int) =>
                              bindO (if (decide ((IntKind.u64.wrap e9) < (IntKind.u64.wrap ((Int.tmod v6 1000000000) + v5.2.1)))) = true then
                                    some (1,IntKind.u64.wrap ((IntKind.u64.wrap e9)+1000000000))
                                  else
                                    some (0,IntKind.u64.wrap e9)) λ(v7:Int×Int) =>
                              aB (decide (0≤v5.2.2.1∧v5.2.2.1<((n+1:Nat):Int))) (
                              bindO (gt v5.2.2.2 ((k+Int.toNat v5.2.2.1:Nat):Int)) λ(e10:Int) =>
                              some (.go (IntKind.u64.wrap (Int.tdiv v6 1000000000),v7.1,IntKind.i64.wrap (v5.2.2.1+1),v5.2.2.2.set (k+Int.toNat v5.2.2.1) (IntKind.u32.wrap (IntKind.u64.wrap (v7.2-(IntKind.u64.wrap ((Int.tmod v6 1000000000)+v5.2.1)))))))))
                            else
                              some (.ret (v5.1,v5.2.1,v5.2.2.2))) fuel (0,0,0,u)) (λw=>w.1=0∧(w.2.1=0∨w.2.1=1)∧okL w.2.2∧w.2.2.length=u.length∧w.2.2.take k=u.take k∧w.2.2.drop (k+n+1)=u.drop (k+n+1)∧win w.2.2 k (n+1)+g*val y7=win u k (n+1)+w.2.1*pw (n+1)):=by
  refine Tot.loop (λm w=>∃j:Nat,j≤n+1∧m=n+1-j∧w.2.2.1=(j:Int)∧0≤w.1∧w.1<1000000000∧(j=n+1→w.1=0)∧(w.2.1=0∨w.2.1=1)∧okL w.2.2.2∧w.2.2.2.length=u.length∧w.2.2.2.take k=u.take k∧w.2.2.2.drop (k+j)=u.drop (k+j)∧win w.2.2.2 k j+g*val (y7.take j)=win u k j+(w.1+w.2.1)*pw j) _ (n+1) (fm (by omega)) ⟨0,by omega,by omega,rfl,by dsimp only;omega,by dsimp only;omega,λ_=>rfl,.inl rfl,hu,rfl,rfl,rfl,by simp[win_zero,val]⟩ (λm w hw=>?_)
  obtain⟨c,bw,jj,o⟩:=w
  obtain⟨j,j1,j2,j3,j4,j5,j6,j7,j8,j9,j10,j11,j12⟩:=hw
  dsimp only at j3 j4 j5 j6 j7 j8 j9 j10 j11 j12 ⊢
  subst j3
  by_cases hj:j=n+1
  · subst hj
    refine TotX.ite (λq=>by simp at q) (λ_=>.ret ⟨j6 rfl,j7,j8,j9,j10,by rw[zT];exact j11,?_⟩)
    dsimp only
    rw[bC (by omega),j6 rfl]at j12
    rw[j12];grind
  · refine TotX.ite (λ_=>?_) (λq=>absurd q (by simp;omega))
    have hy:=lb_ok hv j
    have hm:=mulB hy hg
    refine TotX.bind (E:=λs=>s=c+lb y7 j*g) (Tot.ite (λq=>?_) (λq=>?_)) (λs hs=>?_)
    · have q':j<y7.length:=by simp at q;omega
      rw[gt_l q',ae]
      exact .ok (by rw[wU64 (n:=lb y7 j) (by omega) (by omega),wU64 (n:=lb y7 j*g) (by omega) (by omega),wU64 (by omega) (by omega)])
    · have q':y7.length≤j:=by simp at q;omega
      exact .ok (by rw[lb_out q'];omega)
    · have hgd:(decide (0≤(j:Int)∧(j:Int)<((n+1:Nat):Int)))=true:=decide_eq_true ⟨by omega,by omega⟩
      refine TotX.guard hgd ?_
      rw[zE,gt_l (show k+j<o.length by omega),ae]
      have ho:=lb_ok j8 (k+j)
      have hou:=lb_of_drop j11
      have hs0:0≤s:=by omega
      rw[tmd hs0,tdv hs0,wU64 (n:=lb o (k+j)) (by omega) (by omega),wU64 (n:=s % 1000000000+bw) (by omega) (by omega),wU64 (n:=s / 1000000000) (by omega) (by omega)]
      refine TotX.bind (E:=λw=>(w.1=0∨w.1=1)∧0≤w.2-(s % 1000000000+bw)∧w.2-(s % 1000000000+bw)<1000000000∧w.2=lb o (k+j)+1000000000*w.1) (Tot.ite (λq=>.ok ?_) (λq=>.ok ?_)) (λw hw=>?_)
      · simp only[decide_eq_true_eq]at q
        rw[wU64 (by omega) (by omega)]
        exact⟨.inr rfl,by dsimp only;omega,by dsimp only;omega,by dsimp only;omega⟩
      · simp only[decide_eq_false_iff_not]at q
        exact⟨.inl rfl,by dsimp only;omega,by dsimp only;omega,by dsimp only;omega⟩
      · obtain⟨w1,w2⟩:=w
        dsimp only at hw ⊢
        obtain⟨q1,q2,q3,q4⟩:=hw
        refine TotX.guard hgd ?_
        rw[ae,wU64 (by omega) (by omega),wU32 (by omega) (by omega),wI64 (by omega) (by omega)]
        refine .go ⟨n+1-(j+1),by omega,j+1,by omega,rfl,by dsimp only;omega,by dsimp only;omega,?_,?_,q1,kW j8 q2 q3,by simp[j9],?_,?_,?_⟩
        · dsimp only;omega
        · intro z
          dsimp only
          have:j=n:=by omega
          rw[lb_out (by omega)]at hs
          omega
        · rw[take_set_lt (by omega)];exact j10
        · rw[i7 (by omega),←zT];exact drop_succ_eq j11
        · dsimp only
          rw[win_set (by omega),win_succ,cd,ce,←hou]
          have e:=zK s 1000000000
          generalize s % 1000000000=a at *
          generalize s / 1000000000=d at *
          grind
theorem res_loop {u y7 : List Int} {k n : Nat} (hu : okL u) (hv : okL y7) (hn : y7.length = n) (hk : k + n + 1 ≤ u.length) (hl : u.length ≤ 2000000) :
    Tot (loopX (λ(v10 : Int × Int × (List Int)) =>
                              if (decide (v10.2.1<((n+1:Nat):Int)))=true then
                                aB (decide (0≤v10.2.1∧v10.2.1<((n+1:Nat):Int))) (
                                bindO (gt v10.2.2 ((k+Int.toNat v10.2.1:Nat):Int)) λ(e11:Int) =>
                                bindO (if (decide (v10.2.1 < (y7.length : Int))) = true then
                                      bindO (gt y7 v10.2.1) λ(e12:Int) =>
                                      some (IntKind.u32.wrap ((IntKind.u32.wrap (e11+v10.1))+e12))
                                    else
                                      some (IntKind.u32.wrap (e11+v10.1))) λ(v11:Int) =>
                                bindO (if (decide (v11 ≥ 1000000000)) = true then
                                      some (1,IntKind.u32.wrap (v11-1000000000))
                                    else
                                      some (0,v11)) λ(v12:Int×Int) =>
                                aB (decide (0≤v10.2.1∧v10.2.1<((n+1:Nat):Int))) (
                                bindO (gt v10.2.2 ((k+Int.toNat v10.2.1:Nat):Int)) λ(e13:Int) =>
                                some (.go (v12.1,IntKind.i64.wrap (v10.2.1+1),v10.2.2.set (k+Int.toNat v10.2.1) v12.2))))
                              else
                                some (.ret v10.2.2)) fuel (0,0,u)) (λw=>okL w∧w.length=u.length∧w.take k=u.take k∧w.drop (k+n+1)=u.drop (k+n+1)∧(win w k (n+1)=win u k (n+1)+val y7∨win w k (n+1)+pw (n+1)=win u k (n+1)+val y7)):=by
  refine Tot.loop (λm w=>∃j:Nat,j≤n+1∧m=n+1-j∧w.2.1=(j:Int)∧(w.1=0∨w.1=1)∧okL w.2.2∧w.2.2.length=u.length∧w.2.2.take k=u.take k∧w.2.2.drop (k+j)=u.drop (k+j)∧win w.2.2 k j+w.1*pw j=win u k j+val (y7.take j)) _ (n+1) (fm (by omega)) ⟨0,by omega,by omega,rfl,.inl rfl,hu,rfl,rfl,rfl,by simp[win_zero,val]⟩ (λm w hw=>?_)
  obtain⟨c,jj,o⟩:=w
  obtain⟨j,j1,j2,j3,j7,j8,j9,j10,j11,j12⟩:=hw
  dsimp only at j3 j7 j8 j9 j10 j11 j12 ⊢
  subst j3
  by_cases hj:j=n+1
  · subst hj
    refine TotX.ite (λq=>by simp at q) (λ_=>.ret ⟨j8,j9,j10,by rw[zT];exact j11,?_⟩)
    rw[bC (by omega)]at j12
    rcases j7 with z | z
    · left;rw[z]at j12;omega
    · right;rw[z]at j12;omega
  · refine TotX.ite (λ_=>?_) (λq=>absurd q (by simp;omega))
    have hy:=lb_ok hv j
    have hgd:(decide (0≤(j:Int)∧(j:Int)<((n+1:Nat):Int)))=true:=decide_eq_true ⟨by omega,by omega⟩
    refine TotX.guard hgd ?_
    rw[zE,gt_l (show k+j<o.length by omega),ae]
    have ho:=lb_ok j8 (k+j)
    have hou:=lb_of_drop j11
    refine TotX.bind (E:=λs=>s=lb o (k+j)+c+lb y7 j) (Tot.ite (λq=>?_) (λq=>?_)) (λs hs=>?_)
    · have q':j<y7.length:=by simp at q;omega
      rw[gt_l q',ae]
      exact .ok (by rw[wU32 (n:=lb o (k+j)+c) (by omega) (by omega),wU32 (by omega) (by omega)])
    · have q':y7.length≤j:=by simp at q;omega
      exact .ok (by rw[lb_out q',wU32 (by omega) (by omega)];omega)
    · refine TotX.bind (E:=λw=>(w.1=0∨w.1=1)∧0≤w.2∧w.2<1000000000∧w.2+1000000000*w.1=s) (Tot.ite (λq=>.ok ?_) (λq=>.ok ?_)) (λw hw=>?_)
      · simp only[ge_iff_le,decide_eq_true_eq]at q
        rw[wU32 (by omega) (by omega)]
        exact⟨.inr rfl,by dsimp only;omega,by dsimp only;omega,by dsimp only;omega⟩
      · simp only[ge_iff_le,decide_eq_false_iff_not]at q
        exact⟨.inl rfl,by dsimp only;omega,by dsimp only;omega,by dsimp only;omega⟩
      · obtain⟨w1,w2⟩:=w
        dsimp only at hw ⊢
        obtain⟨q1,q2,q3,q4⟩:=hw
        refine TotX.guard hgd ?_
        rw[ae,wI64 (by omega) (by omega)]
        refine .go ⟨n+1-(j+1),by omega,j+1,by omega,rfl,by dsimp only;omega,q1,kW j8 q2 q3,by simp[j9],?_,?_,?_⟩
        · rw[take_set_lt (by omega)];exact j10
        · rw[i7 (by omega),←zT];exact drop_succ_eq j11
        · dsimp only
          rw[win_set (by omega),win_succ,cd,ce,←hou]
          grind
theorem kK(x:Int):val [x]=x:=by simp[val]
theorem win_all{u:List Int}(hu:okL u){k n:Nat}(h:val (u.drop k)<pw n):val (u.drop k)=win u k n∧val (u.drop (k+n))=0:=by
 unfold win
 rcases Nat.le_total n (u.drop k).length with q | q
 ·have h1:=bV (u.drop k) n q
  have h2:=ba (eT n (jT k hu))
  have h3:=ba (jT n (jT k hu))
  rw[zQ]at h1 h3
  rcases zI 0 (val (u.drop (k+n)))with z | z
  ·have:=zB (show 1≤val (u.drop (k+n)) by omega) (zG (jb n))
   omega
  ·rw[show val (u.drop (k+n))=0 by omega]at h1 ⊢
   exact⟨by omega,rfl⟩
 ·rw[bC q,←zQ,zH q]
  exact⟨rfl,rfl⟩
theorem div_scale{B:List Int}{n:Nat}(hB:okL B)(tB:trm B=B)(hn:B.length=n+2):1≤lb B (n+1)∧1≤1000000000 / (lb B (n+1)+1)∧1000000000 / (lb B (n+1)+1)<1000000000∧pw (n+1)≤val B*(1000000000 / (lb B (n+1)+1))∧val B*(1000000000 / (lb B (n+1)+1))<pw (n+2):=by
 have hx:=lb_ok hB (n+1)
 have hx0:1≤lb B (n+1):=by
  have hl:B[n+1]? = some B[n+1]:=List.getElem?_eq_getElem (by omega)
  have hg:B.getLast? = some B[n+1]:=by rw[List.getLast?_eq_getElem?,show B.length-1=n+1 by omega];exact hl
  have:=last_trm tB hg
  rw[lb_of hl]at hx ⊢
  omega
 have hBhi:val B<(lb B (n+1)+1)*pw (n+1):=by
  have h1:=cd B (n+1)
  rw[bC (by omega)]at h1
  have h2:=(ba (eT (n+1) hB)).2
  rw[zN,zF (by omega)]at h2
  have h3:(lb B (n+1)+1)*pw (n+1)=lb B (n+1)*pw (n+1)+pw (n+1):=by grind
  omega
 have hBlo:pw (n+1)≤val B:=pw_le_val hB tB hn
 have hP:=jb (n+1)
 have hB0:=(ba hB).1
 generalize lb B (n+1)=x at *
 have hs1:1≤1000000000 / (x+1):=(zZ (by omega)).2 (by omega)
 have hs2:(x+1)*(1000000000 / (x+1))≤1000000000:=by
  have:=Int.ediv_mul_le 1000000000 (b:=x+1) (by omega)
  rw[zX];exact this
 generalize 1000000000 / (x+1)=s at *
 have hs3:s<1000000000:=by
  have:2*s≤(x+1)*s:=zA (by omega) (by omega)
  omega
 refine⟨hx0,hs1,hs3,?_,?_⟩
 ·have h1:val B*1≤val B*s:=zB hs1 hB0
  omega
 ·have h1:val B*s<(x+1)*pw (n+1)*s:=Int.mul_lt_mul_of_pos_right hBhi (by omega)
  have h2:(x+1)*s*pw (n+1)≤1000000000*pw (n+1):=zA hs2 (by omega)
  have h3:(x+1)*pw (n+1)*s=(x+1)*s*pw (n+1):=by grind
  rw[ce (n+1)];omega
theorem len_of_val{v:List Int}{n:Nat}(hV:okL v)(tV:trm v=v)(h1:pw n≤val v)(h2:val v<pw (n+1)):v.length=n+1:=by
 have h3:=len_le_of_val hV tV h2
 rcases zW v.length (n+1)with z | z
 ·have:=(ba hV).2
  have:=pw_mono (show v.length≤n by omega)
  omega
 ·omega
theorem top_pos{v:List Int}{n:Nat}(hV:okL v)(tV:trm v=v)(hl:v.length=n+1):1≤lb v n:=by
 have h1:v[n]? = some v[n]:=List.getElem?_eq_getElem (by omega)
 have hg:v.getLast? = some v[n]:=by rw[List.getLast?_eq_getElem?,show v.length-1=n by omega];exact h1
 have h2:=last_trm tV hg
 have h3:=lb_ok hV n
 rw[lb_of h1]at h3 ⊢
 omega
theorem div_win{w v:List Int}{k n:Nat}(hw:okL w)(hlt:val (w.drop (k+1))<val v)(hv:val v<pw (n+2)):win w k (n+3)<1000000000*val v∧val (w.drop k)=win w k (n+3)∧val (w.drop (k+(n+3)))=0 ∧
  win w k (n+3)=lb w (k+(n+2))*(1000000000*pw (n+1))+lb w (k+(n+1))*pw (n+1)+lb w (k+n)*pw n+win w k n:=by
 have hd1:=val_drop_lb w k
 have hkk:=lb_ok hw k
 have hUV:val (w.drop k)<1000000000*val v:=by omega
 have hUp:val (w.drop k)<pw (n+3):=by rw[ce (n+2)];omega
 obtain⟨hwin,htop⟩:=win_all hw hUp
 refine⟨by omega,hwin,htop,?_⟩
 rw[win_succ,win_succ,win_succ,ce (n+1)];omega
theorem div_v{v:List Int}{n:Nat}(hV:okL v)(hl:v.length=n+2):val v=lb v (n+1)*pw (n+1)+lb v n*pw n+val (v.take n)∧0≤val (v.take n)∧val (v.take n)<pw n:=by
 have h1:=cd v (n+1)
 rw[bC (by omega),cd v n]at h1
 have hWb:=ba (eT n hV)
 rw[zN,zF (by omega)]at hWb
 exact⟨by omega,hWb⟩
theorem div_pick{W V g b o P:Int}(h:o+g*V=W+b*P)(hb:b=0∨b=1)(ho:0≤o∧o<P)(h1:g*V<W+V)(h2:W<(g+1)*V)(hg:0≤g)(hW:0≤W):(b=0→0≤o∧o<V∧o+g*V=W)∧(b=1→1≤g∧∀z,0≤z∧z<P→(z=o+V∨z+P=o+V)→0≤z∧z<V∧z+(g-1)*V=W):=by
 have e1:(g+1)*V=g*V+V:=by grind
 have e2:(g-1)*V=g*V-V:=by grind
 constructor
 ·rintro rfl
  exact⟨ho.1,by omega,by omega⟩
 ·rintro rfl
  refine⟨?_,λz hz hc=>?_⟩
  ·rcases zI g 1 with y | y
   ·have:g=0:=by omega
    subst this;omega
   ·exact y
  ·have:z+P=o+V:=by
    rcases hc with y | y
    ·exfalso;omega
    ·exact y
   omega
theorem div_round{w q v:List Int}{k n N:Nat}{T:Int}{GL:Option Int}{SL:Int→Option (Int×Int×List Int)}{RL:Bool×List Int→Option (List Int)}{c1:Bool}{cw:Bool×List Int→Bool}
  (hk:k<N) (hN:N+n≤600000) (hw:okL w) (hwl:w.length=N+n+2) (hq:okL q) (hql:q.length=N) (hc1:c1=true)
  (hwin:val (w.drop k)=win w k (n+3)) (htop:val (w.drop (k+(n+3)))=0) (hinv:val w+val v*(pw (k+1)*val (q.drop (k+1)))=T)
  (hcw:∀b o,o.length=w.length→cw (b,o)=true)
  (hGL:Tot GL (λg=>0≤g∧g<1000000000∧g*val v<win w k (n+3)+val v∧win w k (n+3)<(g+1)*val v))
  (hSL:∀g,0≤g∧g<1000000000→Tot (SL g) (λt=>t.1=0∧(t.2.1=0∨t.2.1=1)∧okL t.2.2∧t.2.2.length=w.length∧t.2.2.take k=w.take k∧t.2.2.drop (k+(n+3))=w.drop (k+(n+3))∧win t.2.2 k (n+3)+g*val v=win w k (n+3)+t.2.1*pw (n+3)))
  (hRL:∀b o,okL o→o.length=w.length→Tot (RL (b,o)) (λz=>okL z∧z.length=o.length∧z.take k=o.take k∧z.drop (k+(n+3))=o.drop (k+(n+3))∧(win z k (n+3)=win o k (n+3)+val v∨win z k (n+3)+pw (n+3)=win o k (n+3)+val v))) :
  Tot (aB c1 (aB c1 (bindO GL λv4=>aB (cw (true,w)) (bindO (bindO (SL v4) λv8=>some (decide (v8.2.1>0)||decide (v8.1>0),v8.2.2)) λv9 =>
    bindO (if v9.1=true then aB (cw v9) (bindO (RL v9) λv13=>some (IntKind.u64.wrap (v4-1),v13))else some (v4,v9.2)) λv14 =>
    bindO (gt q (k:Int)) λe14=>some (v14.2,q.set (Int.toNat (k:Int)) (IntKind.u32.wrap v14.1))))))
   (λr=>okL r.1∧r.1.length=N+n+2∧okL r.2∧r.2.length=N∧val (r.1.drop k)<val v∧val r.1+val v*(pw k*val (r.2.drop k))=T):=by
 refine Tot.guard hc1 (Tot.guard hc1 (Tot.bind hGL λg hg=>?_))
 obtain⟨g1,g2,g3,g4⟩:=hg
 refine Tot.guard (hcw _ _ rfl) ?_
 refine Tot.bind (Tot.bind (hSL g ⟨g1,g2⟩) (λt ht=>.ok (E:=λt=>∃c b:Int,∃o:List Int,t=(decide (b>0)||decide (c>0),o)∧c=0∧(b=0∨b=1)∧okL o∧o.length=w.length∧o.take k=w.take k∧o.drop (k+(n+3))=w.drop (k+(n+3))∧win o k (n+3)+g*val v=win w k (n+3)+b*pw (n+3)) ⟨t.1,t.2.1,t.2.2,rfl,ht⟩)) (λt ht=>?_)
 obtain⟨c,b,o,rfl,rfl,o1,o2,o3,o4,o5,o6⟩:=ht
 obtain⟨k1,k2⟩:=div_pick o6 o1 (win_bound o2 k (n+3)) g3 g4 g1 (win_bound hw k (n+3)).1
 refine Tot.bind (E:=λt=>∃g':Int,∃z:List Int,t=(g',z)∧0≤g'∧g'<1000000000∧okL z∧z.length=w.length∧z.take k=w.take k∧z.drop (k+(n+3))=w.drop (k+(n+3))∧win z k (n+3)<val v∧win z k (n+3)+g'*val v=win w k (n+3)) (Tot.ite (λhb=>?_) (λhb=>?_)) (λt ht=>?_)
 ·have b1:b=1:=by
   rcases o1 with z | z
   ·subst z;simp at hb
   ·exact z
  obtain⟨hg1,hz⟩:=k2 b1
  refine Tot.guard (hcw _ _ o3) (Tot.bind (hRL _ _ o2 o3) (λz hz'=>?_))
  obtain⟨z1,z2,z3,z4,z5⟩:=hz'
  obtain⟨y1,y2,y3⟩:=hz _ (win_bound z1 k (n+3)) z5
  rw[wU64 (by omega) (by omega)]
  exact .ok ⟨g-1,z,rfl,by omega,by omega,z1,by omega,by rw[z3,o4],by rw[z4,o5],y2,y3⟩
 ·have b0:b=0:=by
   rcases o1 with z | z
   ·exact z
   ·subst z;simp at hb
  obtain⟨y1,y2,y3⟩:=k1 b0
  exact .ok ⟨g,o,rfl,g1,g2,o2,o3,o4,o5,y2,y3⟩
 ·obtain⟨g',z,rfl,g1',g2',z1,z2,z3,z4,z6,z7⟩:=ht
  clear k1 k2 o1 o2 o3 o4 o5 o6 g3 g4 g1 g2 hSL hRL hcw
  dsimp only
  rw[gt_l (show k<q.length by omega),ae,wU32 (by omega) (by omega),zE]
  have hzt:val (z.drop (k+(n+3)))=0:=by rw[z4];exact htop
  have hzd:val (z.drop k)=win z k (n+3):=by
   have h1:=bV (z.drop k) (n+3) (by simp;omega)
   rw[zQ,hzt]at h1
   unfold win;omega
  have hwt:=bV w k (by omega)
  have hzt2:=bV z k (by omega)
  rw[z3]at hzt2
  refine .ok ⟨z1,by dsimp only;omega,kW hq g1' g2',by simp[hql],by dsimp only;omega,?_⟩
  dsimp only
  rw[val_drop_set (by omega),hzt2,hzd]
  rw[hwt,hwin,←z7,ce]at hinv
  rw[←hinv]
  generalize val (w.take k)=A1
  generalize win z k (n+3)=A2
  generalize val (q.drop (k+1))=A3
  generalize pw k=A4
  generalize val v=A5
  grind
theorem div_last{t r s X:Int}(h:t*s+r=s*X)(h0:0≤r)(h1:r<s):t=X:=by
 have e3:s*(X-t)=r:=by
  have:s*(X-t)=s*X-t*s:=by grind
  omega
 have d0:X-t=0:=by
  generalize X-t=d at *
  rcases Int.lt_trichotomy d 0 with z | z | z
  ·have:=zB (show d≤-1 by omega) (show 0≤s by omega);omega
  ·exact z
  ·have:=zB (show 1≤d by omega) (show 0≤s by omega);omega
 omega
theorem div_init{w0 u:List Int}{N n:Nat}(hU0:okL w0)(hl:w0.length=N+n+2)(hu1:okL u)(hul:u.length=N+(n+1))(hv:val w0=val u):val (w0.drop N)<pw (n+1):=by
 have h1:=bV w0 N (by omega)
 have h2:=(ba (eT N hU0)).1
 have h3:val w0<pw N*pw (n+1):=by
  rw[←pw_add,hv]
  have h4:=(ba hu1).2
  rw[hul]at h4
  exact h4
 have h5:pw N*val (w0.drop N)<pw N*pw (n+1):=by omega
 exact Int.lt_of_mul_lt_mul_left h5 (zG (jb N))
theorem sg_dec{z:Int}:decide (sg z<0)=decide (z<0):=by
 apply decide_eq_decide.2
 unfold sg
 split
 ·simp;omega
 ·split
  ·simp;omega
  ·simp;omega
set_option maxHeartbeats 4000000 in
theorem it_divide_ok{a b:List Int}(ha:okL a)(hb:okL b)(la0:a.length≤500000)(lb0:b.length≤500000)(h0:val b≠0):Tot (ic a b) (λp=>okL p.1∧okL p.2∧val p.1*val b+val p.2=val a∧val p.2<val b∧p.1.length≤a.length+2∧p.2.length≤a.length+2):=by
  have la:a.length≤1000000:=by omega
  have lb':b.length≤1000000:=by omega
  unfold ic
  rw[fL a la,ae,fL b lb',ae]
  have hA:=jv ha;have vA:=gI a;have lA:=trm_le a
  have hB:=jv hb;have tB:=trm_trm b;have vB:=gI b;have lB:=trm_le b
  rw[←vB,←vA]
  rw[←vB]at h0
  generalize trm a=A at *
  generalize trm b=B at *
  have hbA:=ba hA
  have hbB:=ba hB
  clear ha hb vA vB la lb'
  refine Tot.ite (λq=>?_) (λq=>?_)
  · have q1:B.length=1:=by simp at q;omega
    have hx:=lb_ok hB 0
    have hBx:B=[lb B 0]:=by
      cases B with
      | nil=>simp at q1
      | cons x l =>
        cases l with
        | nil=>rfl
        | cons y l=>simp at q1
    have vx:val B=lb B 0:=by rw[hBx,kK];rfl
    have e0:gt B 0=some (lb B 0):=gt_l (i:=0) (by omega)
    rw[e0,ae]
    rw[vx]at h0 ⊢
    refine Tot.bind (it_byWord_ok hA (by omega) (by omega) hx.2) (λp hp=>.ok ?_)
    obtain⟨p1,p2,r,p3,p4,p5,p6⟩:=hp
    refine⟨p1,?_,?_,?_,by dsimp only;omega,?_⟩
    · dsimp only;rw[p3];exact bJ.2 ⟨by omega,d9⟩
    · dsimp only;rw[p3,kK];exact p6
    · dsimp only;rw[p3,kK];exact p5
    · dsimp only;rw[p3];simp
  · rw[fE hA hB (by omega) (by omega),ae,sg_dec]
    refine Tot.ite (λq2=>?_) (λq2=>?_)
    · have hlt:val A<val B:=by simp at q2;omega
      refine Tot.guard (bF (by omega)) (.ok ⟨d9,hA,by simp[val],hlt,by simp,by dsimp only;omega⟩)
    · have hge:val B≤val A:=by simp at q2;omega
      have hlen:B.length≤A.length:=by
        rcases zW A.length B.length with z | z
        · have:=iy hA hB tB z;omega
        · exact z
      obtain⟨n,hn⟩:∃n,B.length=n+2:=by
        rcases zW B.length 2 with z | z
        · exfalso
          have z1:B.length≠1:=by simp at q;omega
          have z0:B=[]:=List.length_eq_zero_iff.1 (by omega)
          rw[z0]at h0;exact h0 rfl
        · exact⟨B.length-2,by omega⟩
      clear q q2 hge
      have eN1:IntKind.i64.wrap ((B.length:Int)-1)=((n+1:Nat):Int):=by rw[wI64 (by omega) (by omega)];omega
      have eN2:IntKind.i64.wrap ((B.length:Int)-2)=(n:Int):=by rw[wI64 (by omega) (by omega)];omega
      rw[eN1,eN2,gt_l (show n+1<B.length by omega),ae]
      have hx:=lb_ok hB (n+1)
      obtain⟨hx0,hs1,hs3,hVlo,hVhi⟩:=div_scale hB tB hn
      generalize hX:lb B (n+1)=x at *
      rw[wU64 (n:=x) (by omega) (by omega),wU64 (n:=x+1) (by omega) (by omega),tdv (by omega)]
      generalize 1000000000 / (x+1)=s at *
      rw[wU64 (n:=s) (by omega) (by omega),wU32 (n:=s) (by omega) (by omega)]
      refine Tot.guard (by simp;omega) ?_
      have hS:okL [s]:=bJ.2 ⟨by omega,d9⟩
      refine Tot.bind (kX hA hS (by omega) (by simp)) (λu hu=>?_)
      obtain⟨hu1,hu2,hu3⟩:=hu
      rw[kK]at hu2
      have hu3':u.length=A.length+1:=by simpa using hu3
      refine Tot.guard (bF (by omega)) ?_
      refine Tot.bind (kX hB hS (by omega) (by simp)) (λv0 hv0=>?_)
      obtain⟨hv1,hv2,hv3⟩:=hv0
      rw[kK]at hv2
      have hv3':v0.length=B.length+1:=by simpa using hv3
      rw[fL v0 (by omega),ae]
      have hV:=jv hv1
      have tV:=trm_trm v0
      have vV:val (trm v0)=val B*s:=by rw[gI,hv2]
      generalize trm v0=v at *
      rw[←vV]at hVlo hVhi
      have hvl:=len_of_val hV tV hVlo hVhi
      have hv1p:=top_pos hV tV hvl
      clear hu3 hv3 hv3' hv1 hv2 hX hx hx0
      have eQ:IntKind.i64.wrap (((u.length+1:Nat):Int)-(B.length:Int))=((A.length-n:Nat):Int):=by rw[wI64 (by omega) (by omega)];omega
      rw[eQ,zE]
      refine Tot.guard (decide_eq_true (by omega)) (Tot.guard (bF (by omega)) ?_)
      obtain⟨N,hN⟩:∃N,A.length-n=N:=⟨_,rfl⟩
      rw[hN]
      have hU0:okL (u++[0]):=jU.2 ⟨hu1,bJ.2 ⟨by omega,d9⟩⟩
      have hUu:val (u++[0])=val u:=by rw[eN,kK];omega
      have hUl:(u++[0]).length=N+n+2:=by simp;omega
      have hin:=div_init hU0 hUl hu1 (by omega) hUu
      generalize u++[0]=w0 at *
      rw[hu2]at hUu
      have hNn:N+n≤500000:=by omega
      have hBn:B.length≤N+n+2:=by omega
      have hAl:A.length=N+n:=by omega
      clear hu1 hu2 hu3' eQ hlen eN1 eN2
      refine Tot.bind (E:=λp=>okL p.1∧p.1.length=N+n+2∧okL p.2∧p.2.length=N∧val p.1<val v∧val p.1+val v*val p.2=val A*s) (Tot.loop (λm p=>p.1=(m:Int)-1∧m≤N∧okL p.2.1∧p.2.1.length=N+n+2∧okL p.2.2∧p.2.2.length=N∧val (p.2.1.drop m)<val v∧val p.2.1+val v*(pw m*val (p.2.2.drop m))=val A*s) _ N (fm (by omega)) ⟨?_,zD _,hU0,hUl,okL_rep _,by simp,?_,?_⟩ (λm p hp=>?_)) (λp hp=>?_)
      · dsimp only;rw[wI64 (by omega) (by omega)]
      · dsimp only;omega
      · dsimp only
        rw[zH (by simp),hUu];simp[val]
      · obtain⟨kk,w,q⟩:=p
        dsimp only at hp ⊢
        obtain⟨rfl,hm,hw,hwl,hq,hql,hlt,hinv⟩:=hp
        clear hU0 hUl hin hUu hN
        cases m with
        | zero =>
          refine TotX.ite (λz=>absurd z (by simp)) (λ_=>.ret ⟨hw,hwl,hq,hql,by simpa using hlt,?_⟩)
          simpa [pw] using hinv
        | succ k =>
          have e1:((k+1:Nat):Int)-1=(k:Int):=by omega
          rw[e1]
          refine TotX.ite (λ_=>?_) (λz=>absurd z (by simp))
          have ek:IntKind.i64.wrap ((k:Int)+(B.length:Int))=((k+(n+2):Nat):Int):=by rw[wI64 (by omega) (by omega)];omega
          rw[ek]
          have ek1:IntKind.i64.wrap (((k+(n+2):Nat):Int)-1)=((k+(n+1):Nat):Int):=by rw[wI64 (by omega) (by omega)];omega
          have ek2:IntKind.i64.wrap (((k+(n+2):Nat):Int)-2)=((k+n:Nat):Int):=by rw[wI64 (by omega) (by omega)];omega
          have ek3:IntKind.i64.wrap (((k+(n+2):Nat):Int)+1)=((k+(n+3):Nat):Int):=by rw[wI64 (by omega) (by omega)];omega
          have ek4:(((k+(n+3):Nat):Int)).toNat-((k:Int)).toNat=(n+2)+1:=by omega
          rw[ek1,ek2,ek3,ek4]
          rw[gt_l (show k+(n+2)<w.length by omega),gt_l (show k+(n+1)<w.length by omega),gt_l (show k+n<w.length by omega),gt_l (show n+1<v.length by omega),gt_l (show n<v.length by omega)]
          simp only[ae]
          clear ek ek1 ek2 ek3 ek4 e1
          have hW0:=lb_ok hw (k+(n+2));have hW1:=lb_ok hw (k+(n+1));have hW2:=lb_ok hw (k+n)
          have hv1':=lb_ok hV (n+1);have hv2':=lb_ok hV n
          obtain⟨hUV,hwin,htop,hU⟩:=div_win hw hlt hVhi
          obtain⟨hVd,hV1,hV2⟩:=div_v hV hvl
          have hYb:=win_bound hw k n
          have hG:=guess_loop (ce n) hU hVd hYb.1 hYb.2 hV1 hV2 (jb n) hW0 hW1 hW2 ⟨hv1p,hv1'.2⟩ hv2' hUV
          have hq0:0≤(lb w (k+(n+2))*1000000000+lb w (k+(n+1))) / lb v (n+1):=Int.ediv_nonneg (by omega) (by omega)
          have hq1:(lb w (k+(n+2))*1000000000+lb w (k+(n+1))) / lb v (n+1)≤lb w (k+(n+2))*1000000000+lb w (k+(n+1)):=Int.ediv_le_self _ (by omega)
          have hc1:(!(lb v (n+1)==0))=true:=by simp;omega
          clear hU hVd hYb hV1 hV2 hUV hlt hVlo hVhi hs1 hs3
          rw[wU64 (n:=lb v (n+1)) (by omega) (by omega),wU64 (n:=lb v n) (by omega) (by omega),wU64 (n:=lb w (k+(n+2))) (by omega) (by omega),wU64 (n:=lb w (k+(n+1))) (by omega) (by omega),wU64 (n:=lb w (k+n)) (by omega) (by omega),wU64 (n:=lb w (k+(n+2))*1000000000) (by omega) (by omega),wU64 (n:=lb w (k+(n+2))*1000000000+lb w (k+(n+1))) (by omega) (by omega),tdv (by omega),tmd (by omega)]
          rw[wU64 (n:=(lb w (k+(n+2))*1000000000+lb w (k+(n+1))) / lb v (n+1)) hq0 (by omega)]
          clear hq0 hq1 hW0 hW1 hW2 hv1' hv2' hv1p
          refine TotX.bind (div_round (cw:=λv9=>decide ((0:Int)≤(k:Int)∧(k:Int)≤((k+(n+3):Nat):Int)∧((k+(n+3):Nat):Int)≤((v9.2.length:Nat):Int))) (show k<N by omega) (by omega) hw hwl hq hql hc1 hwin htop hinv (λb o ho=>decide_eq_true ⟨by omega,by omega,by dsimp only;omega⟩) hG (λg hg=>?_) (λb o ho hol=>?_)) (λr hr=>?_)
          · exact sub_loop hw hV hvl (by omega) (by omega) hg
          · exact res_loop ho hV hvl (show k+(n+2)+1≤o.length by omega) (show o.length≤2000000 by omega)
          · rw[wI64 (by omega) (by omega)]
            obtain⟨r1,r2,r3,r4,r5,r6⟩:=hr
            exact .go ⟨k,by omega,rfl,by omega,r1,r2,r3,r4,r5,r6⟩
      · obtain⟨w,q⟩:=p
        dsimp only at hp ⊢
        obtain⟨p1,p2,p3,p4,p5,p6⟩:=hp
        rw[cutT_k (show B.length≤w.length by omega),ae,hn]
        have hrl:(w.take (n+2)).length≤n+2:=by simp;omega
        rw[fL _ (by omega),ae]
        have hwb:=ba p1
        have hwe:val (w.take (n+2))=val w:=by
          have:=(win_all (k:=0) (n:=n+2) p1 (by simpa using (show val w<pw (n+2) by omega))).1
          unfold win at this
          simp only[List.drop_zero]at this
          exact this.symm
        refine Tot.bind (it_byWord_ok (jv (eT _ p1)) (Nat.le_trans (trm_le _) (by omega)) (by omega) hs3) (λt ht=>.ok ?_)
        obtain⟨t1,t2,r,t3,t4,t5,t6⟩:=ht
        rw[gI,hwe]at t6
        have hr0:val t.1=val A-val B*val q:=div_last (s:=s) (r:=r) (by
          rw[t6]
          have e1:val B*s*val q=s*(val B*val q):=by grind
          have e2:s*(val A-val B*val q)=val A*s-s*(val B*val q):=by grind
          rw[vV]at p6
          omega) t4 t5
        have htl:=trm_le (w.take (n+2))
        refine⟨p3,t1,?_,?_,by dsimp only;omega,by dsimp only;omega⟩
        · dsimp only;rw[hr0,zX];omega
        · dsimp only
          rcases zI (val t.1) (val B)with z | z
          · exact z
          · exfalso
            have e1:val B*s≤val t.1*s:=zA z (by omega)
            omega
theorem Tot.get{α:Type}{m:Option α}{x:α}(h:Tot m (λe=>e=x)):m=some x:=by
 obtain⟨e,h1,rfl⟩:=h;exact h1
def Bd(n:Nat)(z:Int):Prop:=(z.natAbs:Int)<pw n
theorem Bd.mono{n m:Nat}{z:Int}(h:Bd n z)(hm:n≤m):Bd m z:=Int.lt_of_lt_of_le h (pw_mono hm)
theorem Bd.len{n:Nat}{z:Int}(h:Bd n z):(ofI z).Limbs.length≤n:=ofI_len h
theorem Bd.neg{n:Nat}{z:Int}(h:Bd n z):Bd n (-z):=by unfold Bd at *;rw[Int.natAbs_neg];exact h
theorem Bd.le{n:Nat}{a b:Int}(h:Bd n b)(hb:a.natAbs≤b.natAbs):Bd n a:=by unfold Bd at *;omega
theorem Bd.add{n m:Nat}{a b:Int}(ha:Bd n a)(hb:Bd m b):Bd (max n m+1) (a+b):=by
 have h1:Bd (max n m) a:=ha.mono (Nat.le_max_left _ _)
 have h2:Bd (max n m) b:=hb.mono (Nat.le_max_right _ _)
 unfold Bd at *
 rw[ce]
 omega
theorem Bd.mul{n m:Nat}{a b:Int}(ha:Bd n a)(hb:Bd m b):Bd (n+m) (a*b):=by
 unfold Bd at *
 rw[Int.natAbs_mul,pw_add,Int.natCast_mul]
 have h1:(a.natAbs:Int)*b.natAbs≤pw n*b.natAbs:=zA (zG ha) (by omega)
 have h2:pw n*(b.natAbs:Int)<pw n*pw m:=Int.mul_lt_mul_of_pos_left hb (jb n)
 omega
theorem Bd.i64{z:Int}(h:-9223372036854775808≤z)(h2:z≤9223372036854775807):Bd 3 z:=by unfold Bd;simp only[pw];omega
theorem Bd.ediv{n:Nat}{a b:Int}(ha:Bd n a)(hb:0<b):Bd n (a / b):=by
 refine ha.le ?_
 rcases Int.le_total 0 a with h | h
 ·have h1:=Int.ediv_nonneg h (zG hb)
  have h2:=Int.ediv_le_self b h
  omega
 ·have h1:a≤a / b:=by
   rw[zZ hb]
   have:=zB (show 1≤b by omega) (show 0≤-a by omega)
   rw[Int.neg_mul,Int.neg_mul]at this
   omega
  have h2:a / b≤0:=by
   rcases zI 0 (a / b)with z | z
   ·have:=(zZ (a:=1) (b:=a) hb).1 (by omega)
    omega
   ·exact z
  omega
theorem Bd.toNat{n:Nat}{a:Nat}(h:Bd n (a:Int)):(a:Int)<pw n:=by unfold Bd at h;omega
theorem cT(z:Int):(ofI z).Neg=decide (z<0):=rfl
theorem dec_beq{p q:Prop}[Decidable p][Decidable q]:((decide p==decide q)=true)↔(p↔q):=by
 by_cases hp:p<;>by_cases hq:q<;>simp[hp,hq]
theorem ib{a b:Int}(h:a=b):ofI a=ofI b:=by rw[h]
theorem it_split_ok{u:Int}(h0:0≤u)(h:u<18446744073709551616):∃l,jX u=some l∧okL l∧val l=u∧l.length=3:=by
 unfold jX
 rw[tmd h0,tdv h0,wU64 (n:=u / 1000000000) (by omega) (by omega),tmd (by omega),tdv (by omega),wU32 (by omega) (by omega),wU32 (by omega) (by omega),wU64 (by omega) (by omega),wU32 (by omega) (by omega)]
 refine⟨_,rfl,bJ.2 ⟨by omega,bJ.2 ⟨by omega,bJ.2 ⟨by omega,d9⟩⟩⟩,?_,rfl⟩
 simp only[val];omega
theorem wrap_u64'(n:Int):IntKind.u64.wrap n=n % 18446744073709551616:=by
 unfold IntKind.wrap;simp[IntKind.signed,IntKind.bits]
theorem abs_u64{n:Int}(h:-9223372036854775808≤n)(h2:n≤9223372036854775807)(h3:n<0):IntKind.u64.wrap (0-(IntKind.u64.wrap n))=(n.natAbs:Int):=by
 rw[wrap_u64',wrap_u64'];omega
theorem b9{n:Int}(h:-9223372036854775808≤n)(h2:n≤9223372036854775807):bf n=some (ofI n):=by
 apply Tot.get
 unfold bf
 refine Tot.bind (E:=λu=>u=(n.natAbs:Int)) (Tot.ite (λq=>.ok (abs_u64 h h2 (by simpa using q))) (λq=>.ok ?_)) (λu hu=>?_)
 ·simp at q;rw[wU64 (by omega) (by omega)];omega
 ·subst hu
  obtain⟨l,h3,h4,h5,h6⟩:=it_split_ok (u:=(n.natAbs:Int)) (by omega) (by omega)
  rw[h3,ae,bN _ _ (by omega) h4,ae,h5]
  refine .ok (ib ?_)
  simp only[decide_eq_true_eq]
  split<;>omega
theorem it_Sign_eq(z:Int):kY (ofI z)=some (sg z):=by
 unfold kY
 rw[cT]
 by_cases h:z<0
 ·rw[if_pos (by simpa using h),sg_neg h]
 ·rw[if_neg (by simpa using h)]
  by_cases h2:z=0
  ·subst h2;rfl
  ·have:(ofI z).Limbs≠[]:=λq=>h2 (ofI_nil.1 q)
   have:0<(ofI z).Limbs.length:=List.length_pos_iff.2 this
   rw[if_pos (decide_eq_true (by omega)),sg_pos (by omega)]
theorem ig{a b:Int}{n m:Nat}(ha:Bd n a)(hb:Bd m b)(hn:n≤1000000)(hm:m≤1000000):gC (ofI a) (ofI b)=some (sg (a-b)):=by
 have la:=ha.len;have lb:=hb.len
 unfold gC
 rw[cT,cT]
 by_cases h1:a<0<;>by_cases h2:b<0
 ·rw[decide_eq_true h1,decide_eq_true h2]
  simp only[beq_self_eq_true,zU,zJ,if_false,if_true]
  rw[fE (cq b) (cq a) (by omega) (by omega),ae,bM,bM]
  congr 2;omega
 ·rw[decide_eq_true h1,decide_eq_false h2,sg_neg (by omega)];rfl
 ·rw[decide_eq_false h1,decide_eq_true h2,sg_pos (by omega)];rfl
 ·rw[decide_eq_false h1,decide_eq_false h2]
  simp only[beq_self_eq_true,zU,zJ,if_false]
  rw[fE (cq a) (cq b) (by omega) (by omega),ae,bM,bM]
  congr 2;omega
theorem it_Add_eq{a b:Int}{n m:Nat}(ha:Bd n a)(hb:Bd m b)(hn:n≤900000)(hm:m≤900000):kF (ofI a) (ofI b)=some (ofI (a+b)):=by
 have la:=ha.len;have lb:=hb.len
 apply Tot.get
 unfold kF
 rw[cT,cT]
 refine Tot.ite (λq=>?_) (λq=>?_)
 ·rw[dec_beq]at q
  refine Tot.bind (it_plus_ok (cq a) (cq b) (by omega) (by omega)) (λl hl=>?_)
  obtain⟨h1,h2,h3⟩:=hl
  rw[bN _ _ (by omega) h1,ae,h2,bM,bM]
  refine .ok (ib ?_)
  simp only[decide_eq_true_eq]
  split<;>omega
 ·have q':¬(a<0↔b<0):=λz=>by rw[dec_beq.2 z]at q;cases q
  rw[fE (cq a) (cq b) (by omega) (by omega),ae,bM,bM,sg_dec]
  refine Tot.bind (E:=λp=>∃x y:Int,p=(ofI x,ofI y)∧y.natAbs≤x.natAbs∧(ofI x).Limbs.length≤900000∧(ofI y).Limbs.length≤900000∧x+y=a+b∧¬(x<0↔y<0)) (Tot.ite (λz=>.ok ⟨b,a,rfl,by simp at z;omega,by omega,by omega,by omega,by omega⟩) (λz=>.ok ⟨a,b,rfl,by simp at z;omega,by omega,by omega,rfl,q'⟩)) (λp hp=>?_)
  obtain⟨x,y,rfl,h1,h2,h3,h4,h5⟩:=hp
  refine Tot.bind (it_minus_ok (cq x) (cq y) (by dsimp only;omega) (by dsimp only;omega) (by rw[bM,bM];omega)) (λl hl=>?_)
  obtain⟨h6,h7,h8⟩:=hl
  dsimp only at h7 h8
  rw[bN _ _ (by omega) h6,ae,h7,bM,bM,cT]
  refine .ok (ib ?_)
  simp only[decide_eq_true_eq]
  split<;>omega
theorem it_Sub_eq{a b:Int}{n m:Nat}(ha:Bd n a)(hb:Bd m b)(hn:n≤900000)(hm:m≤900000):it_Sub (ofI a) (ofI b)=some (ofI (a-b)):=by
 unfold it_Sub
 have h:aq.mk (!(ofI b).Neg&&(decide (((ofI b).Limbs.length:Int)>0))) (ofI b).Limbs=ofI (-b):=by
  have e:(ofI (-b)).Limbs=(ofI b).Limbs:=by show toL (-b).natAbs=toL b.natAbs;rw[Int.natAbs_neg]
  have e2:(!(ofI b).Neg&&(decide (((ofI b).Limbs.length:Int)>0)))=(ofI (-b)).Neg:=by
   rw[cT,cT]
   by_cases hb0:b=0
   ·subst hb0;rfl
   ·have:(ofI b).Limbs≠[]:=λq=>hb0 (ofI_nil.1 q)
    have:0<(ofI b).Limbs.length:=List.length_pos_iff.2 this
    rw[decide_eq_true (show ((ofI b).Limbs.length:Int)>0 by omega),Bool.and_true]
    by_cases h1:b<0
    ·rw[decide_eq_true h1,decide_eq_false (by omega)];rfl
    ·rw[decide_eq_false h1,decide_eq_true (by omega)];rfl
  rw[e2,←e]
 rw[h,it_Add_eq ha hb.neg hn hm,ae,Int.sub_eq_add_neg]
theorem it_Neg_eq{a:Int}{n:Nat}(ha:Bd n a)(hn:n≤1000000):jd (ofI a)=some (ofI (-a)):=by
 have la:=ha.len
 unfold jd
 rw[bF (by omega),bB,bN _ _ (by omega) (cq a),ae,bM,cT]
 refine congrArg some (ib ?_)
 by_cases h:a<0
 ·rw[decide_eq_true h];simp;omega
 ·rw[decide_eq_false h];simp;omega
theorem mul_sign{a b:Int}:(if (!(decide (a<0)==decide (b<0)))=true then -((a.natAbs:Int)*b.natAbs)else (a.natAbs:Int)*b.natAbs)=a*b:=by
 by_cases h1:a<0<;>by_cases h2:b<0
 ·rw[decide_eq_true h1,decide_eq_true h2]
  simp only[beq_self_eq_true,zU,zJ,if_false]
  rw[show (a.natAbs:Int)=-a by omega,show (b.natAbs:Int)=-b by omega,Int.neg_mul_neg]
 ·rw[decide_eq_true h1,decide_eq_false h2]
  rw[show (a.natAbs:Int)=-a by omega,show (b.natAbs:Int)=b by omega]
  simp[Int.neg_mul]
 ·rw[decide_eq_false h1,decide_eq_true h2]
  rw[show (a.natAbs:Int)=a by omega,show (b.natAbs:Int)=-b by omega]
  simp[Int.mul_neg]
 ·rw[decide_eq_false h1,decide_eq_false h2]
  simp only[beq_self_eq_true,zU,zJ,if_false]
  rw[show (a.natAbs:Int)=a by omega,show (b.natAbs:Int)=b by omega]
theorem fY{a b:Int}{n m:Nat}(ha:Bd n a)(hb:Bd m b)(hn:n≤400000)(hm:m≤400000):ft (ofI a) (ofI b)=some (ofI (a*b)):=by
 have la:=ha.len;have lb:=hb.len
 apply Tot.get
 unfold ft
 refine Tot.bind (kX (cq a) (cq b) (by omega) (by omega)) (λl hl=>?_)
 obtain⟨h1,h2,h3⟩:=hl
 rw[bN _ _ (by omega) h1,ae,h2,bM,bM,cT,cT,mul_sign]
 exact .ok rfl
theorem ofI_len0{z:Int}:(ofI z).Limbs.length=0↔z=0:=by rw[List.length_eq_zero_iff];exact ofI_nil
theorem jz{a b:Int}{n m:Nat}(ha:Bd n a)(hb:Bd m b)(hn:n≤400000)(hm:m≤400000)(h0:0<b):fZ (ofI a) (ofI b)=some (ofI (a / b),ofI (a % b),0):=by
  have la:=ha.len;have lb:=hb.len
  apply Tot.get
  unfold fZ
  have hb0:((((ofI b).Limbs.length:Int)==0))=false:=by
    have:(ofI b).Limbs.length≠0:=λq=>by have:=ofI_len0.1 q;omega
    exact beq_eq_false_iff_ne.2 (by omega)
  rw[hb0]
  refine Tot.ite (λq=>by cases q) (λ_=>?_)
  refine Tot.bind (it_divide_ok (cq a) (cq b) (by omega) (by omega) (by rw[bM];omega)) (λp hp=>?_)
  obtain⟨h1,h2,h3,h4,h5,h6⟩:=hp
  have hy0:=(ba h2).1
  have hx0:=(ba h1).1
  rw[bM,bM]at h3
  rw[bM]at h4
  rw[bN _ _ (by omega) h1,ae,bN _ _ (by omega) h2,ae,cT a,cT b,decide_eq_false (show ¬b<0 by omega)]
  have eb:(b.natAbs:Int)=b:=by omega
  rw[eb]at h3 h4
  generalize val p.1=x at *
  generalize val p.2=y at *
  by_cases ha0:a<0
  · have ea:(a.natAbs:Int)=-a:=by omega
    rw[ea]at h3
    rw[decide_eq_true ha0]
    simp only[beq_false,Bool.not_false,zU,if_true,bne_self_eq_false]
    by_cases hy:y=0
    · subst hy
      have hu:=(zR (a:=a) (b:=b) (r:=0) (q:=-x) h0).2 ⟨by rw[Int.mul_neg,zX b x];omega,by omega,h0⟩
      rw[hu.1,hu.2]
      refine Tot.bind (E:=λv=>v=(ofI (-x),ofI 0)) (Tot.ite (λq=>?_) (λ_=>.ok rfl)) (λv hv=>by subst hv;exact .ok rfl)
      simp[ofI,toL_zero]at q
    · have hu:=(zR (a:=a) (b:=b) (r:=-y+b) (q:=-x-1) h0).2 ⟨by rw[Int.mul_sub,Int.mul_neg,zX b x];omega,by omega,by omega⟩
      rw[hu.1,hu.2]
      have hbx:Bd n x:=ha.le (by
        have:x*1≤x*b:=zB (show 1≤b by omega) hx0
        omega)
      have hby:Bd m y:=hb.le (by omega)
      have e1:=it_Sub_eq hbx.neg (Bd.i64 (z:=1) (by omega) (by omega)) (by omega) (by omega)
      have e2:=it_Add_eq hby.neg hb (by omega) (by omega)
      rw[b9 (by omega) (by omega),ae,e1,ae,e2,ae]
      refine Tot.bind (E:=λv=>v=(ofI (-x-1),ofI (-y+b))) (Tot.ite (λq=>.ok rfl) (λq=>?_)) (λv hv=>by subst hv;exact .ok rfl)
      exfalso
      have hl:(ofI (-y)).Limbs.length≠0:=λz=>hy (by have:=ofI_len0.1 z;omega)
      rw[cT,decide_eq_true (show -y<0 by omega),decide_eq_true (show ((ofI (-y)).Limbs.length:Int)>0 by omega)]at q
      simp at q
  · have ea:(a.natAbs:Int)=a:=by omega
    rw[ea]at h3
    have hu:=(zR (a:=a) (b:=b) (r:=y) (q:=x) h0).2 ⟨by rw[zX b x];omega,hy0,h4⟩
    rw[hu.1,hu.2,decide_eq_false ha0]
    simp only[beq_self_eq_true,zU,zJ,if_false]
    refine Tot.bind (E:=λv=>v=(ofI x,ofI y)) (Tot.ite (λq=>?_) (λq=>.ok rfl)) (λv hv=>by subst hv;exact .ok rfl)
    rw[cT,decide_eq_false (show ¬y<0 by omega)]at q
    simp at q
theorem pw_two:∀n:Nat,pw n≤((2 ^ (30*n):Nat):Int)
 | 0=>by simp[pw]
 | n+1=>by
  have h:=pw_two n
  have h0:=jb n
  rw[ce,show 30*(n+1)=30*n+30 by omega,Nat.pow_add]
  rw[Int.natCast_mul]
  have:(1073741824:Nat)=2 ^ 30:=rfl
  rw[←this]
  omega
theorem it_word_ok{z:Int}(hz:0≤z){n:Nat}(hb:Bd n z)(hn:n≤1000000):∃w b,it_word (ofI z)=some (w,b)∧(b=true→w=z∧z<1000000000000000000):=by
 have hl:=hb.len
 have ho:=cq z
 have hv:=bM z
 generalize ofI z=a at *
 obtain⟨s,l⟩:=a
 dsimp only at hl ho hv
 unfold it_word
 dsimp only
 match l,ho,hv with
 | [],ho,hv =>
  refine⟨0,true,by simp,λ_=>?_⟩
  simp[val]at hv;omega
 | [x],ho,hv =>
  have h1:=(bJ.1 ho).1
  refine⟨x,true,?_,λ_=>?_⟩
  ·simp[gt,wU64 h1.1 (show x<18446744073709551616 by omega)]
  ·simp[val]at hv;omega
 | [x,y],ho,hv =>
  have h1:=(bJ.1 ho).1
  have h2:=(bJ.1 (bJ.1 ho).2).1
  refine⟨y*1000000000+x,true,?_,λ_=>?_⟩
  ·simp only[gt,zM,List.length_nil]
   simp
   rw[wU64 (n:=y) (by omega) (by omega),wU64 (n:=x) (by omega) (by omega),wU64 (n:=y*1000000000) (by omega) (by omega),wU64 (by omega) (by omega)]
  ·simp[val]at hv;omega
 | x::y::t::r,ho,hv =>
  refine⟨0,false,?_,λh=>by cases h⟩
  have e0:((((x::y::t::r).length:Nat):Int)==0)=false:=beq_eq_false_iff_ne.2 (by simp only[zM];omega)
  have e1:((((x::y::t::r).length:Nat):Int)==1)=false:=beq_eq_false_iff_ne.2 (by simp only[zM];omega)
  have e2:((((x::y::t::r).length:Nat):Int)==2)=false:=beq_eq_false_iff_ne.2 (by simp only[zM];omega)
  rw[e0,e1,e2]
  rfl
theorem gcd_step(x y:Nat):Nat.gcd y (x % y)=Nat.gcd x y:=by
 rw[Nat.gcd_comm x y,Nat.gcd_rec y x,Nat.gcd_comm]
theorem gcd_loop (x y : Nat) (hy : y ≤ 9223372036854775807) : loopX (λ(v2 : Int × Int) =>
      if (decide (v2.2>0))=true then
        aB (!(v2.2==0)) (
        some (.go (v2.2,Int.tmod v2.1 v2.2)))
      else
        some (.ret v2.1)) fuel ((x:Int),(y:Int))=some ((Nat.gcd x y:Nat):Int):=by
  apply Tot.get
  refine Tot.loop (λm v=>∃a:Nat,v=((a:Int),(m:Int))∧Nat.gcd a m=Nat.gcd x y) _ y (fm hy) ⟨x,rfl,rfl⟩ (λm v hv=>?_)
  obtain⟨a,rfl,h⟩:=hv
  dsimp only
  cases m with
  | zero=>exact TotX.ite (λq=>absurd q (by simp)) (λ_=>.ret (by rw[←h,Nat.gcd_zero_right]))
  | succ m =>
    refine TotX.ite (λ_=>TotX.guard (by simp;omega) (.go ⟨a % (m+1),Nat.mod_lt _ (by omega),m+1,?_,?_⟩)) (λq=>absurd q (by simp))
    · rw[tmd (by omega)];rfl
    · rw[gcd_step];exact h
def eucM(m x y:Nat):Prop:=(y≤x∧x*y<2 ^ m)∨(1≤m∧x*y<2 ^ (m-1))
theorem eucM_step{m x y:Nat}(h:eucM m x y)(hy:0<y):∃m',m'<m∧eucM m' y (x % y):=by
 have key:∀k,y≤x→x*y<2 ^ k→∃m',m'<k∧eucM m' y (x % y):=by
  intro k h1 h2
  have h3:=euclid_half h1 hy
  have h4:1≤x*y:=Nat.mul_pos (by omega) hy
  have hk:k≠0:=λz=>by subst z;simp at h2;omega
  obtain⟨j,rfl⟩:=Nat.exists_eq_succ_of_ne_zero hk
  refine⟨j,by omega,.inl ⟨Nat.le_of_lt (Nat.mod_lt _ hy),?_⟩⟩
  have:2 ^ (j.succ)=2*2 ^ j:=by rw[Nat.pow_succ];omega
  omega
 rcases h with⟨h1,h2⟩|⟨h1,h2⟩
 ·exact key m h1 h2
 ·rcases zW x y with q | q
  ·refine⟨m-1,by omega,.inl ⟨Nat.le_of_lt (Nat.mod_lt _ hy),?_⟩⟩
   rw[Nat.mod_eq_of_lt q,Nat.mul_comm];exact h2
  ·obtain⟨m',h3,h4⟩:=key (m-1) q h2
   exact⟨m',by omega,h4⟩
theorem euc_start{n x y:Nat}(hx:Bd n (x:Int))(hy:Bd n (y:Int)):eucM (60*n+1) x y:=by
 refine .inr ⟨by omega,?_⟩
 have h1:=pw_two n
 unfold Bd at hx hy
 rw[zL]at hx hy
 rw[show 60*n+1-1=30*n+30*n by omega,Nat.pow_add]
 exact Nat.mul_lt_mul_of_lt_of_lt (by omega) (by omega)
theorem signed_abs{z:Int}{n:Nat}(h:Bd n z)(hn:n≤1000000):bG false (ofI z).Limbs=some (ofI (z.natAbs:Int)):=by
 have:=h.len
 rw[bN _ _ (by omega) (cq z),bM]
 rfl
theorem Bd.gcd{n:Nat}{a b:Int}(hb:Bd n b)(h0:b≠0):Bd n ((zO a b:Nat):Int):=by
 refine hb.le ?_
 have:=Nat.gcd_le_right a.natAbs (show 0<b.natAbs by omega)
 unfold zO
 rw[zL];exact this
theorem it_GCD_eq{a b:Int}{n:Nat}(ha:Bd n a)(hb:Bd n b)(hn:n≤400000):it_GCD (ofI a) (ofI b)=some (ofI ((zO a b:Nat):Int)):=by
 apply Tot.get
 unfold it_GCD
 rw[signed_abs ha (by omega),ae,signed_abs hb (by omega),ae]
 have ha':Bd n ((a.natAbs:Nat):Int):=by unfold Bd at *;omega
 have hb':Bd n ((b.natAbs:Nat):Int):=by unfold Bd at *;omega
 refine Tot.bindX (E:=λp=>p.1=ofI ((zO a b:Nat):Int)∧p.1.Limbs.length≤n) (TotX.of (Tot.loop (λm v=>∃x y:Nat,v=(ofI (x:Int),ofI (y:Int))∧Nat.gcd x y=zO a b∧Bd n (x:Int)∧Bd n (y:Int)∧eucM m x y) _ (60*n+1) (fm (by omega)) ⟨a.natAbs,b.natAbs,rfl,rfl,ha',hb',euc_start ha' hb'⟩ (λm v hv=>?_))) (λp hp=>?_)
 ·obtain⟨x,y,rfl,hg,hx,hy,hm⟩:=hv
  dsimp only
  refine TotX.ite (λq=>?_) (λq=>?_)
  ·have hy0:0<y:=by
    rcases Nat.eq_zero_or_pos y with z | z
    ·subst z;simp[ofI,toL_zero]at q
    ·exact z
   obtain⟨w1,b1,e1,f1⟩:=it_word_ok (show (0:Int)≤x by omega) hx (by omega)
   obtain⟨w2,b2,e2,f2⟩:=it_word_ok (show (0:Int)≤y by omega) hy (by omega)
   rw[e1,ae,e2,ae]
   dsimp only
   refine TotX.bindX (E:=λ_=>True) (TotX.ite (λz=>?_) (λz=>.go trivial)) (λ_ _=>?_)
   ·simp only[Bool.and_eq_true]at z
    obtain⟨z1,z2⟩:=z
    obtain⟨rfl,s1⟩:=f1 z1
    obtain⟨rfl,s2⟩:=f2 z2
    rw[gcd_loop x y (by omega),ae]
    have hgl:Nat.gcd x y≤y:=Nat.gcd_le_right x hy0
    obtain⟨l,h3,h4,h5,h6⟩:=it_split_ok (u:=((Nat.gcd x y:Nat):Int)) (by omega) (by omega)
    rw[h3,ae,bN _ _ (by omega) h4,ae,h5]
    refine .ret ?_
    dsimp only
    rw[hg];rfl
   ·have hlx:=hx.len;have hly:=hy.len
    refine TotX.bind (it_divide_ok (cq _) (cq _) (by omega) (by omega) (by rw[bM];omega)) (λp hp=>?_)
    obtain⟨p1,p2,p3,p4,p5,p6⟩:=hp
    rw[bN _ _ (by omega) p2,ae]
    rw[bM,bM,zL,zL]at p3
    rw[bM,zL]at p4
    have hy2:=(ba p2).1
    have hu:=(zR (a:=(x:Int)) (b:=(y:Int)) (r:=val p.2) (q:=val p.1) (by omega)).2 ⟨by rw[zX];omega,hy2,p4⟩
    have hr:val p.2=((x % y:Nat):Int):=by rw[←hu.2];rfl
    obtain⟨m',hm1,hm2⟩:=eucM_step hm hy0
    refine .go ⟨m',hm1,y,x % y,?_,by rw[gcd_step];exact hg,hy,?_,hm2⟩
    ·rw[←hr];rfl
    ·exact hy.le (by rw[zL,zL];exact Nat.le_of_lt (Nat.mod_lt _ hy0))
  ·have hy0:y=0:=by
    rcases Nat.eq_zero_or_pos y with z | z
    ·exact z
    ·exfalso
     have:(ofI (y:Int)).Limbs.length≠0:=λh=>by have:=ofI_len0.1 h;omega
     simp at q
     rw[q]at this;simp at this
   subst hy0
   rw[Nat.gcd_zero_right]at hg
   subst hg
   exact .ret ⟨rfl,hx.len⟩
 ·obtain⟨⟨s,l⟩,q⟩:=p
  obtain⟨h1,h2⟩:=hp
  dsimp only at h1 h2 ⊢
  refine Tot.guard (bF (by omega)) ?_
  have hl:l=(ofI ((zO a b:Nat):Int)).Limbs:=by rw[←h1]
  rw[bN _ _ (by omega) (by rw[hl];exact cq _),ae,hl,bM]
  exact .ok (ib (by simp))
theorem r01_trim_eq(l:List Int)(hl:l.length≤1000000):jR l=some (trm l):=by
 have key:Tot (jR l) (λe=>e=trm l):=by
  unfold jR
  refine Tot.bind (E:=λe=>e=trm l) (Tot.loop (λm (v:List Int)=>v=l.take m∧m≤l.length∧trm v=trm l) _ l.length (fm (by omega)) ⟨by simp,by omega,rfl⟩ (λm v hv=>?_)) (λv hv=>.ok hv)
  obtain⟨rfl,h1,h2⟩:=hv
  have hlen:(l.take m).length=m:=by simp;omega
  rw[hlen]
  cases m with
  | zero =>
   refine TotX.bind (E:=λb=>b=false) (Tot.ite (λq=>by simp at q) (λ_=>.ok rfl)) (λb hb=>?_)
   subst hb
   refine TotX.ite (λq=>by cases q) (λ_=>.ret ?_)
   rw[←h2];simp[trm]
  | succ m =>
   have hx:l[m]? = some l[m]:=List.getElem?_eq_getElem (by omega)
   generalize l[m]=x at hx
   have hx2:(l.take (m+1))[m]? = some x:=by rw[List.getElem?_take,if_pos (by omega)];exact hx
   rw[wrap_i64 (by omega) (by omega),show ((m+1:Nat):Int)-1=(m:Int) by omega,gt_k hx2,ae]
   refine TotX.bind (E:=λb=>b=(x==0)) (Tot.ite (λ_=>.ok rfl) (λq=>absurd q (by simp))) (λb hb=>?_)
   subst hb
   refine TotX.ite (λq=>?_) (λq=>.ret ?_)
   ·have:x=0:=by simpa using q
    subst this
    rw[cutT_k (by rw[hlen];omega),ae]
    refine .go ⟨m,by omega,by rw[List.take_take,zF (by omega)],by omega,?_⟩
    rw[List.take_take,zF (by omega),←h2,trm_take0 hx]
   ·have h0:x≠0:=by simpa using q
    rw[←h2,trm_takeN hx h0]
 obtain⟨e,he,rfl⟩:=key
 exact he
theorem r01_signed_eq(neg:Bool)(l:List Int)(hl:l.length≤1000000)(ho:okL l):eO neg l=some (ofI (if neg=true then -val l else val l)):=by
 unfold eO
 rw[r01_trim_eq l hl,ae,←signed_eq ho]
 congr 3
 apply decide_eq_decide.2
 constructor
 ·intro h z;rw[z]at h;simp at h
 ·intro h;have:=List.length_pos_iff.2 h;omega
theorem r01_limbs_eq{n:Int}(h0:0≤n)(h:n<18446744073709551616):gY n=some (toL n.toNat):=by
 apply Tot.get
 unfold gY
 refine Tot.bind (E:=λu=>u=toL n.toNat) (Tot.loop (λm v=>v.1=(m:Int)∧m<18446744073709551616∧okL v.2∧val v.2+pw v.2.length*v.1=n∧(m=0→trm v.2=v.2)∧v.2.length≤3∧v.1*pw v.2.length≤n∧pw v.2.length≤1000000000*n+1∧(m≠0→pw v.2.length≤n)) _ n.toNat (by unfold fuel;omega) ⟨by dsimp only;omega,by omega,d9,by simp[val,pw],λ_=>rfl,by simp,by simp[pw],by simp only[List.length_nil,pw];omega,λ_=>by simp only[List.length_nil,pw];omega⟩ (λm v hw=>?_)) (λu hu=>.ok hu)
 obtain⟨a,l⟩:=v
 dsimp only at hw ⊢
 obtain⟨rfl,hm,h1,h2,h3,h4,h5,h6,h7⟩:=hw
 have hp:=jb l.length
 cases m with
 | zero =>
  refine TotX.ite (λq=>absurd q (by simp)) (λ_=>.ret ?_)
  have h8:=toL_of h1 (h3 rfl)
  rw[show val l=n by simpa using h2]at h8
  exact h8
 | succ m =>
  refine TotX.ite (λ_=>?_) (λq=>absurd q (by simp))
  have h7':=h7 (by omega)
  have hl3:l.length≤2:=by
   rcases zW 2 l.length with z | z
   ·exfalso
    rw[show l.length=3 by omega]at h7'
    simp only[pw]at h7'
    omega
   ·exact z
  refine TotX.guard (bF (by omega)) ?_
  rw[tdv (by omega),tmd (by omega),wU64 (by omega) (by omega),wU32 (by omega) (by omega)]
  have e:=zK (((m+1:Nat):Int)) 1000000000
  have hl:(l++[((m+1:Nat):Int) % 1000000000]).length=l.length+1:=by simp
  have hmul:pw l.length*(((m+1:Nat):Int) / 1000000000)*1000000000≤((m+1:Nat):Int)*pw l.length:=by
   have:1000000000*(((m+1:Nat):Int) / 1000000000)≤((m+1:Nat):Int):=by omega
   have:=zA this (zG hp)
   have e2:1000000000*(((m+1:Nat):Int) / 1000000000)*pw l.length=pw l.length*(((m+1:Nat):Int) / 1000000000)*1000000000:=by grind
   omega
  refine .go ⟨(m+1) / 1000000000,by omega,by dsimp only;omega,by omega,jU.2 ⟨h1,bJ.2 ⟨by omega,d9⟩⟩,?_,?_,by dsimp only;omega,?_,?_,?_⟩
  ·dsimp only
   rw[hl,eN,kK,ce]
   generalize ((m+1:Nat):Int) % 1000000000=r at *
   generalize ((m+1:Nat):Int) / 1000000000=d at *
   rw[←h2,←e];grind
  ·intro z
   exact trm_last (x:=((m+1:Nat):Int) % 1000000000) (by simp) (by omega)
  ·dsimp only
   rw[hl,ce]
   have e2:((m+1:Nat):Int) / 1000000000*(1000000000*pw l.length)=pw l.length*(((m+1:Nat):Int) / 1000000000)*1000000000:=by grind
   omega
  ·dsimp only
   rw[hl,ce];omega
  ·intro z
   dsimp only
   rw[hl,ce]
   have h8:1≤((m+1:Nat):Int) / 1000000000:=by omega
   have h9:=zB h8 (show 0≤pw l.length*1000000000 by omega)
   have e2:pw l.length*1000000000*(((m+1:Nat):Int) / 1000000000)=pw l.length*(((m+1:Nat):Int) / 1000000000)*1000000000:=by grind
   omega
theorem val_toL{z:Int}(h:0≤z):val (toL z.toNat)=z:=by rw[toL_val];omega
theorem toL_lenI{z:Int}{n:Nat}(h0:0≤z)(h:z<pw n):(toL z.toNat).length≤n:=toL_len (by omega)
theorem kv(neg:Bool){z:Int}(h0:0≤z)(hl:(toL z.toNat).length≤1000000):eO neg (toL z.toNat)=some (ofI (if neg=true then -z else z)):=by
 rw[r01_signed_eq neg _ hl (toL_ok _),val_toL h0]
theorem ja{n:Int}(h:-9223372036854775808≤n)(h2:n≤9223372036854775807):dz n=some (ofI n):=by
 have hb:∀z:Int,0≤z→z<18446744073709551616→(toL z.toNat).length≤3:=λz h0 h1=>toL_lenI h0 (by simp[pw];omega)
 apply Tot.get
 unfold dz
 refine Tot.ite (λq=>?_) (λq=>?_)
 ·have q':n<0:=by simpa using q
  rw[abs_u64 h h2 q',r01_limbs_eq (by omega) (by omega),ae,kv true (by omega) (Nat.le_trans (hb _ (by omega) (by omega)) (by omega)),ae]
  exact .ok (ib (by simp;omega))
 ·have q':0≤n:=by simp at q;omega
  rw[wU64 q' (by omega),r01_limbs_eq q' (by omega),ae,kv false q' (Nat.le_trans (hb _ (by omega) (by omega)) (by omega)),ae]
  exact .ok rfl
def ofQ(q:Rat):aH:=⟨ofI q.num,ofI (q.den:Int)⟩
def BQ(n:Nat)(q:Rat):Prop:=Bd n q.num∧Bd n (q.den:Int)
theorem BQ.mono{n m:Nat}{q:Rat}(h:BQ n q)(hm:n≤m):BQ m q:=⟨h.1.mono hm,h.2.mono hm⟩
theorem divInt_BQ{m:Nat}{n d:Int}(h:Bd m n)(h2:Bd m d)(h0:d≠0):BQ m (Rat.divInt n d):=by
 have key:∀n d:Int,Bd m n→Bd m d→0<d→BQ m (Rat.divInt n d):=by
  intro n d h h2 h0
  obtain⟨e1,e2⟩:=divInt_parts (n:=n) h0
  have hg:=gcd_dvd_div (n:=n) (d:=d) (by omega)
  exact⟨by rw[e1];exact h.ediv hg,by rw[e2];exact h2.ediv hg⟩
 rcases zI d 0 with z | z
 ·rw[←divInt_neg2]
  exact key _ _ h.neg h2.neg (by omega)
 ·exact key _ _ h h2 (by omega)
theorem BQ.add{n m:Nat}{a b:Rat}(ha:BQ n a)(hb:BQ m b):BQ (n+m+1) (a+b):=by
 rw[←add_divInt]
 have h1:=(ha.1.mul hb.2).add (hb.1.mul ha.2)
 have h2:=ha.2.mul hb.2
 exact divInt_BQ (h1.mono (by omega)) (h2.mono (by omega)) (Int.ne_of_gt (Int.mul_pos (den_pos a) (den_pos b)))
theorem BQ.mul{n m:Nat}{a b:Rat}(ha:BQ n a)(hb:BQ m b):BQ (n+m) (a*b):=by
 rw[←mul_divInt]
 exact divInt_BQ (ha.1.mul hb.1) (ha.2.mul hb.2) (Int.ne_of_gt (Int.mul_pos (den_pos a) (den_pos b)))
theorem BQ.neg{n:Nat}{a:Rat}(ha:BQ n a):BQ n (-a):=⟨ha.1.neg,ha.2⟩
theorem BQ.int{n:Nat}{z:Int}(h:Bd n z)(hn:1≤n):BQ n (z:Rat):=⟨h,(Bd.mono (n:=1) (by unfold Bd;simp[pw]) hn)⟩
theorem sg_lt{z:Int}:(decide (sg z<0))=decide (z<0):=sg_dec
theorem sg_eq0{z:Int}:(sg z==0)=decide (z=0):=by
 unfold sg
 split
 ·rw[decide_eq_false (by omega)];rfl
 ·split
  ·rw[decide_eq_false (by omega)];rfl
  ·rw[decide_eq_true (by omega)];rfl
theorem ra_unit_eq:ra_unit=some (ofI 1):=by
 unfold ra_unit;rw[b9 (by omega) (by omega)];rfl
theorem jo{n d:Int}{m:Nat}(hn:Bd m n)(hd:Bd m d)(hm:m≤100000)(h0:d≠0):dQ (ofI n) (ofI d)=some (ofQ (Rat.divInt n d)):=by
 apply Tot.get
 unfold dQ
 rw[it_Sign_eq,ae,sg_lt]
 refine Tot.bind (E:=λv=>∃a b:Int,v=(ofI a,ofI b)∧0<b∧Bd m a∧Bd m b∧Rat.divInt a b=Rat.divInt n d) (Tot.ite (λq=>?_) (λq=>.ok ⟨n,d,rfl,by simp at q;omega,hn,hd,rfl⟩)) (λv hv=>?_)
 ·rw[it_Neg_eq hn (by omega),ae,it_Neg_eq hd (by omega),ae]
  exact .ok ⟨-n,-d,rfl,by simp at q;omega,hn.neg,hd.neg,divInt_neg2 n d⟩
 ·obtain⟨a,b,rfl,hb0,ha,hb,he⟩:=hv
  dsimp only
  have hg:=gcd_dvd_div (n:=a) (d:=b) (by omega)
  have hgb:Bd m ((zO a b:Nat):Int):=hb.gcd (by omega)
  obtain⟨e1,e2⟩:=divInt_parts (n:=a) hb0
  rw[he]at e1 e2
  rw[it_GCD_eq ha hb (by omega),ae,ra_unit_eq,ae,ig hgb (Bd.i64 (z:=1) (by omega) (by omega)) (by omega) (by omega),ae]
  refine Tot.bind (E:=λv=>v=(ofI (a / (zO a b:Int)),ofI (b / (zO a b:Int)))) (Tot.ite (λq=>?_) (λq=>.ok ?_)) (λv hv=>?_)
  ·unfold ra_exact
   rw[jz ha hgb (by omega) (by omega) hg,ae,ae,jz hb hgb (by omega) (by omega) hg,ae,ae]
   exact .ok rfl
  ·have h1:(zO a b:Int)=1:=by
    have h2:sg ((zO a b:Int)-1)=0:=by simpa using q
    rcases Int.lt_trichotomy ((zO a b:Int)-1) 0 with z | z | z
    ·rw[sg_neg z]at h2;cases h2
    ·omega
    ·rw[sg_pos z]at h2;cases h2
   rw[h1,Int.ediv_one,Int.ediv_one]
  ·subst hv
   dsimp only
   refine .ok ?_
   unfold ofQ
   rw[e1,e2]
theorem ra_Add_eq{a b:Rat}{n m:Nat}(ha:BQ n a)(hb:BQ m b)(hn:n+m≤90000):ra_Add (ofQ a) (ofQ b)=some (ofQ (a+b)):=by
 apply Tot.get
 unfold ra_Add
 show Tot (bindO (gC (ofI (a.den:Int)) (ofI (b.den:Int))) _) _
 rw[ig ha.2 hb.2 (by omega) (by omega),ae,sg_eq0]
 refine Tot.ite (λq=>?_) (λq=>?_)
 ·have hd:a.den=b.den:=by simp at q;omega
  show Tot (bindO (kF (ofI a.num) (ofI b.num)) λy2=>bindO (dQ y2 (ofI (a.den:Int))) λy3=>some y3) _
  have hs:=ha.1.add hb.1
  rw[it_Add_eq ha.1 hb.1 (by omega) (by omega),ae,jo (m:=max n m+1) hs (ha.2.mono (by omega)) (by omega) (Int.ne_of_gt (den_pos a)),ae,add_same hd]
  exact .ok rfl
 ·show Tot (bindO (ft (ofI a.num) (ofI (b.den:Int))) λy4=>bindO (ft (ofI b.num) (ofI (a.den:Int))) λy5=>bindO (kF y4 y5) λy6=>bindO (ft (ofI (a.den:Int)) (ofI (b.den:Int))) λy7=>bindO (dQ y6 y7) λy8=>some y8) _
  have h1:=ha.1.mul hb.2
  have h2:=hb.1.mul ha.2
  have h3:=ha.2.mul hb.2
  have h4:=h1.add h2
  rw[fY ha.1 hb.2 (by omega) (by omega),ae,fY hb.1 ha.2 (by omega) (by omega),ae,it_Add_eq h1 h2 (by omega) (by omega),ae,fY ha.2 hb.2 (by omega) (by omega),ae,jo (m:=n+m+1) (h4.mono (by omega)) (h3.mono (by omega)) (by omega) (Int.ne_of_gt (Int.mul_pos (den_pos a) (den_pos b))),ae,add_divInt]
  exact .ok rfl
theorem ra_Mul_eq{a b:Rat}{n m:Nat}(ha:BQ n a)(hb:BQ m b)(hn:n+m≤90000):ra_Mul (ofQ a) (ofQ b)=some (ofQ (a*b)):=by
 unfold ra_Mul
 show bindO (ft (ofI a.num) (ofI b.num)) (λy1=>bindO (ft (ofI (a.den:Int)) (ofI (b.den:Int))) λy2=>bindO (dQ y1 y2) λy3=>some y3)=_
 rw[fY ha.1 hb.1 (by omega) (by omega),ae,fY ha.2 hb.2 (by omega) (by omega),ae,jo (ha.1.mul hb.1) (ha.2.mul hb.2) (by omega) (Int.ne_of_gt (Int.mul_pos (den_pos a) (den_pos b))),ae,mul_divInt]
theorem ra_Neg_eq{a:Rat}{n:Nat}(ha:BQ n a)(hn:n≤100000):ra_Neg (ofQ a)=some (ofQ (-a)):=by
 unfold ra_Neg
 show bindO (jd (ofI a.num)) _=_
 rw[it_Neg_eq ha.1 (by omega)];rfl
theorem ra_Sign_eq(a:Rat):ra_Sign (ofQ a)=some (sg a.num):=by
 unfold ra_Sign
 show bindO (kY (ofI a.num)) _=_
 rw[it_Sign_eq];rfl
theorem ra_Floor_eq{a:Rat}{n:Nat}(ha:BQ n a)(hn:n≤100000):gv (ofQ a)=some (ofI a.floor):=by
 unfold gv
 show bindO (fZ (ofI a.num) (ofI (a.den:Int))) _=_
 rw[jz ha.1 ha.2 (by omega) (by omega) (den_pos a),Rat.floor_def];rfl
theorem r02_unit_eq:r02_unit=some (ofI 1):=by
 unfold r02_unit;rw[ja (by omega) (by omega)];rfl
theorem ofQ_int(z:Int):ofQ (z:Rat)=⟨ofI z,ofI 1⟩:=rfl
theorem fh{z:Int}(h1:-9223372036854775808≤z)(h2:z≤9223372036854775807):cR z=some (ofQ (z:Rat)):=by
 unfold cR;rw[ja h1 h2,ae,r02_unit_eq,ae,ofQ_int]
end Go.Proofs.YtgbafiejgciilaaGreatDoor
