/-
  Ha, Hb, Hc, Hd, He, Hf, Hg, Hh, Hi, Hj, Hk, Hl in one text.
-/
import Derived.Test.YtphbhdoljnokkaaGreatDoorIall
import Derived.Test.YtphbhdoljnokkaaGreatDoorMD
import Derived.Test.YtphbhdoljnokkaaGreatDoorMT
open Int renaming mul_le_mul_of_nonneg_left → zA,eq_ofNat_of_zero_le → zB,mul_nonneg → zF,mul_pos_of_neg_of_neg → zG,lt_or_le → zH,mul_le_mul_of_nonneg_right → zI,le_of_lt → zL,emod_lt_of_pos → zO,toNat_natCast → zQ,mul_eq_zero → zT,natCast_mul → zU,emod_nonneg → zV
open Bool renaming false_eq_true → zD,not_true → zK
open Nat renaming le_refl → zE,shiftLeft_eq → zR
open List renaming mem_cons_self → zJ,mem_cons_of_mem → zM
open Go.IntKind renaming i64 → zW
namespace Go.Proofs.YtphbhdoljnokkaaGreatDoor
open Go.RowKit
set_option linter.unusedVariables false
set_option linter.unusedSimpArgs false
set_option maxRecDepth 100000
variable {z:Int}
theorem sg_neg':sg z<0↔z<0:=by
 simp_all[sg_lt,ra]
theorem sg_pos':sg z>0↔z>0:=by
 simp_all[sg_decP,ra]
theorem sg_in(z:Int):sg z=-1∨sg z=0∨sg z=1:=by
 grind[sg]
theorem i64_step {l : List Int} (hl : okL l) : ∀ (k f : Nat) (v : Int), k ≤ l.length → l.length ≤ 1000000 → k < f → 0 ≤ v → v * pw k + val (l.take k) < 18446744073709551616 →
    dR (λ(v2 : Int × Int) =>
          if (decide (v2.2≥0))=true then
            ac (gt l v2.2) λ(e1:Int) =>
            some (.go (IntKind.u64.wrap ((IntKind.u64.wrap (v2.1*1000000000))+(IntKind.u64.wrap e1)),zW.wrap (v2.2-1)))
          else
            some (.ret v2.1)) f (v,(k:Int)-1)=some (v*pw k+val (l.take k))
  | 0,f+1,v,_,_,_,_,_=>by
    simp_all[dR,pw,val]
  | k+1,f+1,v,hk,hn,hf,hv,hb=>by
    have hx:l[k]? = some (l[k]'(by omega)):=List.getElem?_eq_getElem (by omega)
    have ht:=fh hx
    have hr:=lj hl hx
    have hp:=kv k
    have hvt:=(bh (g9 k hl)).1
    have e:v*pw (k+1)+val (l.take (k+1))=(v*1000000000+l[k]'(by omega))*pw k+val (l.take k):=by
      grind[fc]
    rw[e]at hb ⊢
    have hq:v*1000000000+l[k]'(by omega)<18446744073709551616:=by
      have h0:0≤v*1000000000+l[k]'(by omega):=by omega
      have:(v*1000000000+l[k]'(by omega))*1≤(v*1000000000+l[k]'(by omega))*pw k:=zA (by omega) h0
      omega
    unfold dR
    dsimp only
    rw[qV (by simp),show ((k+1:Nat):Int)-1=(k:Int) by omega,gt_k hx,aa]
    dsimp only
    rw[wU64 (n:=v*1000000000) (by omega) (by omega),wU64 (n:=l[k]'(by omega)) (by omega) (by omega),wU64 (by omega) (by omega),aE (by omega) (by omega)]
    exact i64_step hl k f _ (by omega) hn (by omega) (by omega) hb
theorem wrap_neg(h:-9223372036854775808≤z)(h2:z<0):zW.wrap (IntKind.u64.wrap (0 - -z))=z:=by
 grind[IntKind.wrap_u64,IntKind.wrap_i64]
variable {n:Nat}
theorem qJ(hb:Bd n z)(hn:n≤1000000):mg (ofI z)=some (if -9223372036854775808≤z∧z≤9223372036854775807 then (z,true)else (0,false)):=by
 have bl:Bd 3 (-9223372036854775808):=by simp_all[Bd,pw]
 have bu:Bd 3 9223372036854775807:=by simp_all[Bd,pw]
 (unfold mg;try delta jB jC jR lF)
 rw[eJ (by omega) (by omega),aa,kh hb bl (by omega) (by omega),aa]
 by_cases h1:z < -9223372036854775808
 ·rw[qV (qY (sg_neg'.2 (by omega))),aa,qV rfl,qU (by omega)]
 ·rw[qU (by (simp_all[sg_neg'];omega)),eJ (by omega) (by omega),aa,kh hb bu (by omega) (by omega),aa,aa]
  by_cases h2:z>9223372036854775807
  simp_all[sg_pos']
  ·rw[qU (by simp_all[sg_pos']),qV (by omega)]
   have b3:Bd 3 z:=Bd.i64 (by omega) (by omega)
   have hl:=b3.len
   have hv:=bM z
   have hs:=i64_step (cu z) (ofI z).Limbs.length fuel 0 (zE _) (by omega) (gy (by omega)) (by omega) (by grind)
   rw[List.take_of_length_le (zE _),hv,Int.zero_mul,Int.zero_add]at hs
   rw[aE (by omega) (by omega),hs,aa]
   rw[show (ofI z).Neg=decide (z<0) from rfl]
   by_cases hneg:z<0
   ·rw[qV (by simp_all),aa]
    grind[wrap_neg]
   ·rw[qU (by simp_all),aa]
    grind[aE]
set_option maxRecDepth 100000
theorem pE(h1:-9223372036854775808≤z)(h2:z≤9223372036854775807):eI z=some (ofQ (z:Rat)):=by
 simp_all[eI,ra_whole,eJ,ra_unit_eq,ofQ_int]
variable {a b:Rat}{m:Nat}
theorem nz(ha:BQ n a)(hb:BQ m b)(hn:n+m≤90000):jA (ofQ a) (ofQ b)=some (ofQ (a-b)):=by
 unfold jA
 rw[oy hb (by omega),aa,ja (b:=-b) ha ⟨by simpa using hb.1.neg,by simpa using hb.2⟩ hn,aa,Rat.sub_eq_add_neg]
theorem BQ.sub(ha:BQ n a)(hb:BQ m b):BQ (n+m+1) (a-b):=by
 rw[Rat.sub_eq_add_neg];exact ha.add hb.neg
def cmpQ(a b:Rat):Int:=if a<b then -1 else if b<a then 1 else 0
theorem cmpQ_add(a b z:Rat):cmpQ (a+z) (b+z)=cmpQ a b:=by
 grind[cmpQ]
theorem cmpQ_self(a:Rat):cmpQ a a=0:=by
 simp_all[cmpQ]
theorem sg_is(z:Int):sg z=if z<0 then -1 else if z=0 then 0 else 1:=by
 grind[sg]
theorem cmp_int_eq(a b:Int):gO a b=some (if a<b then -1 else if a>b then 1 else 0):=by
 unfold gO jm
 simp only[bne_self_eq_false,aa,zD,qW,rc]
 grind
theorem i8(ha:BQ n a)(hb:BQ m b)(hn:n+m≤90000):fO (ofQ a) (ofQ b)=some (cmpQ a b):=by
 unfold fO
 rw[bt,aa,bt,aa,cmp_int_eq,aa]
 have da:=den_pos a
 have db:=den_pos b
 have l1:=rat_lt (a:=a) (b:=b)
 have l2:=rat_lt (a:=b) (b:=a)
 have neg:∀{x d:Int},x<0→0<d→x*d<0:=λh1 h2=>Int.mul_neg_of_neg_of_pos h1 h2
 have pos:∀{x d:Int},0<x→0<d→0<x*d:=λh1 h2=>Int.mul_pos h1 h2
 have nn:∀{x d:Int},0≤x→0<d→0≤x*d:=λh1 h2=>zF h1 (zL h2)
 have np:∀{x d:Int},x≤0→0<d→x*d≤0:=λh1 h2=>Int.mul_nonpos_of_nonpos_of_nonneg h1 (zL h2)
 unfold cmpQ
 by_cases h1:sg a.num<sg b.num
 ·rw[qV h1,qV (by decide)]
  have:a<b:=by
   rw[l1]
   rw[sg_is,sg_is]at h1
   by_cases q:a.num<0
   ·by_cases q2:b.num<0<;>grind
   ·by_cases q2:b.num≤0
    omega
    ·by_cases q3:a.num=0
     simp_all
     omega
  simp_all
 ·rw[qU h1]
  by_cases h2:sg a.num>sg b.num
  ·rw[qV h2,qV (by decide)]
   have hba:b<a:=by
    rw[l2]
    rw[sg_is,sg_is]at h2
    by_cases q:b.num<0
    ·by_cases q2:a.num<0<;>grind
    ·by_cases q2:a.num≤0
     omega
     ·by_cases q3:b.num=0
      simp_all
      omega
   grind
  ·rw[qU h2,qU (by decide)]
   show ac (fW (ofI a.num) (ofI (b.den:Int))) (λy4=>ac (fW (ofI b.num) (ofI (a.den:Int))) λy5=>ac (ls y4 y5) λy6=>some y6)=_
   rw[gn ha.1 hb.2 (by omega) (by omega),aa,gn hb.1 ha.2 (by omega) (by omega),aa,kh (ha.1.mul hb.2) (hb.1.mul ha.2) (by omega) (by omega),aa,sg_is]
   simp only[l1,l2]
   congr 1
   omega
theorem ra_Div_eq(ha:BQ n a)(hb:BQ m b)(hn:n+m≤90000)(h0:b≠0):oz (ofQ a) (ofQ b)=some (ofQ (a / b),0):=by
 have hbn:b.num≠0:=λe=>h0 (Rat.num_eq_zero.1 e)
 unfold oz
 rw[bt,aa,sg_eq0,qU (by simp_all)]
 show ac (fW (ofI a.num) (ofI (b.den:Int))) (λy1=>ac (fW (ofI (a.den:Int)) (ofI b.num)) λy2=>ac (gk y1 y2) λy3=>some (y3,0))=_
 rw[gn ha.1 hb.2 (by omega) (by omega),aa,gn ha.2 hb.1 (by omega) (by omega),aa,lW (m:=n+m) (ha.1.mul hb.2) (ha.2.mul hb.1) (by omega) (by
  have:=den_pos a
  grind[zT]),aa,div_divInt]
theorem ra_Div_zero:∃x,oz (ofQ a) (ofQ 0)=some (x,6):=by
 unfold oz
 rw[bt,aa]
 exact⟨_,rfl⟩
theorem BQ.div(ha:BQ n a)(hb:BQ m b)(h0:b≠0):BQ (n+m) (a / b):=by
 have hbn:b.num≠0:=λe=>h0 (Rat.num_eq_zero.1 e)
 rw[←div_divInt]
 refine divInt_BQ (ha.1.mul hb.2) (ha.2.mul hb.1) ?_
 have:=den_pos a
 grind[zT]
theorem ra_side_eq(hz:Bd n z)(hn:n≤50000)(h0:0≤z):ra_side (ofI z)=some (ofI ((isq z.toNat:Nat):Int),decide (isq z.toNat*isq z.toNat=z.toNat)):=by
 (unfold ra_side;try delta jR)
 rw[it_Sqrt_eq hz (by omega) h0,aa]
 dsimp only
 obtain⟨a,rfl⟩:=zB h0
 rw[zQ]
 have hb:=Bd.isq hz
 simp only[beq_self_eq_true,qX]
 rw[gn hb hb (by omega) (by omega),aa,kh (hb.mul hb) hz (by omega) (by omega),aa,sg_eq0,aa]
 (simp_all;omega)
variable {c:Rat}
theorem ra_Sqrt_ok(hc:BQ n c)(hn:n≤50000)(h0:0≤c):(∃s:Rat,ra_Sqrt (ofQ c)=some (ofQ s,true)∧BQ n s∧s*s=c)∨(∃x,ra_Sqrt (ofQ c)=some (x,false)):=by
 have hnum:0≤c.num:=Rat.num_nonneg.2 h0
 (unfold ra_Sqrt;try delta jC)
 rw[show (ofQ c).Num=ofI c.num from rfl,show (ofQ c).Den=ofI (c.den:Int) from rfl,ra_side_eq hc.1 hn hnum,aa]
 dsimp only
 by_cases h1:isq c.num.toNat*isq c.num.toNat=c.num.toNat
 ·rw[qY h1,qV rfl,ra_side_eq hc.2 hn (by omega),aa,zQ]
  dsimp only
  by_cases h2:isq c.den*isq c.den=c.den
  ·rw[qY h2]
   left
   have hd0:0<isq c.den:=by
    rcases Nat.eq_zero_or_pos (isq c.den)with z | z
    ·rw[z]at h2;have:=c.den_pos;omega
    ·exact z
   have hcop:Nat.Coprime (isq c.num.toNat) (isq c.den):=by
    have h3:=c.reduced
    have h4:c.num.natAbs=c.num.toNat:=by omega
    rw[h4]at h3
    exact Nat.Coprime.coprime_dvd_left ⟨_,h1.symm⟩ (Nat.Coprime.coprime_dvd_right ⟨_,h2.symm⟩ h3)
   obtain⟨s,s1,s2⟩:=rat_of (n:=((isq c.num.toNat:Nat):Int)) (d:=((isq c.den:Nat):Int)) (by omega) (by
    simp_all)
   refine⟨s,?_,⟨?_,?_⟩,?_⟩
   simp_all[ofQ]
   ·rw[s1];exact Bd.isq (by rw[show ((c.num.toNat:Nat):Int)=c.num by omega];exact hc.1)
   ·rw[s2];exact Bd.isq hc.2
   ·rw[←mul_divInt,s1,s2,←zU,←zU,h1,h2,show ((c.num.toNat:Nat):Int)=c.num by omega]
    simp_all
  simp_all
 simp_all
theorem rt_zero_eq:qA=some (ofQ 0):=by
 simp_all[qA,pE]
theorem g7(a:Rat):dp (ofQ a)=some (ofR a 0 0):=by
 unfold dp
 rw[rt_zero_eq,aa,aa];rfl
def redC(B C:Rat):Rat:=if B.num=0 then 0 else C
theorem nw(A B C:Rat):iL (ofQ A) (ofQ B) (ofQ C)=some (ofR A B (redC B C)):=by
 (unfold iL;try delta jC)
 rw[bt,aa,sg_eq0]
 unfold redC
 by_cases h:B.num=0
 ·rw[qY h,qV rfl,qV h,rt_zero_eq];rfl
 ·rw[qZ h,qU (by simp),qU h];rfl
variable {C:Rat}
theorem rt_Make_ok(hC:BQ n C)(hn:n≤50000)(h0:0≤C) :
  (∃s:Rat,BQ n s∧s*s=C∧∀{A B:Rat} {k m:Nat},BQ k A→BQ m B→k+m+n≤80000→jI (ofQ A) (ofQ B) (ofQ C)=some (ofR (A+B*s) 0 0,0)) ∨
  (∀A B:Rat,jI (ofQ A) (ofQ B) (ofQ C)=some (ofR A B (redC B C),0)):=by
 have hs:¬sg C.num<0:=by simp_all[sg_neg']
 rcases ra_Sqrt_ok hC hn h0 with⟨s,h1,h2,h3⟩|⟨x,h1⟩
 ·refine .inl ⟨s,h2,h3,λ{A B k m} hA hB hk=>?_⟩
  unfold jI
  rw[bt,aa,qU (by simp_all),h1,aa]
  dsimp only
  rw[qV rfl,eG hB h2 (by omega),aa,ja hA (hB.mul h2) (by omega),aa,g7,aa]
 simp_all[jI,bt,nw]
variable {A B:Rat}
theorem rt_Make_neg(h:C<0):∃x,jI (ofQ A) (ofQ B) (ofQ C)=some (x,7):=by
 have hs:sg C.num<0:=by
  rw[sg_neg']
  grind[Rat.num_nonneg]
 simp_all[jI,bt]
theorem rt_Add_rat{z:Rat}(hA:BQ n A)(hB:BQ n B)(hz:BQ m z)(hn:n+m≤80000)(hr:B.num=0→C=0):rt_Add (ofR A B C) (ofR z 0 0)=some (ofR (A+z) B C,0):=by
 have b0:BQ 1 (0:Rat):=by
  have:=BQ.int (n:=1) (z:=0) (by simp_all[Bd,pw]) (zE _)
  omega
 have e:(ofR z 0 0).B=ofQ 0:=rfl
 (unfold rt_Add rt_common;try delta jR)
 rw[show (ofR A B C).B=ofQ B from rfl,bt,aa,sg_eq0]
 by_cases h:B.num=0
 ·have hB0:B=0:=Rat.num_eq_zero.1 h
  have hC0:=hr h
  subst hB0;subst hC0
  rw[qY h,qV rfl,aa]
  dsimp only
  rw[qU (by simp)]
  show ac (lf (ofQ A) (ofQ z)) (λy2=>ac (lf (ofQ 0) (ofQ 0)) λy3=>ac (iL y2 y3 (ofQ 0)) λy4=>some (y4,0))=_
  rw[ja hA hz (by omega),aa,ja b0 b0 (by omega),aa,nw,aa,Rat.add_zero]
  simp_all[redC]
 ·rw[qZ h,qU (by simp),e,bt,aa,qV (by rfl),aa,aa]
  dsimp only
  rw[qU (by simp)]
  show ac (lf (ofQ A) (ofQ z)) (λy2=>ac (lf (ofQ B) (ofQ 0)) λy3=>ac (iL y2 y3 (ofQ C)) λy4=>some (y4,0))=_
  rw[ja hA hz (by omega),aa,ja hB b0 (by omega),aa,nw,aa,Rat.add_zero]
  simp_all[redC]
set_option maxRecDepth 100000
theorem ofInt_nat{a:Nat}(h:a<18446744073709551616):(BitVec.ofInt 64 (a:Int)).toNat=a:=by
 simp_all
theorem and_mod{a:Int}(h0:0≤a)(h1:a<18446744073709551616)(m:Nat)(hm:m≤63):andI .u64 a ((2 ^ m-1:Nat):Int)=a % ((2 ^ m:Nat):Int):=by
 obtain⟨n,rfl⟩:=zB h0
 have h2:2 ^ m≤2 ^ 63:=Nat.pow_le_pow_right (by omega) hm
 grind[andI,IntKind.bits,Nat.and_two_pow_sub_one_eq_mod,wU64]
theorem and32{a:Int}(h0:0≤a)(h1:a<18446744073709551616):andI .u64 a 4294967295=a % 4294967296:=and_mod h0 h1 32 (by omega)
theorem and16{a:Int}(h0:0≤a)(h1:a<18446744073709551616):andI .u64 a 65535=a % 65536:=and_mod h0 h1 16 (by omega)
theorem shr_k{a:Int}(h0:0≤a)(m:Nat)(hm:m≤64):shrI .u64 a (m:Int)=a / ((2 ^ m:Nat):Int):=by
 grind[shrI,IntKind.bits]
theorem shr32{a:Int}(h0:0≤a):shrI .u64 a 32=a / 4294967296:=shr_k h0 32 (by omega)
theorem shr16{a:Int}(h0:0≤a):shrI .u64 a 16=a / 65536:=shr_k h0 16 (by omega)
theorem or_sum{a b:Int}(h0:0≤a)(h1:a<65536)(h2:0≤b)(h3:b<281474976710656):orI .u64 (shlI .u64 a 48) b=a*281474976710656+b:=by
 obtain⟨n,rfl⟩:=zB h0
 obtain⟨m,rfl⟩:=zB h2
 have e:shlI .u64 (n:Int) 48=((n <<< 48:Nat):Int):=by
  grind[shlI,IntKind.bits,wU64,zR]
 grind[zR,orI,IntKind.bits,ofInt_nat,Nat.shiftLeft_add_eq_or_of_lt,wU64]
theorem mul64_eq{a b:Int}(ha:0≤a)(ha2:a<18446744073709551616)(hb:0≤b)(hb2:b<18446744073709551616):m7 a b=some (a*b / 18446744073709551616,a*b % 18446744073709551616):=by
 unfold m7
 have a0:=zV a (b:=4294967296) (by omega)
 have a1:=zO a (b:=4294967296) (by omega)
 have b0:=zV b (b:=4294967296) (by omega)
 have b1:=zO b (b:=4294967296) (by omega)
 have a2:0≤a / 4294967296:=by omega
 have a3:a / 4294967296<4294967296:=by omega
 have b2:0≤b / 4294967296:=by omega
 have b3:b / 4294967296<4294967296:=by omega
 have ea:a=4294967296*(a / 4294967296)+a % 4294967296:=by omega
 have eb:b=4294967296*(b / 4294967296)+b % 4294967296:=by omega
 rw[and32 ha ha2,and32 hb hb2,shr32 ha,shr32 hb]
 generalize a / 4294967296=A1 at *
 generalize a % 4294967296=A0 at *
 generalize b / 4294967296=B1 at *
 generalize b % 4294967296=B0 at *
 have p:∀{x y:Int},0≤x→x<4294967296→0≤y→y<4294967296→0≤x*y∧x*y≤18446744065119617025:=by
  intro x y h1 h2 h3 h4
  refine⟨zF h1 h3,?_⟩
  have h5:x*y≤4294967295*y:=zI (by omega) h3
  omega
 obtain⟨q1,q2⟩:=p a2 a3 b2 b3
 obtain⟨q3,q4⟩:=p a2 a3 b0 b1
 obtain⟨q5,q6⟩:=p a0 a1 b2 b3
 obtain⟨q7,q8⟩:=p a0 a1 b0 b1
 have e:a*b=18446744073709551616*(A1*B1)+4294967296*(A1*B0)+4294967296*(A0*B1)+A0*B0:=by grind
 rw[e]
 generalize A1*B1=p11 at *
 generalize A1*B0=p10 at *
 generalize A0*B1=p01 at *
 generalize A0*B0=p00 at *
 clear p e ea eb a0 a1 b0 b1 a2 a3 b2 b3 ha ha2 hb hb2
 rw[wU64 (n:=p00) (by omega) (by omega),shr32 q7,wU64 (n:=p10) (by omega) (by omega),wU64 (n:=p10+p00 / 4294967296) (by omega) (by omega),shr32 (a:=p10+p00 / 4294967296) (by omega),and32 (a:=p10+p00 / 4294967296) (by omega) (by omega),wU64 (n:=p01) (by omega) (by omega),wU64 (n:=(p10+p00 / 4294967296) % 4294967296+p01) (by omega) (by omega),shr32 (a:=(p10+p00 / 4294967296) % 4294967296+p01) (by omega),wU64 (n:=p11) (by omega) (by omega)]
 (simp_all[IntKind.wrap_u64];omega)
set_option maxRecDepth 100000
def Iv(m:Int)(i:ak):Prop:=-m≤i.Low∧i.Low≤i.High∧i.High≤m
variable {i:ak}
theorem Iv.mono{m k:Int}(h:Iv m i)(hk:m≤k):Iv k i:=⟨by have:=h.1;omega,h.2.1,by have:=h.2.2;omega⟩
theorem Iv.zero{m:Int}(h:0≤m):Iv m ⟨0,0⟩:=⟨by simp_all,Int.le_refl _,h⟩
theorem oM{lo hi:Int}(h:-2305843009213693952≤lo)(h2:hi≤2305843009213693952):eE lo hi=some (⟨lo,hi⟩,true):=by
 simp_all[eE,jV]
theorem proper_no{lo hi:Int}(h:¬(-2305843009213693952≤lo∧hi≤2305843009213693952)):eE lo hi=some (⟨0,0⟩,false):=by
 simp_all[eE,jV]
def fl(q:Rat):Int:=(q*((65536:Int):Rat)).floor
def ce(q:Rat):Int:=-(-(q*((65536:Int):Rat))).floor
theorem fl_ce(q:Rat):fl q≤ce q:=by
 unfold fl ce
 rw[←Rat.ceil_eq_neg_floor_neg]
 have h1:=Rat.floor_le (q*((65536:Int):Rat))
 have h2:=Rat.floor_le (-(q*((65536:Int):Rat)))
 rw[Rat.ceil_eq_neg_floor_neg]
 rw[←Rat.intCast_le_intCast,Rat.intCast_neg]
 grind
theorem fl_add(q:Rat)(z:Int):fl (q+(z:Rat))=fl q+65536*z:=by
 unfold fl
 rw[show (q+(z:Rat))*((65536:Int):Rat)=q*((65536:Int):Rat)+((65536*z:Int):Rat) by grind,Rat.floor_add_intCast]
theorem ce_add(q:Rat)(z:Int):ce (q+(z:Rat))=ce q+65536*z:=by
 unfold ce
 rw[show -((q+(z:Rat))*((65536:Int):Rat))=-(q*((65536:Int):Rat))+((-(65536*z):Int):Rat) by grind,Rat.floor_add_intCast]
 omega
variable {q:Rat}
theorem fl_bd{m:Int}(h1:((-m:Int):Rat)≤q)(h2:q≤(m:Rat)):-(65536*m)≤fl q∧ce q≤65536*m:=by
 have e:((65536:Int):Rat)>0:=by decide
 constructor
 ·unfold fl
  rw[Rat.le_floor_iff]
  grind
 ·unfold ce
  have:-(65536*m)≤(-(q*((65536:Int):Rat))).floor:=by
   rw[Rat.le_floor_iff]
   grind
  omega
theorem bq65536:BQ 1 ((65536:Int):Rat):=BQ.int (by simp_all[Bd,pw]) (zE _)
theorem Bd.floor(h:BQ n q):Bd n q.floor:=by
 rw[Rat.floor_def]
 exact h.1.ediv (den_pos q)
theorem fromRat_eq(h:BQ n q)(hn:n≤40000):bp (ofQ q)=some (if -9223372036854775808≤fl q∧fl q≤9223372036854775807∧-9223372036854775808≤ce q∧ce q≤9223372036854775807∧-2305843009213693952≤fl q∧ce q≤2305843009213693952 then (⟨fl q,ce q⟩,true)else (⟨0,0⟩,false)):=by
 have hp:=h.mul bq65536
 have h1:=Bd.floor hp
 have h2:=Bd.floor hp.neg
 (unfold bp;try delta jV)
 rw[pE (by omega) (by omega),aa,eG h bq65536 (by omega),aa,ra_Floor_eq hp (by omega),aa,qJ h1 (by omega),aa,oy hp (by omega),aa,ra_Floor_eq hp.neg (by omega),aa,it_Neg_eq h2 (by omega),aa,qJ h2.neg (by omega),aa]
 show (if (!(if -9223372036854775808≤fl q∧fl q≤9223372036854775807 then (fl q,true)else (0,false)).2||!(if -9223372036854775808≤ce q∧ce q≤9223372036854775807 then (ce q,true)else (0,false)).2)=true then _ else ac (eE (if -9223372036854775808≤fl q∧fl q≤9223372036854775807 then (fl q,true)else (0,false)).1 (if -9223372036854775808≤ce q∧ce q≤9223372036854775807 then (ce q,true)else (0,false)).1) _)=_
 by_cases q1:-9223372036854775808≤fl q∧fl q≤9223372036854775807
 ·by_cases q2:-9223372036854775808≤ce q∧ce q≤9223372036854775807
  ·simp only[qV q1,qV q2]
   rw[qU (by simp)]
   by_cases q3:-2305843009213693952≤fl q∧ce q≤2305843009213693952<;>simp_all[oM,proper_no]
  grind
 grind
theorem jK(h:BQ n q)(hn:n≤40000):∃r,bp (ofQ q)=some r∧Iv 2305843009213693952 r.1∧(r.2=true→r.1=⟨fl q,ce q⟩):=by
 rw[fromRat_eq h hn]
 refine⟨_,rfl,?_⟩
 split
 ·rename_i c
  exact⟨⟨c.2.2.2.2.1,fl_ce q,c.2.2.2.2.2⟩,λ_=>rfl⟩
 simp_all[Iv.zero]
theorem fromRat_in{m:Int}(h:BQ n q)(hn:n≤40000)(hm:m≤35184372088832)(h1:((-m:Int):Rat)≤q)(h2:q≤(m:Rat)):bp (ofQ q)=some (⟨fl q,ce q⟩,true):=by
 have hb:=fl_bd h1 h2
 have hc:=fl_ce q
 rw[fromRat_eq h hn,qV ⟨by omega,by omega,by omega,by omega,by omega,by omega⟩]
def rtN(n:Int):Int:=((isq (n*65536).toNat:Nat):Int)
theorem rtN_bd{n:Int}(h0:0≤n)(h:n≤2305843009213693952):0≤rtN n∧rtN n≤549755813888:=by
 refine⟨Int.natCast_nonneg _,?_⟩
 unfold rtN
 have h1:=(isq_ok (n*65536).toNat).1
 rcases Nat.lt_or_ge 549755813888 (isq (n*65536).toNat)with q | q
 ·exfalso
  have h2:549755813889*549755813889≤isq (n*65536).toNat*isq (n*65536).toNat:=Nat.mul_le_mul q q
  omega
 ·omega
theorem rtN_mono{a b:Int}(h:a≤b):rtN a≤rtN b:=by
 unfold rtN
 have:isq (a*65536).toNat≤isq (b*65536).toNat:=by
  rw[le_isq]
  have:=(isq_ok (a*65536).toNat).1
  omega
 omega
theorem root_eq{n:Int}(h0:0≤n)(h:n≤2305843009213693952):∃b,jL n=some (rtN n,b):=by
 have b1:Bd 3 n:=Bd.i64 (by omega) (by omega)
 have b2:Bd 3 65536:=Bd.i64 (by omega) (by omega)
 have b3:=b1.mul b2
 have h3:0≤n*65536:=by omega
 have hr:=rtN_bd h0 h
 have b4:Bd 6 (rtN n):=by
  grind[rtN,Bd.isq]
 unfold jL
 rw[eJ (by omega) (by omega),aa,eJ (by omega) (by omega),aa,gn b1 b2 (by omega) (by omega),aa,it_Sqrt_eq b3 (by omega) h3,aa]
 show ∃b,ac (mg (ofI (rtN n))) (λy5=>ac (fW (ofI (rtN n)) (ofI (rtN n))) λy6=>ac (ls y6 (ofI (n*65536))) λy7=>some (y5.1,y7==0))=some (rtN n,b)
 rw[qJ b4 (by omega),aa,qV (by omega),gn b4 b4 (by omega) (by omega),aa,kh (b4.mul b4) b3 (by omega) (by omega),aa]
 simp_all
theorem sqrt_ok(h:Iv 2305843009213693952 i):∃r,gK i=some r∧0≤r.1.Low∧r.1.Low≤r.1.High∧r.1.High≤549755813889:=by
 obtain⟨h1,h2,h3⟩:=h
 (unfold gK;try delta jC)
 by_cases q:i.High<0
 simp_all
 ·rw[qU (by simpa using q)]
  have hm:mmI true i.Low 0=if i.Low<0 then 0 else i.Low:=by
   simp_all[mmI]
  have e0:0≤mmI true i.Low 0:=by omega
  have e1:mmI true i.Low 0≤i.High:=by omega
  obtain⟨b1,g1⟩:=root_eq e0 (by omega)
  obtain⟨b2,g2⟩:=root_eq (n:=i.High) (by omega) h3
  have r1:=rtN_bd e0 (by omega)
  have r2:=rtN_bd (n:=i.High) (by omega) h3
  have r3:=rtN_mono e1
  rw[g1,aa,g2,aa]
  dsimp only
  cases b2
  ·rw[qV (by rfl),aa,aE (by omega) (by omega),oM (by omega) (by omega),aa]
   grind
  ·rw[qU (by simp),aa,oM (by omega) (by omega),aa]
   grind
set_option maxRecDepth 100000
theorem mm_max(a b:Int):mmI true a b=if a≤b then b else a:=by
 grind[mmI]
theorem mm_min(a b:Int):mmI false a b=if a≤b then a else b:=by
 grind[mmI]
theorem abs_ok{n:Int}(h:-2305843009213693952≤n)(h2:n≤2305843009213693952):kU n=some (n.natAbs:Int):=by
 unfold kU
 by_cases q:n<0
 ·rw[qV (qY q),abs_u64 (by omega) (by omega) q]
 ·rw[qU (by simpa using q),wU64 (by omega) (by omega)]
  grind
theorem scaled_ok{x y:Int}(h1:-2305843009213693952≤x)(h2:x≤2305843009213693952)(h3:-2305843009213693952≤y)(h4:y≤2305843009213693952) :
  ∃d u b,fI x y=some (d,u,b)∧(b=true→d≤u∧-2305843009213693952≤d∧u≤2305843009213693952∧-((x.natAbs:Int)*y.natAbs / 65536+1)≤d∧u≤(x.natAbs:Int)*y.natAbs / 65536+1):=by
 (unfold fI;try delta jC jV)
 rw[abs_ok h1 h2,aa,abs_ok h3 h4,aa,mul64_eq (by omega) (by omega) (by omega) (by omega),aa]
 have p0:0≤(x.natAbs:Int)*y.natAbs:=zF (by omega) (by omega)
 generalize (x.natAbs:Int)*y.natAbs=p at *
 dsimp only
 have hi0:0≤p / 18446744073709551616:=by omega
 have lo0:0≤p % 18446744073709551616:=by omega
 have lo1:p % 18446744073709551616<18446744073709551616:=by omega
 rw[shr16 hi0,shr16 lo0,and16 lo0 lo1]
 by_cases q1:p / 18446744073709551616 / 65536=0
 ·rw[qU (by simp_all),or_sum hi0 (by omega) (by omega) (by omega)]
  have eq:p / 18446744073709551616*281474976710656+p % 18446744073709551616 / 65536=p / 65536:=by omega
  rw[eq]
  by_cases q2:p / 65536>2305843009213693952
  simp_all
  ·rw[qU (by simp_all)]
   have q0:0≤p / 65536:=by omega
   rw[aE (n:=p / 65536) (by omega) (by omega),aE (n:=p / 65536+1) (by omega) (by omega)]
   generalize p / 65536=q at *
   have key:∀v:Int,q≤v→v≤q+1→∃d u b,(ac (if (!(decide (x<0))==(decide (y<0)))=true then some (zW.wrap (0-v),zW.wrap (0-q))else some (q,v)) λ(v2:Int×Int)=>some (v2.1,v2.2,(decide (v2.1≥(-2305843009213693952)))&&(decide (v2.2≤2305843009213693952))))=some (d,u,b)∧(b=true→d≤u∧-2305843009213693952≤d∧u≤2305843009213693952∧-(q+1)≤d∧u≤q+1):=by
    intro v hv1 hv2
    by_cases c:(!(decide (x<0))==(decide (y<0)))=true
    ·rw[qV c,aa,aE (by omega) (by omega),aE (by omega) (by omega)]
     grind
    ·rw[qU c,aa]
     grind
   by_cases q3:(p % 18446744073709551616 % 65536 != 0)=true
   ·rw[qV q3,aa];exact key (q+1) (by omega) (by omega)
   ·rw[qU q3,aa];exact key q (by omega) (by omega)
 simp_all
theorem nat_mul{x y:Int}{A B:Int}(h1:-A≤x)(h2:x≤A)(h3:-B≤y)(h4:y≤B):(x.natAbs:Int)*y.natAbs / 65536≤A*B / 65536:=by
 have:(x.natAbs:Int)*y.natAbs≤A*B:=Int.le_trans (zI (by omega) (by omega)) (zA (by omega) (by omega))
 omega
set_option maxHeartbeats 4000000 in
theorem mul_ok{a b:ak}{A B:Int}(ha:Iv 2305843009213693952 a)(hb:Iv 2305843009213693952 b)(hA:Iv A a)(hB:Iv B b) :
  ∃r,gv a b=some r∧Iv 2305843009213693952 r.1∧(r.2=true→Iv (A*B / 65536+1) r.1):=by
 have n0:∃r:ak×Bool,some (ak.mk 0 0,false)=some r∧Iv 2305843009213693952 r.1∧(r.2=true→Iv (A*B / 65536+1) r.1):=⟨_,rfl,Iv.zero (by omega),λh=>by cases h⟩
 obtain⟨a1,a2,a3⟩:=ha
 obtain⟨b1,b2,b3⟩:=hb
 obtain⟨A1,A2,A3⟩:=hA
 obtain⟨B1,B2,B3⟩:=hB
 obtain⟨d1,u1,c1,e1,k1⟩:=scaled_ok (x:=a.Low) (y:=b.Low) (by omega) (by omega) (by omega) (by omega)
 obtain⟨d2,u2,c2,e2,k2⟩:=scaled_ok (x:=a.Low) (y:=b.High) (by omega) (by omega) (by omega) (by omega)
 obtain⟨d3,u3,c3,e3,k3⟩:=scaled_ok (x:=a.High) (y:=b.Low) (by omega) (by omega) (by omega) (by omega)
 obtain⟨d4,u4,c4,e4,k4⟩:=scaled_ok (x:=a.High) (y:=b.High) (by omega) (by omega) (by omega) (by omega)
 have m1:=nat_mul (A:=A) (B:=B) (x:=a.Low) (y:=b.Low) (by omega) (by omega) (by omega) (by omega)
 have m2:=nat_mul (A:=A) (B:=B) (x:=a.Low) (y:=b.High) (by omega) (by omega) (by omega) (by omega)
 have m3:=nat_mul (A:=A) (B:=B) (x:=a.High) (y:=b.Low) (by omega) (by omega) (by omega) (by omega)
 have m4:=nat_mul (A:=A) (B:=B) (x:=a.High) (y:=b.High) (by omega) (by omega) (by omega) (by omega)
 (unfold gv;try delta jB)
 rw[e1,aa]
 cases c1
 simp_all
 rw[e2]
 simp only[aa,zK,zD,qW]
 cases c2
 simp_all
 rw[e3]
 simp only[aa,zK,zD,qW,bindX]
 cases c3
 simp_all
 rw[e4]
 simp only[aa,zK,zD,qW,bindX]
 cases c4
 simp_all
 simp only[aa,zK,zD,qW,bindX,mm_max,mm_min]
 have k1:=k1 rfl
 have k2:=k2 rfl
 have k3:=k3 rfl
 have k4:=k4 rfl
 generalize (a.Low.natAbs:Int)*b.Low.natAbs / 65536=g1 at *
 generalize (a.Low.natAbs:Int)*b.High.natAbs / 65536=g2 at *
 generalize (a.High.natAbs:Int)*b.Low.natAbs / 65536=g3 at *
 generalize (a.High.natAbs:Int)*b.High.natAbs / 65536=g4 at *
 generalize A*B / 65536=g at *
 clear e1 e2 e3 e4 n0
 refine⟨_,rfl,?_,λ_=>?_⟩
 ·refine⟨?_,?_,?_⟩
  all_goals (dsimp only;repeat' split)
  all_goals omega
 ·refine⟨?_,?_,?_⟩
  all_goals (dsimp only;repeat' split)
  all_goals omega
theorem add_ok{a b:ak}(ha:Iv 2305843009213693952 a)(hb:Iv 2305843009213693952 b):∃r,fA a b=some r∧Iv 2305843009213693952 r.1:=by
 obtain⟨a1,a2,a3⟩:=ha
 obtain⟨b1,b2,b3⟩:=hb
 unfold fA
 rw[aE (by omega) (by omega),aE (by omega) (by omega)]
 by_cases q:-2305843009213693952≤a.Low+b.Low∧a.High+b.High≤2305843009213693952
 ·rw[oM q.1 q.2,aa]
  exact⟨_,rfl,q.1,by grind,q.2⟩
 simp_all[proper_no,Iv.zero]
theorem add_in{a b:ak}(ha:Iv 1152921504606846976 a)(hb:Iv 1152921504606846976 b):fA a b=some (⟨a.Low+b.Low,a.High+b.High⟩,true):=by
 obtain⟨a1,a2,a3⟩:=ha
 obtain⟨b1,b2,b3⟩:=hb
 grind[fA,aE,oM,aa]
def MidA(A:Rat):Prop:=((-17592186044416:Int):Rat)≤A∧A≤((17592186044416:Int):Rat)
def MidB(B:Rat):Prop:=((-1048576:Int):Rat)≤B∧B≤((1048576:Int):Rat)
theorem root_ok(hB:BQ n B)(hC:BQ n C)(hn:n≤40000)(mB:MidB B) :
  ∃o:Option (Int×Int),(∀p,o=some p→p.1≤p.2)∧∀{A:Rat},BQ n A→MidA A→iy (ofR A B C)=some (match o with | some p=>(⟨fl A+p.1,ce A+p.2⟩,true) | none=>(⟨0,0⟩,false)):=by
 have hA0:∀{A:Rat},BQ n A→MidA A→bp (ofQ A)=some (⟨fl A,ce A⟩,true):=λhA mA=>fromRat_in hA hn (m:=17592186044416) (by omega) mA.1 mA.2
 have hB0:=fromRat_in hB hn (m:=1048576) (by omega) mB.1 mB.2
 have bB:=fl_bd (q:=B) (m:=1048576) mB.1 mB.2
 obtain⟨rC,hC0,iC,_⟩:=jK hC hn
 obtain⟨r,s1,s2,s3,s4⟩:=sqrt_ok iC
 have iB:Iv 68719476736 ⟨fl B,ce B⟩:=⟨by simp_all,fl_ce B,by simp_all⟩
 obtain⟨t,t1,t2,t3⟩:=mul_ok (a:=⟨fl B,ce B⟩) (b:=r.1) (A:=68719476736) (B:=549755813889) (iB.mono (by omega)) ⟨by omega,s3,by omega⟩ iB ⟨by omega,s3,by omega⟩
 have hR:∀A:Rat,iy (ofR A B C)=ac (bp (ofQ A)) λ(y1:ak×Bool) =>
   ac (if y1.2=true then ac (bG (ofQ B)) λ(y2:Int)=>some (y2==0)else some true) λ(v1:Bool) =>
   if v1=true then some (y1.1,y1.2)else
   ac (bp (ofQ B)) λ(y3:ak×Bool) =>
   ac (bp (ofQ C)) λ(y4:ak×Bool) =>
   ac (if y3.2=true then if y4.2=true then ac (bG (ofQ C)) λ(y5:Int)=>some (decide (y5<0))else some true else some true) λ(v2:Bool) =>
   if v2=true then some (ak.mk 0 0,false)else
   ac (gK y4.1) λ(y6:ak×Bool) =>
   if (!y6.2)=true then some (ak.mk 0 0,false)else
   ac (gv y3.1 y6.1) λ(y7:ak×Bool) =>
   if (!y7.2)=true then some (ak.mk 0 0,false)else
   ac (fA y1.1 y7.1) λ(y8:ak×Bool)=>some (y8.1,y8.2):=λA=>rfl
 by_cases z:B.num=0
 ·refine⟨some (0,0),(λp hp=>by grind),λ{A} hA mA=>?_⟩
  simp_all[bt,sg_eq0]
 have g:∀{A:Rat},BQ n A→MidA A→iy (ofR A B C)=ac (if rC.2=true then ac (bG (ofQ C)) λ(y5:Int)=>some (decide (y5<0))else some true) λ(v2:Bool) =>
   if v2=true then some (ak.mk 0 0,false)else
   if (!r.2)=true then some (ak.mk 0 0,false)else
   if (!t.2)=true then some (ak.mk 0 0,false)else
   ac (fA ⟨fl A,ce A⟩ t.1) λ(y8:ak×Bool)=>some (y8.1,y8.2):=by
  intro A hA mA
  simp_all[bt,sg_eq0]
 obtain⟨v2,hv2⟩:∃v2,(if rC.2=true then ac (bG (ofQ C)) λ(y5:Int)=>some (decide (y5<0))else some true)=some v2:=by
  cases rC.2<;>simp_all[bt]
 cases v2
 ·cases e2:r.2
  ·exact⟨none,(λp h=>by cases h),λ{A} hA mA=>by simp_all⟩
  ·cases e3:t.2
   ·exact⟨none,(λp h=>by cases h),λ{A} hA mA=>by simp_all⟩
   ·refine⟨some (t.1.Low,t.1.High),(λp h=>by cases h;exact t2.2.1),λ{A} hA mA=>?_⟩
    have bA:=fl_bd (q:=A) (m:=17592186044416) mA.1 mA.2
    have ht:=(t3 e3).mono (k:=1152921504606846976) (by decide)
    rw[g hA mA,hv2,aa,e2,e3,add_in ⟨by simp_all,fl_ce A,by simp_all⟩ ht]
    rfl
 ·exact⟨none,(λp h=>by cases h),λ{A} hA mA=>by simp_all⟩
set_option maxRecDepth 100000
theorem plain_ok{m:Rat}(ha:BQ n a)(hb:BQ n b)(hm:BQ n m)(hn:n≤10000):∃y,dq (ofQ a) (ofQ b) (ofQ m)=some y∧-1≤y∧y≤1:=by
 have sa:=sg_in a.num
 have sb:=sg_in b.num
 have sm:=sg_in m.num
 have hw:zW.wrap (sg b.num*sg m.num)=sg b.num*sg m.num:=by
  rcases sb with e | e | e<;>rcases sm with f | f | f<;>rw[e,f]<;>rfl
 have hp:-1≤sg b.num*sg m.num∧sg b.num*sg m.num≤1:=by
  grind
 (unfold dq;try delta jV)
 rw[bt,aa,bt,aa,bt,aa,hw]
 split
 grind
 split
 simp_all
 rw[eG ha ha (by omega),aa,eG hb hb (by omega),aa,eG (hb.mul hb) hm (by omega),aa,i8 (ha.mul ha) ((hb.mul hb).mul hm) (by omega),aa]
 have hc:cmpQ (a*a) (b*b*m)=-1∨cmpQ (a*a) (b*b*m)=0∨cmpQ (a*a) (b*b*m)=1:=by
  grind[cmpQ]
 refine⟨_,rfl,?_⟩
 rcases sa with e | e | e<;>rcases hc with f | f | f<;>rw[e,f]<;>decide
theorem fsign_ok(i:ak):∃r,lJ i=some r∧-1≤r.1∧r.1≤1:=by
 (unfold lJ;try delta jV)
 repeat' split
 all_goals exact⟨_,rfl,(by omega),(by omega)⟩
theorem Iv.own(h:Iv 2305843009213693952 i):Iv 2305843009213693952 i:=h
theorem quick_ok{D M N:Rat}(hA:BQ n A)(hB:BQ n B)(hC:BQ n C)(hD:BQ n D)(hM:BQ n M)(hN:BQ n N)(hn:n≤40000) :
  ∃r,i7 (fu.mk (ofQ A) (ofQ B) (ofQ C) (ofQ D) (ofQ M) (ofQ N))=some r∧-1≤r.1∧r.1≤1:=by
 have z0:∃r:Int×Bool,some ((0:Int),false)=some r∧-1≤r.1∧r.1≤1:=⟨_,rfl,by decide,by decide⟩
 obtain⟨rA,eA,iA,_⟩:=jK hA hn
 obtain⟨rB,eB,iB,_⟩:=jK hB hn
 obtain⟨rC,eC,iC,_⟩:=jK hC hn
 obtain⟨rD,eD,iD,_⟩:=jK hD hn
 obtain⟨rM,eM,iM,_⟩:=jK hM hn
 obtain⟨rN,eN,iN,_⟩:=jK hN hn
 obtain⟨sM,fM,g1,g2,g3⟩:=sqrt_ok iM
 obtain⟨sN,fN,g4,g5,g6⟩:=sqrt_ok iN
 have jM:Iv 2305843009213693952 sM.1:=⟨by omega,g2,by omega⟩
 have jN:Iv 2305843009213693952 sN.1:=⟨by omega,g5,by omega⟩
 obtain⟨m1,k1,l1,_⟩:=mul_ok iB jM iB jM
 obtain⟨m2,k2,l2,_⟩:=mul_ok iC jN iC jN
 obtain⟨m3,k3,l3,_⟩:=mul_ok jM jN jM jN
 obtain⟨m4,k4,l4,_⟩:=mul_ok iD l3 iD l3
 obtain⟨p1,k5,l5⟩:=add_ok iA l1
 obtain⟨p2,k6,l6⟩:=add_ok l2 l4
 obtain⟨p3,k7,l7⟩:=add_ok l5 l6
 obtain⟨r,k8,h1,h2⟩:=fsign_ok p3.1
 unfold i7
 dsimp only
 rw[eM,aa,fM,aa,eN,aa,fN,aa]
 split
 ·exact z0
 rw[eB,aa,k1,aa,eC,aa,k2,aa,eD,aa,k3,aa,k4,aa]
 grind[aa]
theorem sc1_eq(ha:BQ n a)(hb:BQ m b)(hn:n+m≤90000):fp (ofQ a) (ofQ b)=some (ofQ (a+b)):=by
 grind[fp,ja,aa]
theorem mul1{x y:Int}(h1:-1≤x)(h2:x≤1)(h3:-1≤y)(h4:y≤1):zW.wrap (x*y)=x*y∧-1≤x*y∧x*y≤1:=by
 have e:x=-1∨x=0∨x=1:=by omega
 have f:y=-1∨y=0∨y=1:=by omega
 rcases e with e | e | e<;>rcases f with f | f | f<;>rw[e,f]<;>decide
theorem sign_ok{D M N:Rat}(hA:BQ n A)(hB:BQ n B)(hC:BQ n C)(hD:BQ n D)(hM:BQ n M)(hN:BQ n N)(hn:n≤500) :
  ∃y,fV (fu.mk (ofQ A) (ofQ B) (ofQ C) (ofQ D) (ofQ M) (ofQ N))=some y:=by
 obtain⟨r,e1,h1,h2⟩:=quick_ok hA hB hC hD hM hN (by omega)
 obtain⟨y4,e4,h4,h5⟩:=plain_ok hA hB hM (by omega)
 obtain⟨y5,e5,h6,h7⟩:=plain_ok hC hD hM (by omega)
 have sN:=sg_in N.num
 have w:=mul1 h6 h7 (y:=sg N.num) (by omega) (by omega)
 (unfold fV;try delta jR jV)
 dsimp only
 obtain⟨v,hv⟩:∃v,(ac (bG (ofQ M)) λ(y1:Int)=>if (decide (y1<0))=true then some true else ac (bG (ofQ N)) λ(y2:Int)=>some (decide (y2<0)))=some v:=by
  rw[bt,aa]
  split<;>simp_all[bt]
 rw[hv,aa]
 split
 simp_all
 rw[e1,aa]
 split
 simp_all
 rw[e4,aa,e5,aa,bt,aa]
 split
 simp_all
 split
 simp_all
 have bBB:=hB.mul hB
 have bMB:=hM.mul bBB
 have bDD:=hD.mul hD
 have bMD:=hM.mul bDD
 have bAA:=hA.mul hA
 have bCC:=hC.mul hC
 have b10:=bAA.add bMB
 have b14:=bCC.add bMD
 have b15:=hN.mul b14
 have b16:=b10.sub b15
 have b17:=hA.mul hB
 have b18:=hC.mul hD
 have b19:=hN.mul b18
 have b20:=b17.sub b19
 have b21:=b20.add b20
 rw[eG hA hA (by omega),aa,eG hB hB (by omega),aa,eG hM bBB (by omega),aa,sc1_eq bAA bMB (by omega),aa,eG hC hC (by omega),aa,eG hD hD (by omega),aa,eG hM bDD (by omega),aa,sc1_eq bCC bMD (by omega),aa,eG hN b14 (by omega),aa,nz b10 b15 (by omega),aa,eG hA hB (by omega),aa,eG hC hD (by omega),aa,eG hN b18 (by omega),aa,nz b17 b19 (by omega),aa,sc1_eq b20 b20 (by omega),aa]
 obtain⟨y,ey,_⟩:=plain_ok (b16.mono (m:=10000) (by omega)) (b21.mono (m:=10000) (by omega)) (hM.mono (m:=10000) (by omega)) (zE _)
 simp_all
theorem copied_eq(ha:BQ n a)(hn:n≤90000):dH (ofQ a)=some (ofQ a):=by
 unfold dH
 rw[oy ha (by omega),aa,oy ha.neg (by omega),aa,Rat.neg_neg]
structure na (n:Nat) (A B C:Rat):Prop where
 a:BQ n A
 b:BQ n B
 c:BQ n C
 ma:MidA A
 mb:MidB B
theorem b0Q:BQ 1 (0:Rat):=by
 have:=BQ.int (n:=1) (z:=0) (by simp_all[Bd,pw]) (zE _)
 omega
theorem cmp_ok {A' B' C':Rat}  (h : na n A B C) (h' : na n A' B' C') (hn : n ≤ 200) (h1 : 1 ≤ n) :
    ∃y,fq (ofR A B C) (ofR A' B' C')=some y∧∀z:Int,na n (A+z) B C→na n (A'+z) B' C'→fq (ofR (A+z) B C) (ofR (A'+z) B' C')=some y:=by
  have hd : ∀ {X Y : Rat}, fq (ofR X B C) (ofR Y B' C') = ac (ac (bG (ofQ B)) λ(y1 : Int) => if (y1 == 0) = true then ac (bG (ofQ B')) λ(y2 : Int) => some (y2 == 0) else some false) λ(v1 : Bool) =>
      if v1=true then ac (fO (ofQ X) (ofQ Y)) λ(y3:Int)=>some y3 else
      ac (eZ (ofR X B C) (ofR Y B' C')) λ(y4:Int×Bool)=>if y4.2=true then some y4.1 else
      ac (fO (ofQ C) (ofQ C')) λ(y5:Int)=>if (y5==0)=true then ac (jA (ofQ X) (ofQ Y)) λ(y6:ah)=>ac (jA (ofQ B) (ofQ B')) λ(y7:ah)=>ac (dq y6 y7 (ofQ C)) λ(y8:Int)=>some y8
      else ac (ix (ofR X B C) (ofR Y B' C')) λ(y9:fu)=>ac (fV (fu.mk y9.A y9.B y9.C y9.D y9.M y9.N)) λ(y10:Int)=>some y10:=rfl
  obtain⟨o,o1,o2⟩:=root_ok h.b h.c (by omega) h.mb
  obtain⟨p,p1,p2⟩:=root_ok h'.b h'.c (by omega) h'.mb
  obtain⟨v,hv⟩:∃v,(ac (bG (ofQ B)) λ(y1:Int)=>if (y1==0)=true then ac (bG (ofQ B')) λ(y2:Int)=>some (y2==0)else some false)=some v:=by
    rw[bt,aa]
    split<;>simp_all[bt]
  have bd:=h.a.sub h'.a
  have be:=h.b.sub h'.b
  obtain⟨yp,ep,_⟩:=plain_ok (bd.mono (m:=1000) (by omega)) (be.mono (m:=1000) (by omega)) (h.c.mono (m:=1000) (by omega)) (by omega)
  obtain⟨ys,es⟩:=sign_ok (A:=A-A') (B:=B) (C:=-B') (D:=0) (M:=C) (N:=C') (n:=450) (bd.mono (by omega)) (h.b.mono (by omega)) (h'.b.neg.mono (by omega)) (b0Q.mono (by omega)) (h.c.mono (by omega)) (h'.c.mono (by omega)) (by omega)
  -- what stands behind the intervals depends on the difference alone
  have rest : ∀ {X Y : Rat}, BQ n X → BQ n Y → X - Y = A - A' → (ac (fO (ofQ C) (ofQ C')) λ(y5 : Int) => if (y5 == 0) = true then ac (jA (ofQ X) (ofQ Y)) λ(y6 : ah) => ac (jA (ofQ B) (ofQ B')) λ(y7 : ah) => ac (dq y6 y7 (ofQ C)) λ(y8 : Int) => some y8
      else ac (ix (ofR X B C) (ofR Y B' C')) λ(y9:fu)=>ac (fV (fu.mk y9.A y9.B y9.C y9.D y9.M y9.N)) λ(y10:Int)=>some y10)=some (if cmpQ C C'=0 then yp else ys):=by
    intro X Y hX hY e
    rw[i8 h.c h'.c (by omega),aa]
    by_cases q:cmpQ C C'=0
    · rw[qV (beq_iff_eq.2 q),qV q,nz hX hY (by omega),aa,nz h.b h'.b (by omega),aa,e,ep,aa]
    · rw[qU (by simpa using q),qU q]
      have hs:ix (ofR X B C) (ofR Y B' C')=some (fu.mk (ofQ (A-A')) (ofQ B) (ofQ (-B')) (ofQ 0) (ofQ C) (ofQ C')):=by
        show ac (jA (ofQ X) (ofQ Y)) (λy1=>ac (dH (ofQ B)) λy2=>ac (qk (ofQ B')) λy3=>ac (eI 0) λy4=>ac (dH (ofQ C)) λy5=>ac (dH (ofQ C')) λy6=>some (fu.mk y1 y2 y3 y4 y5 y6))=_
        rw[nz hX hY (by omega),aa,copied_eq h.b (by omega),aa,oy h'.b (by omega),aa,pE (by omega) (by omega),aa,copied_eq h.c (by omega),aa,copied_eq h'.c (by omega),aa,e]
        rfl
      simp_all
  have ap : ∀ {X Y : Rat}, BQ n X → MidA X → BQ n Y → MidA Y → eZ (ofR X B C) (ofR Y B' C') = some (match o, p with
      | some a,some b=>if ce X+a.2<fl Y+b.1 then (-1,true)else if fl X+a.1>ce Y+b.2 then (1,true)else (0,false)
      | _,_=>(0,false)):=by
    intro X Y hX mX hY mY
    (unfold eZ;try delta jV)
    rw[o2 hX mX,aa,p2 hY mY,aa]
    cases o with
    | none=>rfl
    | some a =>
      cases p<;>grind
  have main : ∀ {X Y : Rat} (z : Int), X = A + z → Y = A' + z → na n X B C → na n Y B' C' → fq (ofR X B C) (ofR Y B' C') = some (if v = true then cmpQ A A' else match (match o, p with
      | some a,some b=>if ce A+a.2<fl A'+b.1 then ((-1:Int),true)else if fl A+a.1>ce A'+b.2 then (1,true)else (0,false)
      | _,_=>(0,false))with | (r,true)=>r | (_,false)=>if cmpQ C C'=0 then yp else ys):=by
    intro X Y z eX eY gX gY
    rw[hd,hv,aa,i8 gX.a gY.a (by omega),ap gX.a gX.ma gY.a gY.ma]
    by_cases q:v=true
    · rw[qV q,qV q,aa,eX,eY,cmpQ_add]
    · rw[qU q,qU q,aa,rest gX.a gY.a (by grind)]
      cases o with
      | none=>rfl
      | some a =>
        cases p with
        | none=>rfl
        | some b =>
          dsimp only
          rw[eX,eY,fl_add,fl_add,ce_add,ce_add]
          grind
  refine⟨_,main 0 (by grind) (by grind) h h',λz g g'=>main z rfl rfl g g'⟩
theorem equal_self(h:na n A B C)(hn:n≤200):fY (ofR A B C) (ofR A B C)=some true:=by
 obtain⟨o,o1,o2⟩:=root_ok h.b h.c (by omega) h.mb
 have hd:fq (ofR A B C) (ofR A B C)=ac (ac (bG (ofQ B)) λ(y1:Int)=>if (y1==0)=true then ac (bG (ofQ B)) λ(y2:Int)=>some (y2==0)else some false) λ(v1:Bool) =>
   if v1=true then ac (fO (ofQ A) (ofQ A)) λ(y3:Int)=>some y3 else
   ac (eZ (ofR A B C) (ofR A B C)) λ(y4:Int×Bool)=>if y4.2=true then some y4.1 else
   ac (fO (ofQ C) (ofQ C)) λ(y5:Int)=>if (y5==0)=true then ac (jA (ofQ A) (ofQ A)) λ(y6:ah)=>ac (jA (ofQ B) (ofQ B)) λ(y7:ah)=>ac (dq y6 y7 (ofQ C)) λ(y8:Int)=>some y8
   else ac (ix (ofR A B C) (ofR A B C)) λ(y9:fu)=>ac (fV (fu.mk y9.A y9.B y9.C y9.D y9.M y9.N)) λ(y10:Int)=>some y10:=rfl
 have hz:fq (ofR A B C) (ofR A B C)=some 0:=by
  rw[hd]
  obtain⟨v,hv⟩:∃v,(ac (bG (ofQ B)) λ(y1:Int)=>if (y1==0)=true then ac (bG (ofQ B)) λ(y2:Int)=>some (y2==0)else some false)=some v:=by
   grind[bt,aa]
  rw[hv,aa]
  cases v
  ·rw[qU (by simp)]
   have ha:eZ (ofR A B C) (ofR A B C)=some (0,false):=by
    (unfold eZ;try delta jV)
    rw[o2 h.a h.ma,aa,aa]
    cases o with
    | none=>rfl
    | some a =>
     have:=o1 a rfl
     have:=fl_ce A
     grind
   rw[ha,aa]
   dsimp only
   rw[qU (by simp),i8 h.c h.c (by omega),aa,cmpQ_self,qV (by rfl),nz h.a h.a (by omega),aa,nz h.b h.b (by omega),aa,Rat.sub_self,Rat.sub_self]
   (unfold dq;try delta jV)
   rw[bt,aa,aa,bt,aa]
   have s0:sg (Rat.num 0)=0:=rfl
   rw[s0,Int.zero_mul,qV (by decide),aa]
  ·rw[qV rfl,i8 h.a h.a (by omega),aa,cmpQ_self]
 grind[fY,aa]
set_option maxRecDepth 100000
def ofV(x y:Rat):aI:=⟨ofQ x,ofQ y⟩
theorem dsub_eq(ha:BQ n a)(hb:BQ m b)(hn:n+m≤90000):fk (ofQ a) (ofQ b)=some (ofQ (a-b)):=by
 grind[fk,nz,aa]
theorem dmul_eq(ha:BQ n a)(hb:BQ m b)(hn:n+m≤90000):dl (ofQ a) (ofQ b)=some (ofQ (a*b)):=by
 grind[dl,eG,aa]
theorem dadd_eq(ha:BQ n a)(hb:BQ m b)(hn:n+m≤90000):iR (ofQ a) (ofQ b)=some (ofQ (a+b)):=by
 grind[iR,ja,aa]
variable {d:Rat}
theorem o9(ha:BQ n a)(hb:BQ n b)(hc:BQ n c)(hd:BQ n d)(hn:n≤40000):bF (ofV a b) (ofV c d)=some (ofV (c-a) (d-b)):=by
 unfold bF
 show ac (fk (ofQ c) (ofQ a)) (λy1=>ac (fk (ofQ d) (ofQ b)) λy2=>some (aI.mk y1 y2))=_
 rw[dsub_eq hc ha (by omega),aa,dsub_eq hd hb (by omega),aa];rfl
theorem ddot_eq(ha:BQ n a)(hb:BQ n b)(hc:BQ n c)(hd:BQ n d)(hn:n≤10000):dZ (ofV a b) (ofV c d)=some (ofQ (a*c+b*d)):=by
 unfold dZ
 show ac (dl (ofQ a) (ofQ c)) (λy1=>ac (dl (ofQ b) (ofQ d)) λy2=>ac (iR y1 y2) λy3=>some y3)=_
 rw[dmul_eq ha hc (by omega),aa,dmul_eq hb hd (by omega),aa,dadd_eq (ha.mul hc) (hb.mul hd) (by omega),aa]
theorem dcross_eq(ha:BQ n a)(hb:BQ n b)(hc:BQ n c)(hd:BQ n d)(hn:n≤10000):bE (ofV a b) (ofV c d)=some (ofQ (a*d-b*c)):=by
 unfold bE
 show ac (dl (ofQ a) (ofQ d)) (λy1=>ac (dl (ofQ b) (ofQ c)) λy2=>ac (fk y1 y2) λy3=>some y3)=_
 rw[dmul_eq ha hd (by omega),aa,dmul_eq hb hc (by omega),aa,dsub_eq (ha.mul hd) (hb.mul hc) (by omega),aa]
theorem dover_ok(ha:BQ n a)(hb:BQ m b)(hn:n+m≤90000)(h1:1≤n):∃g,ic (ofQ a) (ofQ b)=some (ofQ g)∧BQ (n+m) g:=by
 unfold ic
 by_cases h0:b=0
 ·subst h0
  obtain⟨x,hx⟩:=ra_Div_zero (a:=a)
  rw[hx,aa]
  dsimp only
  rw[qV (by decide),pE (by omega) (by omega),aa]
  exact⟨0,rfl,b0Q.mono (by omega)⟩
 ·rw[ra_Div_eq ha hb hn h0,aa]
  dsimp only
  rw[qU (by decide)]
  exact⟨_,rfl,ha.div hb h0⟩
theorem tseg_ok{dx dy qx qy ex ey:Rat}{k:Nat}(h1:BQ k dx)(h2:BQ k dy)(h3:BQ k qx)(h4:BQ k qy)(h5:BQ k ex)(h6:BQ k ey)(hk:k≤1000)(hk1:1≤k) :
  ∃g,BQ (20*k) g∧∀{ax ay bx bY px py:Rat} {n:Nat},BQ n ax→BQ n ay→BQ n bx→BQ n bY→BQ n px→BQ n py→n≤30000→bx-ax=dx→bY-ay=dy→px-ax=qx→py-ay=qy→px-bx=ex→py-bY=ey →
   bv (ofV ax ay) (ofV bx bY) (ofV px py)=some (ofQ g):=by
 have m3:=(h1.mul h1).add (h2.mul h2)
 have m4:=(h1.mul h3).add (h2.mul h4)
 have m6:=(h3.mul h3).add (h4.mul h4)
 have m9:=(h5.mul h5).add (h6.mul h6)
 have m10:=(h1.mul h4).sub (h2.mul h3)
 have m11:=m10.mul m10
 obtain⟨g3,e3,b3⟩:=dover_ok m11 m3 (by omega) (by omega)
 have hd:∀{ax ay bx bY px py:Rat} {n:Nat},BQ n ax→BQ n ay→BQ n bx→BQ n bY→BQ n px→BQ n py→n≤30000→bx-ax=dx→bY-ay=dy→px-ax=qx→py-ay=qy→px-bx=ex→py-bY=ey →
   bv (ofV ax ay) (ofV bx bY) (ofV px py)=if (decide (sg (dx*qx+dy*qy).num≤0))=true then some (ofQ (qx*qx+qy*qy))else if (decide (cmpQ (dx*qx+dy*qy) (dx*dx+dy*dy)≥0))=true then some (ofQ (ex*ex+ey*ey))else some (ofQ g3):=by
  intro ax ay bx bY px py n a1 a2 a3 a4 a5 a6 hn e1 e2 e3' e4 e5 e6
  unfold bv
  rw[o9 a1 a2 a3 a4 (by omega),aa,o9 a1 a2 a5 a6 (by omega),aa,e1,e2,e3',e4]
  show ac (dZ (ofV dx dy) (ofV dx dy)) (λy3=>ac (dZ (ofV dx dy) (ofV qx qy)) λy4=>ac (bG y4) λy5=>if (decide (y5≤0))=true then ac (dZ (ofV qx qy) (ofV qx qy)) λy6=>some y6 else ac (fO y4 y3) λy7=>if (decide (y7≥0))=true then ac (bF (ofV bx bY) (ofV px py)) λy8=>ac (dZ y8 y8) λy9=>some y9 else ac (bE (ofV dx dy) (ofV qx qy)) λy10=>ac (dl y10 y10) λy11=>ac (ic y11 y3) λy12=>some y12)=_
  rw[ddot_eq h1 h2 h1 h2 (by omega),aa,ddot_eq h1 h2 h3 h4 (by omega),aa,bt,aa]
  grind[ddot_eq,aa,i8,o9,dcross_eq,dmul_eq]
 by_cases c1:sg (dx*qx+dy*qy).num≤0
 ·refine⟨_,m6.mono (by omega),λa1 a2 a3 a4 a5 a6 hn e1 e2 e3 e4 e5 e6=>?_⟩
  rw[hd a1 a2 a3 a4 a5 a6 hn e1 e2 e3 e4 e5 e6,qV (qY c1)]
 ·by_cases c2:cmpQ (dx*qx+dy*qy) (dx*dx+dy*dy)≥0
  ·refine⟨_,m9.mono (by omega),λa1 a2 a3 a4 a5 a6 hn e1 e2 e3 e4 e5 e6=>?_⟩
   rw[hd a1 a2 a3 a4 a5 a6 hn e1 e2 e3 e4 e5 e6,qU (by simp_all),qV (qY c2)]
  ·refine⟨_,b3.mono (by omega),λa1 a2 a3 a4 a5 a6 hn e1 e2 e3 e4 e5 e6=>?_⟩
   rw[hd a1 a2 a3 a4 a5 a6 hn e1 e2 e3 e4 e5 e6,qU (by simp_all),qU (by simp_all)]
theorem least_ok(ha:BQ n a)(hb:BQ n b)(hn:n≤40000):∃g,(ac (fO (ofQ a) (ofQ b)) λ(y:Int)=>if (decide (y<0))=true then some (ofQ a)else some (ofQ b))=some (ofQ g)∧BQ n g:=by
 grind[i8,aa]
theorem seg_ok{ux uy wx wy:Rat}{k:Nat}(h1:BQ k ux)(h2:BQ k uy)(h3:BQ k wx)(h4:BQ k wy)(hk:k≤100)(hk1:1≤k) :
  ∃g,BQ (60*k) g∧∀{x y:Rat} {n:Nat},BQ n x→BQ n y→BQ n (x+ux)→BQ n (y+uy)→BQ n (x+wx)→BQ n (y+wy)→n≤30000 →
   eh (ofV (x+ux) (y+uy)) (ofV (x+wx) (y+wy)) (ofV x y) (ofV x y)=some (ofQ g):=by
 have z:BQ (3*k) (0:Rat):=b0Q.mono (by omega)
 have dX:=(h3.sub h1).mono (m:=3*k) (by omega)
 have dY:=(h4.sub h2).mono (m:=3*k) (by omega)
 have nX:=h1.neg.mono (m:=3*k) (by omega)
 have nY:=h2.neg.mono (m:=3*k) (by omega)
 have mX:=h3.neg.mono (m:=3*k) (by omega)
 have mY:=h4.neg.mono (m:=3*k) (by omega)
 have uX:=h1.mono (m:=3*k) (by omega)
 have uY:=h2.mono (m:=3*k) (by omega)
 have wX:=h3.mono (m:=3*k) (by omega)
 have wY:=h4.mono (m:=3*k) (by omega)
 obtain⟨g1,b1,f1⟩:=tseg_ok dX dY nX nY mX mY (by omega) (by omega)
 obtain⟨g2,b2,f2⟩:=tseg_ok z z uX uY uX uY (by omega) (by omega)
 obtain⟨g3,b3,f3⟩:=tseg_ok z z wX wY wX wY (by omega) (by omega)
 obtain⟨l1,k1,c1⟩:=least_ok b1 b1 (by omega)
 obtain⟨l2,k2,c2⟩:=least_ok b2 c1 (by omega)
 obtain⟨l3,k3,c3⟩:=least_ok b3 c2 (by omega)
 have t1:=(dX.mul nY).sub (dY.mul nX)
 have t2:=(z.mul uY).sub (z.mul uX)
 have t3:=(z.mul wY).sub (z.mul wX)
 obtain⟨cr,hcr⟩:∃cr:Bool,cr=(if (decide ((zW.wrap (sg ((wx-ux) * -uy-(wy-uy) * -ux).num*sg ((wx-ux) * -uy-(wy-uy) * -ux).num))<0))=true then decide ((zW.wrap (sg (0*uy-0*ux:Rat).num*sg (0*wy-0*wx:Rat).num))<0)else false):=⟨_,rfl⟩
 have main:∀{x y:Rat} {n:Nat},BQ n x→BQ n y→BQ n (x+ux)→BQ n (y+uy)→BQ n (x+wx)→BQ n (y+wy)→n≤30000 →
   eh (ofV (x+ux) (y+uy)) (ofV (x+wx) (y+wy)) (ofV x y) (ofV x y)=if cr=true then some (ofQ 0)else some (ofQ l3):=by
  intro x y n a1 a2 a3 a4 a5 a6 hn
  have hc:fm (ofV (x+ux) (y+uy)) (ofV (x+wx) (y+wy)) (ofV x y) (ofV x y)=some cr:=by
   (unfold fm;try delta jR)
   show ac (bF (ofV (x+ux) (y+uy)) (ofV (x+wx) (y+wy))) (λy1=>ac (bF (ofV x y) (ofV x y)) λy2=>ac (ac (bF (ofV (x+ux) (y+uy)) (ofV x y)) λy3=>ac (bE (aI.mk y1.X y1.Y) (aI.mk y3.X y3.Y)) λy4=>ac (bG y4) λy5=>ac (bF (ofV (x+ux) (y+uy)) (ofV x y)) λy6=>ac (bE (aI.mk y1.X y1.Y) y6) λy7=>ac (bG y7) λy8=>if (decide ((zW.wrap (y5*y8))<0))=true then ac (bF (ofV x y) (ofV (x+ux) (y+uy))) λy9=>ac (bE (aI.mk y2.X y2.Y) y9) λy10=>ac (bG y10) λy11=>ac (bF (ofV x y) (ofV (x+wx) (y+wy))) λy12=>ac (bE (aI.mk y2.X y2.Y) y12) λy13=>ac (bG y13) λy14=>some (decide ((zW.wrap (y11*y14))<0))else some false) λv1=>some v1)=_
   rw[o9 a3 a4 a5 a6 (by omega),aa,o9 a1 a2 a1 a2 (by omega),aa,o9 a3 a4 a1 a2 (by omega),aa]
   rw[show x+wx-(x+ux)=wx-ux by grind,show y+wy-(y+uy)=wy-uy by grind,show x-(x+ux)=-ux by grind,show y-(y+uy)=-uy by grind,Rat.sub_self,Rat.sub_self]
   show ac (ac (bE (ofV (wx-ux) (wy-uy)) (ofV (-ux) (-uy))) λy4=>ac (bG y4) λy5=>ac (bE (ofV (wx-ux) (wy-uy)) (ofV (-ux) (-uy))) λy7=>ac (bG y7) λy8=>if (decide ((zW.wrap (y5*y8))<0))=true then ac (bF (ofV x y) (ofV (x+ux) (y+uy))) λy9=>ac (bE (ofV 0 0) y9) λy10=>ac (bG y10) λy11=>ac (bF (ofV x y) (ofV (x+wx) (y+wy))) λy12=>ac (bE (ofV 0 0) y12) λy13=>ac (bG y13) λy14=>some (decide ((zW.wrap (y11*y14))<0))else some false) (λv1=>some v1)=_
   rw[dcross_eq dX dY nX nY (by omega),aa,bt,aa,aa,bt,aa]
   rw[hcr]
   split
   ·rw[o9 a1 a2 a3 a4 (by omega),aa,show x+ux-x=ux by grind,show y+uy-y=uy by grind,dcross_eq z z uX uY (by omega),aa,bt,aa,o9 a1 a2 a5 a6 (by omega),aa,show x+wx-x=wx by grind,show y+wy-y=wy by grind,dcross_eq z z wX wY (by omega),aa,bt,aa,aa]
   simp_all
  (unfold eh;try delta jB)
  show ac (fm (ofV (x+ux) (y+uy)) (ofV (x+wx) (y+wy)) (ofV x y) (ofV x y)) _=_
  rw[hc,aa]
  split
  simp_all[pE]
  ·show ac (bv (ofV (x+ux) (y+uy)) (ofV (x+wx) (y+wy)) (ofV x y)) (λy3=>ac (bv (ofV (x+ux) (y+uy)) (ofV (x+wx) (y+wy)) (ofV x y)) λy4=>ac (bv (ofV x y) (ofV x y) (ofV (x+ux) (y+uy))) λy5=>ac (bv (ofV x y) (ofV x y) (ofV (x+wx) (y+wy))) λy6=>ac (ac (ac (fO y4 y3) λy7=>if (decide (y7<0))=true then some y4 else some y3) λv1=>ac (ac (fO y5 v1) λy8=>if (decide (y8<0))=true then some y5 else some v1) λv2=>ac (ac (fO y6 v2) λy9=>if (decide (y9<0))=true then some y6 else some v2) λv3=>some v3) λv4=>some v4)=_
   rw[f1 a3 a4 a5 a6 a1 a2 hn (by grind) (by grind) (by grind) (by grind) (by grind) (by grind),aa,aa,f2 a1 a2 a1 a2 a3 a4 hn (by grind) (by grind) (by grind) (by grind) (by grind) (by grind),aa,f3 a1 a2 a1 a2 a5 a6 hn (by grind) (by grind) (by grind) (by grind) (by grind) (by grind),aa,k1,aa,k2,aa,k3,aa,aa]
 cases hq:cr
 ·refine⟨l3,c3.mono (by omega),λa1 a2 a3 a4 a5 a6 hn=>?_⟩
  rw[main a1 a2 a3 a4 a5 a6 hn,hq];rfl
 ·refine⟨0,b0Q.mono (by omega),λa1 a2 a3 a4 a5 a6 hn=>?_⟩
  rw[main a1 a2 a3 a4 a5 a6 hn,hq];rfl
set_option maxRecDepth 100000
def Ab(a q:Rat):Prop:=-a≤q∧q≤a
theorem Ab.nn(h:Ab a q):0≤a:=by have:=h.1;have:=h.2;grind
theorem Ab.mono(h:Ab a q)(hb:a≤b):Ab b q:=⟨by have:=h.1;grind,by have:=h.2;grind⟩
theorem Ab.neg(h:Ab a q):Ab a (-q):=⟨by have:=h.2;grind,by have:=h.1;grind⟩
variable {p:Rat}
theorem Ab.add(h:Ab a p)(k:Ab b q):Ab (a+b) (p+q):=⟨by have:=h.1;have:=k.1;grind,by have:=h.2;have:=k.2;grind⟩
theorem Ab.mul(h:Ab a p)(k:Ab b q):Ab (a*b) (p*q):=by
 have pos:∀{p:Rat},0≤p→p≤a→Ab (a*b) (p*q):=by
  intro p h0 h1
  have e1:=Rat.mul_le_mul_of_nonneg_left k.2 h0
  have e2:=Rat.mul_le_mul_of_nonneg_left k.1 h0
  have e3:=Rat.mul_le_mul_of_nonneg_right h1 k.nn
  exact⟨by grind,by grind⟩
 rcases Rat.le_total (a:=0) (b:=p)with h0 | h0
 ·exact pos h0 h.2
 ·have:=(pos (p:=-p) (by grind) (by have:=h.1;grind)).neg
  simp_all[Rat.neg_mul]
theorem Ab.int{k:Int}(h:-k≤z)(h2:z≤k):Ab (k:Rat) (z:Rat):=⟨by rw[←Rat.intCast_neg];exact Rat.intCast_le_intCast.2 h,Rat.intCast_le_intCast.2 h2⟩
theorem Ab.sub(h:Ab a p)(k:Ab b q):Ab (a+b) (p-q):=by
 have:=h.add k.neg
 grind
theorem Ab.cancel(hd:0<d)(h:Ab (a*d) (q*d)):Ab a q:=by
 constructor
 ·refine Rat.le_of_mul_le_mul_right (c:=d) ?_ hd
  have:=h.1;grind
 ·exact Rat.le_of_mul_le_mul_right h.2 hd
theorem Ab.sq(ha:0≤a)(h:q*q≤a*a):Ab a q:=by
 have key:∀{q:Rat},q*q≤a*a→q≤a:=by
  intro q h
  rcases Rat.le_total (a:=q) (b:=a)with c | c
  ·exact c
  ·have h1:=Rat.mul_le_mul_of_nonneg_left c (show 0≤q by grind)
   have h2:=Rat.mul_le_mul_of_nonneg_right c ha
   by_cases e:q=a
   ·grind
   ·exfalso
    have hq:0<q-a:=by grind
    have:0<(q-a)*(q-a):=Rat.mul_pos hq hq
    grind
 refine⟨?_,key h⟩
 have:=key (q:=-q) (by grind)
 grind
theorem Ab.int_sq{P:Rat}(h:Ab P q)(n:Int):Ab (P*((n:Rat)*n)) (q*n):=by
 have h1:Ab P q:=h
 have h2:Ab ((n:Rat)*n) (n:Rat):=by
  have:Ab ((n*n:Int):Rat) ((n:Int):Rat):=by
   refine Ab.int ?_ ?_
   ·rcases zH n 0 with q | q
    ·have h5:-n*1≤-n * -n:=zA (by omega) (by omega)
     grind
    ·have:=zF q q;omega
   ·rcases zH n 1 with q | q
    ·rcases zH n 0 with q2 | q2
     ·have:=zG q2 q2;omega
     grind
    ·have h5:n*1≤n*n:=zA q (by omega)
     omega
  simp_all
 exact h1.mul h2
theorem mid_of(h:Ab ((17592186044416:Int):Rat) A):MidA A:=⟨by have:=h.1;simp_all,h.2⟩
theorem midB_of(h:Ab ((1048576:Int):Rat) B):MidB B:=⟨by have:=h.1;simp_all,h.2⟩
theorem slope_bd{px py:Rat}{dx dy D R:Int}{dd pd:Rat}(hP:Ab ((4194304:Int):Rat) px)(hQ:Ab ((4194304:Int):Rat) py)(hD:-1048576≤D)(hD2:D≤1048576)(hR:0≤R)(hR2:R≤1024)
  (e1:dd=(dx:Rat)*dx+(dy:Rat)*dy) (e2:pd=px*dx+py*dy) (h0:dd≠0) :
  Ab ((1048576:Int):Rat) ((D:Rat) / dd)∧Ab ((4398046511104:Int):Rat) ((D:Rat) / dd*pd) ∧
   ∀s:Rat,s*s=pd*pd-dd*(px*px+py*py-(R:Rat)*R)→Ab ((1073741824:Int):Rat) ((D:Rat) / dd*s):=by
 have hi:dd=((dx*dx+dy*dy:Int):Rat):=by simp_all
 have hs:0≤dx*dx+dy*dy:=by
  have a1:0≤dx*dx:=by rcases zH dx 0 with q | q;exact zL (zG q q);exact zF q q
  have a2:0≤dy*dy:=by rcases zH dy 0 with q | q;exact zL (zG q q);exact zF q q
  omega
 have hp:1≤dx*dx+dy*dy:=by
  rcases zH 0 (dx*dx+dy*dy)with q | q
  ·exact q
  ·exfalso;apply h0;rw[hi,show dx*dx+dy*dy=0 by omega];rfl
 have h1:(1:Rat)≤dd:=by
  rw[hi];have:=Rat.intCast_le_intCast.2 hp;omega
 have hpos:0<dd:=by grind
 have eB:(D:Rat) / dd*dd=D:=Rat.div_mul_cancel h0
 generalize (D:Rat) / dd=B at *
 have aD:Ab ((1048576:Int):Rat) (D:Rat):=Ab.int hD hD2
 have c0:(0:Rat)≤((1048576:Int):Rat):=by decide
 have aB:Ab ((1048576:Int):Rat) B:=by
  refine Ab.cancel hpos ?_
  rw[eB]
  refine aD.mono ?_
  have:=Rat.mul_le_mul_of_nonneg_left h1 c0
  grind
 have aP:Ab (((4194304:Int):Rat)*dd) pd:=by
  have:=(hP.int_sq dx).add (hQ.int_sq dy)
  grind
 refine⟨aB,?_,λs hs2=>?_⟩
 ·refine Ab.cancel hpos ?_
  have:=aD.mul aP
  grind
 ·have aR:Ab ((1024:Int):Rat) (R:Rat):=Ab.int (by omega) hR2
  -- pd pd <= dd pp
  have cs:pd*pd≤dd*(px*px+py*py):=by
   have:=sq_nonneg (px*dy-py*dx)
   rw[e1,e2];grind
  have s1:s*s≤dd*((R:Rat)*R):=by grind
  have q1:(D:Rat)*D≤((1048576:Int):Rat)*((1048576:Int):Rat):=(aD.mul aD).2
  have q2:(R:Rat)*R≤((1024:Int):Rat)*((1024:Int):Rat):=(aR.mul aR).2
  have c1:(0:Rat)≤((1073741824:Int):Rat):=by decide
  refine Ab.cancel hpos (Ab.sq (Rat.mul_nonneg c1 (by grind)) ?_)
  -- (B s dd)^2 = D^2 s^2 <= D^2 dd R^2 <= K^2 dd^2
  have e3:B*s*dd*(B*s*dd)=(D:Rat)*D*(s*s):=by grind
  rw[e3]
  have nD:0≤(D:Rat)*D:=sq_nonneg _
  have nR:0≤(R:Rat)*R:=sq_nonneg _
  have t1:=Rat.mul_le_mul_of_nonneg_left s1 nD
  have t2:=Rat.mul_le_mul_of_nonneg_right q1 (Rat.mul_nonneg (by grind:(0:Rat)≤dd) nR)
  have t3:=Rat.mul_le_mul_of_nonneg_left q2 (Rat.mul_nonneg (Rat.mul_nonneg c0 c0) (by grind:(0:Rat)≤dd))
  have t4:=Rat.mul_le_mul_of_nonneg_left h1 (by grind:(0:Rat)≤dd)
  grind
set_option maxRecDepth 100000
def Nr(z:Int):Prop:=-2097152≤z∧z≤2097152
theorem Nr.bq(h:Nr z):BQ 1 (z:Rat):=BQ.int (by unfold Bd;have:=h.1;have:=h.2;grind[pw]) (zE _)
theorem num_eq(h1:-9223372036854775808≤z)(h2:z≤9223372036854775807):aY z=some (ofQ (z:Rat)):=by
 simp_all[aY,pE]
theorem num_nr(h:Nr z):aY z=some (ofQ (z:Rat)):=num_eq (by have:=h.1;omega) (by have:=h.2;omega)
theorem mvec_eq{p:ag}(h:Nr p.X)(k:Nr p.Y):di p=some (ofV (p.X:Rat) (p.Y:Rat)):=by
 unfold di;rw[num_nr h,aa,num_nr k,aa];rfl
theorem mmul_eq(ha:BQ n a)(hb:BQ m b)(hn:n+m≤90000):bH (ofQ a) (ofQ b)=some (ofQ (a*b)):=by
 grind[bH,eG,aa]
theorem madd_eq(ha:BQ n a)(hb:BQ m b)(hn:n+m≤90000):iP (ofQ a) (ofQ b)=some (ofQ (a+b)):=by
 grind[iP,ja,aa]
theorem msub_eq(ha:BQ n a)(hb:BQ m b)(hn:n+m≤90000):bL (ofQ a) (ofQ b)=some (ofQ (a-b)):=by
 grind[bL,nz,aa]
theorem mway_eq(ha:BQ n a)(hb:BQ n b)(hc:BQ m c)(hd:BQ m d)(hn:n+m≤40000):c8 (ofV a b) (ofV c d)=some (ofV (c-a) (d-b)):=by
 unfold c8
 show ac (bL (ofQ c) (ofQ a)) (λy1=>ac (bL (ofQ d) (ofQ b)) λy2=>some (aI.mk y1 y2))=_
 rw[msub_eq hc ha (by omega),aa,msub_eq hd hb (by omega),aa];rfl
theorem mdot_eq(ha:BQ n a)(hb:BQ n b)(hc:BQ m c)(hd:BQ m d)(hn:n+m≤10000):bP (ofV a b) (ofV c d)=some (ofQ (a*c+b*d)):=by
 unfold bP
 show ac (bH (ofQ a) (ofQ c)) (λy1=>ac (bH (ofQ b) (ofQ d)) λy2=>ac (iP y1 y2) λy3=>some y3)=_
 rw[mmul_eq ha hc (by omega),aa,mmul_eq hb hd (by omega),aa,madd_eq (ha.mul hc) (hb.mul hd) (by omega),aa]
variable {r:Int}
theorem msq_eq(h:Nr r):ca r=some (ofQ ((r:Rat)*r)):=by
 unfold ca
 rw[num_nr h,aa,aa,mmul_eq h.bq h.bq (by omega),aa]
def mvP(p:ag)(a b c:Int):ag:=⟨p.X+a,p.Y+b,p.Z+c⟩
structure Pt (x y:Rat):Prop where
 bx:BQ 4 x
 bY:BQ 4 y
structure CutOk (f t:ag) (r:Int) (x y:Rat) (a b c:Int):Prop where
 f1:Nr (f.X+a)
 f2:Nr (f.Y+b)
 f3:Nr (f.Z+c)
 t1:Nr (t.X+a)
 t2:Nr (t.Y+b)
 t3:Nr (t.Z+c)
 p:Pt (x+a) (y+b)
variable {x y:Rat}
theorem over_ok{f t:ag}(hr:0≤r)(hr2:r≤1024)(h0:CutOk f t r x y 0 0 0):∃ok:Bool,∀{a b c:Int},CutOk f t r x y a b c→ee ⟨mvP f a b c,mvP t a b c,r⟩ (ofV (x+a) (y+b)) r=some ok:=by
 have hz:∀q:Rat,q+((0:Int):Rat)=q:=λq=>by grind
 have px:=h0.p.bx;have py:=h0.p.bY
 rw[hz]at px py
 have f1:=h0.f1;have f2:=h0.f2;have t1:=h0.t1;have t2:=h0.t2
 rw[Int.add_zero]at f1 f2 t1 t2
 have u1:=(f1.bq.sub px).mono (m:=6) (by omega)
 have u2:=(f2.bq.sub py).mono (m:=6) (by omega)
 have w1:=(t1.bq.sub px).mono (m:=6) (by omega)
 have w2:=(t2.bq.sub py).mono (m:=6) (by omega)
 obtain⟨g,bg,hg⟩:=seg_ok u1 u2 w1 w2 (by omega) (by omega)
 have nr:Nr r:=⟨by omega,by omega⟩
 refine⟨decide (cmpQ g ((r:Rat)*r)≤0),λ{a b c} h=>?_⟩
 have e1:((f.X+a:Int):Rat)=(x+a)+((f.X:Rat)-x):=by grind
 have e2:((f.Y+b:Int):Rat)=(y+b)+((f.Y:Rat)-y):=by grind
 have e3:((t.X+a:Int):Rat)=(x+a)+((t.X:Rat)-x):=by grind
 have e4:((t.Y+b:Int):Rat)=(y+b)+((t.Y:Rat)-y):=by grind
 have b1:=h.f1.bq;have b2:=h.f2.bq;have b3:=h.t1.bq;have b4:=h.t2.bq
 (unfold ee;try delta jR)
 rw[qV (by simp_all)]
 dsimp only
 rw[mvec_eq (p:=mvP f a b c) h.f1 h.f2,aa,mvec_eq (p:=mvP t a b c) h.t1 h.t2,aa]
 show ac (ac (eh (ofV ((f.X+a:Int):Rat) ((f.Y+b:Int):Rat)) (ofV ((t.X+a:Int):Rat) ((t.Y+b:Int):Rat)) (ofV (x+a) (y+b)) (ofV (x+a) (y+b))) λy3=>ac (ca r) λy4=>ac (fO y3 y4) λy5=>some (decide (y5≤0))) (λv1=>some v1)=_
 rw[e1]at b1;rw[e2]at b2;rw[e3]at b3;rw[e4]at b4
 rw[e1,e2,e3,e4,hg (n:=4) h.p.bx h.p.bY (b1.mono (by omega)) (b2.mono (by omega)) (b3.mono (by omega)) (b4.mono (by omega)) (by omega),aa,msq_eq nr,aa,i8 bg (nr.bq.mul nr.bq) (by omega),aa,aa]
theorem leave_ok{px py:Rat}{dx dy D:Int}{hx hy:Rat}(p1:BQ 6 px)(p2:BQ 6 py)(P1:Ab ((4194304:Int):Rat) px)(P2:Ab ((4194304:Int):Rat) py)(d1:BQ 2 (dx:Rat))(d2:BQ 2 (dy:Rat))(hD:-1048576≤D)(hD2:D≤1048576)(hr:0≤r)(hr2:r≤1024) :
  ∃A B C:Rat,(B.num=0→C=0)∧∀{hz lz:Int},Nr hz→Nr lz→lz-hz=D→na 200 (A+hz) B C ∧
   (ac (bP (ofV px py) (ofV (dx:Rat) (dy:Rat))) λ(y15:ah) =>
   ac (bP (ofV (dx:Rat) (dy:Rat)) (ofV (dx:Rat) (dy:Rat))) λ(y16:ah) =>
   ac (aY (zW.wrap (lz-hz))) λ(y17:ah) =>
   ac (oz y17 y16) λ(y18:ah×Int) =>
   if (y18.2 != 0)=true then
    ac (aY lz) λ(y19:ah) =>
    ac (dp y19) λ(y20:aL) =>
    some (y20,true)
   else
    ac (bH y15 y15) λ(y21:ah) =>
    ac (bP (ofV px py) (ofV px py)) λ(y22:ah) =>
    ac (ca r) λ(y23:ah) =>
    ac (bL y22 y23) λ(y24:ah) =>
    ac (bH y16 y24) λ(y25:ah) =>
    ac (bL y21 y25) λ(y26:ah) =>
    ac (aY hz) λ(y27:ah) =>
    ac (bH y18.1 y15) λ(y28:ah) =>
    ac (bL y27 y28) λ(y29:ah) =>
    ac (jI y29 y18.1 y26) λ(y30:aL×Int) =>
    if (y30.2 != 0)=true then
     ac (aY lz) λ(y31:ah) =>
     ac (dp y31) λ(y32:aL) =>
     some (y32,true)
    else
     some (y30.1,true))=some (ofR (A+hz) B C,true):=by
 have nr:Nr r:=⟨by omega,by omega⟩
 have m15:=(p1.mul d1).add (p2.mul d2)
 have m16:=(d1.mul d1).add (d2.mul d2)
 have m22:=(p1.mul p1).add (p2.mul p2)
 have m23:=nr.bq.mul nr.bq
 have m24:=m22.sub m23
 have m25:=m16.mul m24
 have m21:=m15.mul m15
 have m26:=m21.sub m25
 have bD:BQ 1 (D:Rat):=Nr.bq ⟨by omega,by omega⟩
 obtain⟨dd,edd⟩:∃dd:Rat,dd=(dx:Rat)*dx+(dy:Rat)*dy:=⟨_,rfl⟩
 obtain⟨pd,epd⟩:∃pd:Rat,pd=px*dx+py*dy:=⟨_,rfl⟩
 have zN:∀{z:Int},Nr z→Ab ((2097152:Int):Rat) (z:Rat):=λh=>Ab.int h.1 h.2
 have good0:∀{hz lz:Int},Nr hz→Nr lz→lz-hz=D→na 200 ((D:Rat)+hz) 0 0:=by
  intro hz lz h1 h2 e
  have e':(D:Rat)+hz=(lz:Rat):=by rw[←Rat.intCast_add,show D+hz=lz by omega]
  rw[e']
  exact⟨h2.bq.mono (by omega),b0Q.mono (by omega),b0Q.mono (by omega),mid_of ((zN h2).mono (by decide)),midB_of ⟨by decide,by decide⟩⟩
 have low:∀{hz lz:Int},Nr hz→Nr lz→lz-hz=D→(ac (aY lz) λ(y:ah)=>ac (dp y) λ(z:aL)=>some (z,true))=some (ofR ((D:Rat)+hz) 0 0,true):=by
  intro hz lz h1 h2 e
  have e':(D:Rat)+hz=(lz:Rat):=by rw[←Rat.intCast_add,show D+hz=lz by omega]
  simp_all[num_nr,g7]
 have hw:∀{hz lz:Int},lz-hz=D→zW.wrap (lz-hz)=D:=λe=>by grind[aE]
 have nD:aY D=some (ofQ (D:Rat)):=num_eq (by omega) (by omega)
 by_cases h0:dd=0
 ·refine⟨(D:Rat),0,0,λ_=>rfl,λ{hz lz} h1 h2 e=>⟨good0 h1 h2 e,?_⟩⟩
  rw[mdot_eq p1 p2 d1 d2 (by omega),aa,mdot_eq d1 d2 d1 d2 (by omega),aa,hw e,nD,aa,←edd,h0]
  obtain⟨x,hx⟩:=ra_Div_zero (a:=(D:Rat))
  rw[hx,aa]
  grind
 ·rw[←edd]at m16 m25 m26
  rw[←epd]at m15 m21 m26
  obtain⟨k1,k2,k3⟩:=slope_bd P1 P2 hD hD2 hr hr2 edd epd h0
  have m18:=bD.div m16 h0
  have m28:=m18.mul m15
  -- what stands behind the quotient
  have head:∀{hz lz:Int},Nr hz→lz-hz=D→∀K:Option (aL×Bool),(ac (bP (ofV px py) (ofV (dx:Rat) (dy:Rat))) λ(y15:ah) =>
   ac (bP (ofV (dx:Rat) (dy:Rat)) (ofV (dx:Rat) (dy:Rat))) λ(y16:ah) =>
   ac (aY (zW.wrap (lz-hz))) λ(y17:ah) =>
   ac (oz y17 y16) λ(y18:ah×Int) =>
   if (y18.2 != 0)=true then K
   else
    ac (bH y15 y15) λ(y21:ah) =>
    ac (bP (ofV px py) (ofV px py)) λ(y22:ah) =>
    ac (ca r) λ(y23:ah) =>
    ac (bL y22 y23) λ(y24:ah) =>
    ac (bH y16 y24) λ(y25:ah) =>
    ac (bL y21 y25) λ(y26:ah) =>
    ac (aY hz) λ(y27:ah) =>
    ac (bH y18.1 y15) λ(y28:ah) =>
    ac (bL y27 y28) λ(y29:ah) =>
    ac (jI y29 y18.1 y26) λ(y30:aL×Int) =>
    if (y30.2 != 0)=true then K else some (y30.1,true)) =
    ac (jI (ofQ ((hz:Rat)-(D:Rat) / dd*pd)) (ofQ ((D:Rat) / dd)) (ofQ (pd*pd-dd*(px*px+py*py-(r:Rat)*r)))) λ(y30:aL×Int)=>if (y30.2 != 0)=true then K else some (y30.1,true):=by
   intro hz lz h1 e K
   rw[mdot_eq p1 p2 d1 d2 (by omega),aa,mdot_eq d1 d2 d1 d2 (by omega),aa,hw e,nD,aa,←edd,←epd,ra_Div_eq bD m16 (by omega) h0,aa]
   dsimp only
   rw[qU (by decide),mmul_eq m15 m15 (by omega),aa,mdot_eq p1 p2 p1 p2 (by omega),aa,msq_eq nr,aa,msub_eq m22 m23 (by omega),aa,mmul_eq m16 m24 (by omega),aa,msub_eq m21 m25 (by omega),aa,num_nr h1,aa,mmul_eq m18 m15 (by omega),aa,msub_eq h1.bq m28 (by omega),aa]
  have midA:∀{hz:Int},Nr hz→∀q:Rat,Ab ((1073741824:Int):Rat) q→MidA (-((D:Rat) / dd*pd)+q+hz):=by
   intro hz h1 q hq
   have:=(k2.neg.add hq).add (zN h1)
   exact mid_of (this.mono (by grind))
  by_cases hn:pd*pd-dd*(px*px+py*py-(r:Rat)*r)<0
  ·refine⟨(D:Rat),0,0,λ_=>rfl,λ{hz lz} h1 h2 e=>⟨good0 h1 h2 e,?_⟩⟩
   rw[head h1 e]
   obtain⟨x,hx⟩:=rt_Make_neg (A:=(hz:Rat)-(D:Rat) / dd*pd) (B:=(D:Rat) / dd) hn
   rw[hx,aa]
   grind
  ·have hn':0≤pd*pd-dd*(px*px+py*py-(r:Rat)*r):=by grind
   rcases rt_Make_ok (m26.mono (m:=72) (by omega)) (by omega) hn' with⟨s,s1,s2,s3⟩ | s3
   ·have q1:=k3 s s2
    refine⟨-((D:Rat) / dd*pd)+(D:Rat) / dd*s,0,0,λ_=>rfl,λ{hz lz} h1 h2 e=>?_⟩
    have ba:=((m28.neg.add (m18.mul s1)).add h1.bq).mono (m:=200) (by omega)
    refine⟨⟨ba,b0Q.mono (by omega),b0Q.mono (by omega),midA h1 _ q1,midB_of ⟨by decide,by decide⟩⟩,?_⟩
    rw[head h1 e,s3 ((h1.bq.sub m28).mono (m:=1000) (by omega)) (m18.mono (m:=1000) (by omega)) (by omega),aa]
    grind
   ·refine⟨-((D:Rat) / dd*pd),(D:Rat) / dd,redC ((D:Rat) / dd) (pd*pd-dd*(px*px+py*py-(r:Rat)*r)),λh=>by simp_all[redC],λ{hz lz} h1 h2 e=>?_⟩
    have ba:=(m28.neg.add h1.bq).mono (m:=200) (by omega)
    have bc:BQ 200 (redC ((D:Rat) / dd) (pd*pd-dd*(px*px+py*py-(r:Rat)*r))):=by
     unfold redC;split
     ·exact b0Q.mono (by omega)
     ·exact m26.mono (by omega)
    have mA:=midA h1 0 ⟨by decide,by decide⟩
    rw[Rat.add_zero]at mA
    refine⟨⟨ba,m18.mono (by omega),bc,mA,midB_of k1⟩,?_⟩
    rw[head h1 e,s3,aa]
    grind
set_option maxRecDepth 100000
theorem q_add0(q:Rat):q+((0:Int):Rat)=q:=by grind
theorem mvP_0(p:ag):mvP p 0 0 0=p:=by unfold mvP;simp
structure EndOk (p:ag) (a b c:Int):Prop where
 x:Nr (p.X+a)
 y:Nr (p.Y+b)
 z:Nr (p.Z+c)
theorem tail_ok {H L:ag}   {lev:Bool} (hr : 0 ≤ r) (hr2 : r ≤ 1024) (eH : EndOk H 0 0 0) (eL : EndOk L 0 0 0) (p0 : Pt x y) (ax : Ab ((1048576 : Int) : Rat) x) (ay : Ab ((1048576 : Int) : Rat) y) (hD : -1048576 ≤ L.Z - H.Z) (hD2 : L.Z - H.Z ≤ 1048576) :
    ∃A B C:Rat,(B.num=0→C=0)∧∀{a b c:Int},EndOk H a b c→EndOk L a b c→Pt (x+a) (y+b)→na 200 (A+c) B C ∧
      (ac (di (mvP L a b c)) λ(y2:aI) =>
    ac (c8 (ofV (x+a) (y+b)) y2) λ(y3:aI) =>
    ac (if lev = true then
          some true
        else
          ac (bP y3 y3) λ(y5:ah) =>
          ac (ca r) λ(y6:ah) =>
          ac (fO y5 y6) λ(y7:Int) =>
          some (decide (y7≤0))) λ(v2:Bool) =>
    if v2=true then
      ac (aY (mvP L a b c).Z) λ(y8:ah) =>
      ac (dp y8) λ(y9:aL) =>
      some (y9,true)
    else
      ac (di (mvP H a b c)) λ(y10:aI) =>
      ac (c8 (ofV (x+a) (y+b)) y10) λ(y11:aI) =>
      ac (di (mvP H a b c)) λ(y12:aI) =>
      ac (di (mvP L a b c)) λ(y13:aI) =>
      ac (c8 y12 y13) λ(y14:aI) =>
      ac (bP y11 y14) λ(y15:ah) =>
      ac (bP y14 y14) λ(y16:ah) =>
      ac (aY (zW.wrap ((mvP L a b c).Z-(mvP H a b c).Z))) λ(y17:ah) =>
      ac (oz y17 y16) λ(y18:ah×Int) =>
      if (y18.2 != 0)=true then
        ac (aY (mvP L a b c).Z) λ(y19:ah) =>
        ac (dp y19) λ(y20:aL) =>
        some (y20,true)
      else
        ac (bH y15 y15) λ(y21:ah) =>
        ac (bP y11 y11) λ(y22:ah) =>
        ac (ca r) λ(y23:ah) =>
        ac (bL y22 y23) λ(y24:ah) =>
        ac (bH y16 y24) λ(y25:ah) =>
        ac (bL y21 y25) λ(y26:ah) =>
        ac (aY (mvP H a b c).Z) λ(y27:ah) =>
        ac (bH y18.1 y15) λ(y28:ah) =>
        ac (bL y27 y28) λ(y29:ah) =>
        ac (jI y29 y18.1 y26) λ(y30:aL×Int) =>
        if (y30.2 != 0)=true then
          ac (aY (mvP L a b c).Z) λ(y31:ah) =>
          ac (dp y31) λ(y32:aL) =>
          some (y32,true)
        else
          some (y30.1,true))=some (ofR (A+c) B C,true):=by
  have nr:Nr r:=⟨by omega,by omega⟩
  have h1:=eH.x;have h2:=eH.y;have h3:=eH.z;have l1:=eL.x;have l2:=eL.y;have l3:=eL.z
  rw[Int.add_zero]at h1 h2 h3 l1 l2 l3
  have px:=(h1.bq.sub p0.bx).mono (m:=6) (by omega)
  have py:=(h2.bq.sub p0.bY).mono (m:=6) (by omega)
  have ex:=(l1.bq.sub p0.bx).mono (m:=6) (by omega)
  have ey:=(l2.bq.sub p0.bY).mono (m:=6) (by omega)
  have zN:∀{z:Int},Nr z→Ab ((2097152:Int):Rat) (z:Rat):=λh=>Ab.int h.1 h.2
  have big:((2097152:Int):Rat)+((1048576:Int):Rat)≤((4194304:Int):Rat):=by grind
  have Px:=((zN h1).sub ax).mono big
  have Py:=((zN h2).sub ay).mono big
  have bd:∀{u v:Int},Nr u→Nr v→BQ 2 ((u-v:Int):Rat):=λ{u v} hu hv=>BQ.mono (n:=1) (BQ.int (by have:=hu.1;have:=hu.2;have:=hv.1;have:=hv.2;grind[Bd,pw]) (zE _)) (by omega)
  obtain⟨A,B,C,k0,k⟩:=leave_ok (hx:=0) (hy:=0) px py Px Py (bd l1 h1) (bd l2 h2) hD hD2 hr hr2
  have way:∀{q:ag} {a b:Int},Nr (q.X+a)→Nr (q.Y+b)→Pt (x+a) (y+b)→c8 (ofV (x+a) (y+b)) (ofV ((q.X+a:Int):Rat) ((q.Y+b:Int):Rat))=some (ofV ((q.X:Rat)-x) ((q.Y:Rat)-y)):=by
    intro q a b hx hy hp
    rw[mway_eq (n:=4) (m:=1) hp.bx hp.bY hx.bq hy.bq (by omega)]
    grind
  obtain⟨v2,hv2⟩:∃v2:Bool,v2=if lev=true then true else decide (cmpQ (((L.X:Rat)-x)*((L.X:Rat)-x)+((L.Y:Rat)-y)*((L.Y:Rat)-y)) ((r:Rat)*r)≤0):=⟨_,rfl⟩
  have hv:(if lev=true then some true else ac (bP (ofV ((L.X:Rat)-x) ((L.Y:Rat)-y)) (ofV ((L.X:Rat)-x) ((L.Y:Rat)-y))) λ(y5:ah)=>ac (ca r) λ(y6:ah)=>ac (fO y5 y6) λ(y7:Int)=>some (decide (y7≤0)))=some v2:=by
    rw[hv2]
    cases lev
    · rw[qU (by simp),qU (by simp),mdot_eq ex ey ex ey (by omega),aa,msq_eq nr,aa,i8 ((ex.mul ex).add (ey.mul ey)) (nr.bq.mul nr.bq) (by omega),aa]
    · rfl
  cases hq:v2
  · refine⟨A+(H.Z:Rat),B,C,k0,λ{a b c} gH gL gp=>?_⟩
    have e1:(mvP L a b c).Z-(mvP H a b c).Z=L.Z-H.Z:=by show L.Z+c-(H.Z+c)=_;omega
    obtain⟨k1,k2⟩:=k (hz:=H.Z+c) (lz:=L.Z+c) gH.z gL.z (by omega)
    have e2:A+((H.Z+c:Int):Rat)=A+(H.Z:Rat)+(c:Rat):=by grind
    rw[e2]at k1 k2
    refine⟨k1,?_⟩
    rw[mvec_eq (p:=mvP L a b c) gL.x gL.y,aa]
    show ac (c8 (ofV (x+a) (y+b)) (ofV ((L.X+a:Int):Rat) ((L.Y+b:Int):Rat))) _=_
    rw[way gL.x gL.y gp,aa,hv,aa,hq,qU (by simp),mvec_eq (p:=mvP H a b c) gH.x gH.y,aa]
    show ac (c8 (ofV (x+a) (y+b)) (ofV ((H.X+a:Int):Rat) ((H.Y+b:Int):Rat))) _=_
    rw[way gH.x gH.y gp,aa,aa,aa]
    show ac (c8 (ofV ((H.X+a:Int):Rat) ((H.Y+b:Int):Rat)) (ofV ((L.X+a:Int):Rat) ((L.Y+b:Int):Rat))) _=_
    rw[mway_eq (n:=1) (m:=1) gH.x.bq gH.y.bq gL.x.bq gL.y.bq (by omega),aa,←Rat.intCast_sub,←Rat.intCast_sub,show L.X+a-(H.X+a)=L.X-H.X by omega,show L.Y+b-(H.Y+b)=L.Y-H.Y by omega]
    exact k2
  · refine⟨(L.Z:Rat),0,0,λ_=>rfl,λ{a b c} gH gL gp=>?_⟩
    have e2:(L.Z:Rat)+(c:Rat)=((L.Z+c:Int):Rat):=by simp_all
    rw[e2]
    refine⟨⟨gL.z.bq.mono (by omega),b0Q.mono (by omega),b0Q.mono (by omega),mid_of ((zN gL.z).mono (by decide)),midB_of ⟨by decide,by decide⟩⟩,?_⟩
    rw[mvec_eq (p:=mvP L a b c) gL.x gL.y,aa]
    show ac (c8 (ofV (x+a) (y+b)) (ofV ((L.X+a:Int):Rat) ((L.Y+b:Int):Rat))) _=_
    rw[way gL.x gL.y gp,aa,hv,aa,hq,qV rfl]
    show ac (aY (L.Z+c)) _=_
    rw[num_nr gL.z,aa,g7,aa]
theorem swept_ok{f t:ag}(hr:0≤r)(hr2:r≤1024)(h0:CutOk f t r x y 0 0 0)(ax:Ab ((1048576:Int):Rat) x)(ay:Ab ((1048576:Int):Rat) y)(hD:-1048576≤f.Z-t.Z)(hD2:f.Z-t.Z≤1048576) :
  ∃(ok:Bool) (A B C:Rat),(B.num=0→C=0)∧∀{a b c:Int},CutOk f t r x y a b c→(ok=true→na 200 (A+c) B C)∧∃rt,fj ⟨mvP f a b c,mvP t a b c,r⟩ (ofV (x+a) (y+b))=some (rt,ok)∧(ok=true→rt=ofR (A+c) B C):=by
 obtain⟨ok,hok⟩:=over_ok hr hr2 h0
 have p0:Pt x y:=by have:=h0.p;grind
 have ef:EndOk f 0 0 0:=⟨h0.f1,h0.f2,h0.f3⟩
 have et:EndOk t 0 0 0:=⟨h0.t1,h0.t2,h0.t3⟩
 cases ok
 ·refine⟨false,0,0,0,λ_=>rfl,λ{a b c} h=>⟨(λq=>by cases q),?_⟩⟩
  simp_all[fj]
 ·by_cases hz:t.Z>f.Z
  ·obtain⟨A,B,C,k0,k⟩:=tail_ok (H:=t) (L:=f) (lev:=f.Z==t.Z) hr hr2 et ef p0 ax ay (by omega) (by omega)
   refine⟨true,A,B,C,k0,λ{a b c} h=>?_⟩
   obtain⟨k1,k2⟩:=k (a:=a) (b:=b) (c:=c) ⟨h.t1,h.t2,h.t3⟩ ⟨h.f1,h.f2,h.f3⟩ h.p
   refine⟨λ_=>k1,ofR (A+c) B C,?_,λ_=>rfl⟩
   (unfold fj;try delta jC jR)
   show ac (ee ⟨mvP f a b c,mvP t a b c,r⟩ (ofV (x+a) (y+b)) r) _=_
   rw[hok h,aa,qU (by decide),qV (qY (show (mvP t a b c).Z>(mvP f a b c).Z by show t.Z+c>f.Z+c;omega)),aa]
   have el:fH ⟨mvP f a b c,mvP t a b c,r⟩=some (f.Z==t.Z):=by
    show some (f.Z+c==t.Z+c)=_
    grind
   simp_all
  ·obtain⟨A,B,C,k0,k⟩:=tail_ok (H:=f) (L:=t) (lev:=f.Z==t.Z) hr hr2 ef et p0 ax ay (by omega) (by omega)
   refine⟨true,A,B,C,k0,λ{a b c} h=>?_⟩
   obtain⟨k1,k2⟩:=k (a:=a) (b:=b) (c:=c) ⟨h.f1,h.f2,h.f3⟩ ⟨h.t1,h.t2,h.t3⟩ h.p
   refine⟨λ_=>k1,ofR (A+c) B C,?_,λ_=>rfl⟩
   (unfold fj;try delta jC jR)
   show ac (ee ⟨mvP f a b c,mvP t a b c,r⟩ (ofV (x+a) (y+b)) r) _=_
   rw[hok h,aa,qU (by decide),qU (by simp only[rc];show ¬t.Z+c>f.Z+c;omega),aa]
   have el:fH ⟨mvP f a b c,mvP t a b c,r⟩=some (f.Z==t.Z):=by
    show some (f.Z+c==t.Z+c)=_
    grind
   simp_all
set_option maxRecDepth 100000
def mvC(k:aO)(a b c:Int):aO:=⟨mvP k.From a b c,mvP k.To a b c,k.Radius⟩
structure CutsOk (k:aO) (x y:Rat) (a b c:Int):Prop where
 r0:0≤k.Radius
 r1:k.Radius≤1024
 d0:-1048576≤k.From.Z-k.To.Z
 d1:k.From.Z-k.To.Z≤1048576
 h0:CutOk k.From k.To k.Radius x y 0 0 0
 h:CutOk k.From k.To k.Radius x y a b c
def hgtF(v:aI):Nat→aO→aL→Option (Ex aL aL):=λi1 e1 v1 =>
  ac (ac (fj e1 v) λ(y3 : aL × Bool) =>
            ac (if y3.2 = true then
                  ac (fq y3.1 v1) λ(y4:Int) =>
                  some (decide (y4<0))
                else
                  some false) λ(v2:Bool) =>
            if v2=true then
              some y3.1
            else
              some v1) λ(v3:aL) =>
        some (.go v3)
theorem hgt_loop{x y:Rat}{a b c:Int}(ax:Ab ((1048576:Int):Rat) x)(ay:Ab ((1048576:Int):Rat) y):∀(l:List aO) (i:Nat) (A B C:Rat),(∀k∈l,CutsOk k x y a b c)→(B.num=0→C=0)→na 200 A B C→na 200 (A+c) B C →
  ∃A' B' C':Rat,(B'.num=0→C'=0)∧na 200 A' B' C'∧na 200 (A'+c) B' C' ∧
   aM (hgtF (ofV x y)) (λv=>some v) l i (ofR A B C)=some (ofR A' B' C') ∧
   aM (hgtF (ofV (x+a) (y+b))) (λv=>some v) (l.map λk=>mvC k a b c) i (ofR (A+c) B C)=some (ofR (A'+c) B' C')
 | [],i,A,B,C,hl,h0,g,g'=>⟨A,B,C,h0,g,g',rfl,rfl⟩
 | k::l,i,A,B,C,hl,h0,g,g'=>by
  have hk:=hl k (zJ ..)
  obtain⟨ok,A2,B2,C2,s0,s⟩:=swept_ok hk.r0 hk.r1 hk.h0 ax ay hk.d0 hk.d1
  obtain⟨g1,r1,e1,f1⟩:=s hk.h0
  obtain⟨g2,r2,e2,f2⟩:=s hk.h
  rw[mvP_0,mvP_0,q_add0,q_add0]at e1
  rw[q_add0]at g1 f1
  have hl':∀k∈l,CutsOk k x y a b c:=λk hk=>hl k (zM _ hk)
  have step:∃A3 B3 C3:Rat,(B3.num=0→C3=0)∧na 200 A3 B3 C3∧na 200 (A3+c) B3 C3∧hgtF (ofV x y) i k (ofR A B C)=some (.go (ofR A3 B3 C3))∧hgtF (ofV (x+a) (y+b)) i (mvC k a b c) (ofR (A+c) B C)=some (.go (ofR (A3+c) B3 C3)):=by
   unfold hgtF mvC
   cases ok
   ·refine⟨A,B,C,h0,g,g',?_,?_⟩<;>simp_all
   ·have f1:=f1 rfl
    have f2:=f2 rfl
    subst f1;subst f2
    have g1:=g1 rfl
    have g2:=g2 rfl
    obtain⟨w,w1,w2⟩:=cmp_ok g1 g (by omega) (by omega)
    have w2:=w2 c g2 g'
    by_cases q:w<0
    ·refine⟨A2,B2,C2,s0,g1,g2,?_,?_⟩<;>simp_all
    ·refine⟨A,B,C,h0,g,g',?_,?_⟩<;>simp_all[qU]
  obtain⟨A3,B3,C3,t0,t1,t2,t3,t4⟩:=step
  obtain⟨A4,B4,C4,u0,u1,u2,u3,u4⟩:=hgt_loop ax ay l (i+1) A3 B3 C3 hl' t0 t1 t2
  grind[aM]
theorem height_ok{l:List aO}{top:Int}{a b c:Int}(hl:∀k∈l,CutsOk k x y a b c)(hn:l.length≤9223372036854775807)(ax:Ab ((1048576:Int):Rat) x)(ay:Ab ((1048576:Int):Rat) y)(h1:Nr top)(h2:Nr (top+c)) :
  ∃A B C:Rat,(B.num=0→C=0)∧na 200 A B C∧na 200 (A+c) B C∧cl l top (ofV x y)=some (ofR A B C)∧cl (l.map λk=>mvC k a b c) (top+c) (ofV (x+a) (y+b))=some (ofR (A+c) B C):=by
 have zN:∀{z:Int},Nr z→Ab ((2097152:Int):Rat) (z:Rat):=λh=>Ab.int h.1 h.2
 have good:∀{z:Int},Nr z→na 200 (z:Rat) 0 0:=λh=>⟨h.bq.mono (by omega),b0Q.mono (by omega),b0Q.mono (by omega),mid_of ((zN h).mono (by decide)),midB_of ⟨by decide,by decide⟩⟩
 have e:((top+c:Int):Rat)=(top:Rat)+(c:Rat):=Rat.intCast_add ..
 have g2:=good h2
 rw[e]at g2
 obtain⟨A,B,C,u0,u1,u2,u3,u4⟩:=hgt_loop ax ay l 0 (top:Rat) 0 0 hl (λ_=>rfl) (good h1) g2
 refine⟨A,B,C,u0,u1,u2,?_,?_⟩
 ·(unfold cl;try delta jB jR rF)
  rw[num_nr h1,aa,g7,aa,bn hn]
  show ac (aM (hgtF (ofV x y)) (λv=>some v) l 0 (ofR (top:Rat) 0 0)) _=_
  simp_all
 ·(unfold cl;try delta jB jR rF)
  rw[num_nr h2,aa,g7,aa,bn (by simp_all),e]
  show ac (aM (hgtF (ofV (x+a) (y+b))) (λv=>some v) (l.map λk=>mvC k a b c) 0 (ofR ((top:Rat)+c) 0 0)) _=_
  simp_all
set_option maxRecDepth 100000
def qc:List cf:=[⟨1,1,1,20000,7001,1500,20000,5000⟩,⟨2,1,2,20000,7002,1500,20000,5000⟩,⟨3,1,3,20000,7003,1500,20000,5000⟩,⟨4,1,4,20000,7004,1500,20000,5000⟩,⟨5,1,5,20000,7005,1500,20000,5000⟩,⟨6,1,6,20000,7006,1500,20000,5000⟩,⟨7,1,7,20000,7007,1500,20000,5000⟩,⟨8,1,8,20000,7008,1500,20000,5000⟩,⟨9,1,9,20000,7009,1500,20000,5000⟩]
theorem tools9_ok:nj qc=some 0:=by kernel_rfl
theorem find9{n:Int}(h1:1≤n)(h2:n≤9):∃(i:Int) (t:cf),to_Find qc n=some (i,0)∧gt qc i=some t∧t.Radius=n:=by
 have e:n=1∨n=2∨n=3∨n=4∨n=5∨n=6∨n=7∨n=8∨n=9:=by omega
 rcases e with rfl | rfl | rfl | rfl | rfl | rfl | rfl | rfl | rfl
 ·exact⟨0,⟨1,1,1,20000,7001,1500,20000,5000⟩,by kernel_rfl,by kernel_rfl,rfl⟩
 ·exact⟨1,⟨2,1,2,20000,7002,1500,20000,5000⟩,by kernel_rfl,by kernel_rfl,rfl⟩
 ·exact⟨2,⟨3,1,3,20000,7003,1500,20000,5000⟩,by kernel_rfl,by kernel_rfl,rfl⟩
 ·exact⟨3,⟨4,1,4,20000,7004,1500,20000,5000⟩,by kernel_rfl,by kernel_rfl,rfl⟩
 ·exact⟨4,⟨5,1,5,20000,7005,1500,20000,5000⟩,by kernel_rfl,by kernel_rfl,rfl⟩
 ·exact⟨5,⟨6,1,6,20000,7006,1500,20000,5000⟩,by kernel_rfl,by kernel_rfl,rfl⟩
 ·exact⟨6,⟨7,1,7,20000,7007,1500,20000,5000⟩,by kernel_rfl,by kernel_rfl,rfl⟩
 ·exact⟨7,⟨8,1,8,20000,7008,1500,20000,5000⟩,by kernel_rfl,by kernel_rfl,rfl⟩
 ·exact⟨8,⟨9,1,9,20000,7009,1500,20000,5000⟩,by kernel_rfl,by kernel_rfl,rfl⟩
def cutM(m:aq):aO:=⟨m.From,m.To,m.Tool⟩
theorem cuts_loop : ∀ (l : List aq) (i : Nat) (v : List aO), (∀ m ∈ l, 1 ≤ m.Tool ∧ m.Tool ≤ 9) → v.length + l.length ≤ 16777216 →
    aM (λ(i1 : Nat) (e1 : aq) (v1 : (List aO)) =>
          ac (to_Find qc e1.Tool) λ(y2:Int×Int) =>
          if (y2.2 != 0)=true then
            (some (.ret (.ret ([],y2.2))):Option (Ex (Ex ((List aO)×Int) (List aO)) (List aO)))
          else
            ac (gt qc y2.1) λ(e2:cf) =>
            aA (cd (v1.length+1)) (
            some (.go (v1++[aO.mk e1.From e1.To e2.Radius])))) (λ(v1:(List aO))=>some (.go v1)) l i v=some (.go (v++l.map cutM))
  | [],i,v,h,hn=>by simp_all[aM]
  | m::l,i,v,h,hn=>by
    obtain⟨j,t,e1,e2,e3⟩:=find9 (h m (zJ ..)).1 (h m (zJ ..)).2
    rw[List.length_cons]at hn
    unfold aM
    rw[e1,aa]
    dsimp only
    rw[qU (by decide),e2,aa,br (by omega)]
    simp only[aA,e3]
    have:=cuts_loop l (i+1) (v++[cutM m]) (λk hk=>h k (zM _ hk)) (by grind)
    rw[List.append_assoc]at this
    exact this
variable {l:List aq}
theorem cuts_eq(h:∀m∈l,1≤m.Tool∧m.Tool≤9)(hn:l.length≤16777216):ff l qc=some (l.map cutM,0):=by
 (unfold ff;try delta jB rF gF)
 rw[tools9_ok,aa,qU (by decide),bn (by omega)]
 have:=cuts_loop l 0 [] h (by simp_all)
 simp_all
theorem spot_ok{v:mw}(hx:-32768≤v.X∧v.X≤32767)(hy:-32768≤v.Y∧v.Y≤32767)(hd:0≤v.D∧v.D≤255):∃x y:Rat,r07_At2 v=some (ofV x y)∧BQ 1 x∧BQ 1 y∧Ab ((1048576:Int):Rat) x∧Ab ((1048576:Int):Rat) y:=by
 have key:∀{n:Int},-32768≤n→n≤32767→BQ 1 (Rat.divInt n (v.D+1))∧Ab ((1048576:Int):Rat) (Rat.divInt n (v.D+1)):=by
  intro n h1 h2
  have p1:pw 1=1000000000:=rfl
  refine⟨(divInt_BQ (m:=1) (by grind[Bd]) (by grind[Bd]) (by omega)).mono (by omega),?_⟩
  have e:Rat.divInt n (v.D+1)=(n:Rat) / ((v.D+1:Int):Rat):=Rat.divInt_eq_div n (v.D+1)
  have c1:(1:Rat)≤((v.D+1:Int):Rat):=by have:=Rat.intCast_le_intCast.2 (show (1:Int)≤v.D+1 by omega);omega
  rw[e]
  refine Ab.cancel (d:=((v.D+1:Int):Rat)) (by grind) ?_
  rw[Rat.div_mul_cancel (by grind)]
  refine (Ab.int (k:=1048576) (by omega) (by omega)).mono ?_
  grind
 have w:∀{z:Int},-32768≤z→z≤40000→zW.wrap z=z:=λh1 h2=>aE (by omega) (by omega)
 obtain⟨a1,a2⟩:=key hx.1 hx.2
 obtain⟨b1,b2⟩:=key hy.1 hy.2
 refine⟨_,_,?_,a1,b1,a2,b2⟩
 unfold r07_At2
 rw[w hx.1 (by omega),w (z:=v.D) (by omega) (by omega),w (z:=v.D+1) (by omega) (by omega),w hy.1 (by omega),r02_Frac_eq (by omega) (by omega) (by omega) (by omega) (by omega),aa,r02_Frac_eq (by omega) (by omega) (by omega) (by omega) (by omega),aa]
 rfl
structure MotOk (m:aq) (d:ag):Prop where
 t0:1≤m.Tool
 t1:m.Tool≤9
 f:EndOk m.From 0 0 0
 t:EndOk m.To 0 0 0
 f':EndOk m.From d.X d.Y d.Z
 t':EndOk m.To d.X d.Y d.Z
 d0:-1048576≤m.From.Z-m.To.Z
 d1:m.From.Z-m.To.Z≤1048576
theorem end_ok {l l' : List aq} {d : ag} {v : mw} (hl : ∀ m ∈ l, MotOk m d) (hn : l.length ≤ 16777216) (hl' : l'.map cutM = (l.map cutM).map λk => mvC k d.X d.Y d.Z) (hd : (-100000 ≤ d.X ∧ d.X ≤ 100000) ∧ (-100000 ≤ d.Y ∧ d.Y ≤ 100000) ∧ (-100000 ≤ d.Z ∧ d.Z ≤ 100000))
    (hx:-32768≤v.X∧v.X≤32767) (hy:-32768≤v.Y∧v.Y≤32767) (hD:0≤v.D∧v.D≤255) :
    (ac (ff l qc) λ(y22 : (List aO) × Int) =>
        ac (ff l' qc) λ(y23:(List aO)×Int) =>
        if ((y22.2 != 0)||(y23.2 != 0))=true then
          some false
        else
          ac (r07_At2 v) λ(y24:aI) =>
          ac (dt d.X) λ(y25:ah) =>
          ac (mm y24.X y25) λ(y26:ah) =>
          ac (dt d.Y) λ(y27:ah) =>
          ac (mm y24.Y y27) λ(y28:ah) =>
          ac (cl y22.1 50000 y24) λ(y29:aL) =>
          ac (dt d.Z) λ(y30:ah) =>
          ac (dp y30) λ(y31:aL) =>
          ac (rt_Add y29 y31) λ(y32:aL×Int) =>
          ac (if (y32.2 == 0) = true then
                ac (cl y23.1 (zW.wrap (50000+d.Z)) (aI.mk y26 y28)) λ(y33:aL) =>
                ac (fY y32.1 y33) λ(y34:Bool) =>
                some y34
              else
                some false) λ(v3:Bool) =>
          some v3)=some true:=by
  obtain⟨⟨x1,x2⟩,⟨y1,y2⟩,⟨z1,z2⟩⟩:=hd
  obtain⟨x,y,ev,bx,bY,ax,ay⟩:=spot_ok hx hy hD
  have bi:∀{z:Int},-100000≤z→z≤100000→BQ 1 (z:Rat):=λh1 h2=>Nr.bq ⟨by omega,by omega⟩
  have len':l'.length=l.length:=by have:=congrArg List.length hl';grind
  have e2:ff l' qc=some ((l.map cutM).map λk=>mvC k d.X d.Y d.Z,0):=by
    rw[cuts_eq (λm hm=>by
      have h1:cutM m∈l'.map cutM:=List.mem_map_of_mem hm
      rw[hl']at h1
      obtain⟨k,hk,e⟩:=List.mem_map.1 h1
      obtain⟨q,hq,rfl⟩:=List.mem_map.1 hk
      have e3:m.Tool=q.Tool:=by
        have:=congrArg aO.Radius e
        exact this.symm
      rw[e3]
      exact⟨(hl q hq).t0,(hl q hq).t1⟩) (by omega),hl']
  rw[cuts_eq (λm hm=>⟨(hl m hm).t0,(hl m hm).t1⟩) hn,aa,e2,aa]
  dsimp only
  rw[qU (by decide),ev,aa,km (by omega) (by omega),aa]
  show ac (mm (ofQ x) (ofQ (d.X:Rat))) (λy26=>ac (dt d.Y) λy27=>ac (mm (ofQ y) y27) λy28=>ac (cl (l.map cutM) 50000 (ofV x y)) λy29=>ac (dt d.Z) λy30=>ac (dp y30) λy31=>ac (rt_Add y29 y31) λy32=>ac (if (y32.2==0)=true then ac (cl ((l.map cutM).map λk=>mvC k d.X d.Y d.Z) (zW.wrap (50000+d.Z)) (aI.mk y26 y28)) λy33=>ac (fY y32.1 y33) λy34=>some y34 else some false) λv3=>some v3)=_
  have p0:Pt x y:=⟨bx.mono (by omega),bY.mono (by omega)⟩
  have p1:Pt (x+d.X) (y+d.Y):=⟨(bx.add (bi x1 x2)).mono (by omega),(bY.add (bi y1 y2)).mono (by omega)⟩
  have hc:∀k∈l.map cutM,CutsOk k x y d.X d.Y d.Z:=by
    intro k hk
    obtain⟨m,hm,rfl⟩:=List.mem_map.1 hk
    have q:=hl m hm
    refine⟨by have:=q.t0;show 0≤m.Tool;omega,by have:=q.t1;show m.Tool≤1024;omega,q.d0,q.d1,⟨q.f.x,q.f.y,q.f.z,q.t.x,q.t.y,q.t.z,?_⟩,⟨q.f'.x,q.f'.y,q.f'.z,q.t'.x,q.t'.y,q.t'.z,p1⟩⟩
    grind
  obtain⟨A,B,C,k0,g1,g2,h1,h2⟩:=height_ok (top:=50000) hc (by grind) ax ay ⟨by omega,by omega⟩ ⟨by omega,by omega⟩
  rw[r02_AddI_eq bx x1 x2,aa,km (by omega) (by omega),aa,r02_AddI_eq bY y1 y2,aa,h1,aa,km (by omega) (by omega),aa,g7,aa,rt_Add_rat g1.a g1.b (bi z1 z2) (by omega) k0,aa]
  dsimp only
  rw[qV (by decide),aE (by omega) (by omega)]
  grind[ofV,aa,equal_self]
end Go.Proofs.YtphbhdoljnokkaaGreatDoor
