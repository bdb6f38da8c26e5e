/-
  Dg, Dh, Di, Dj, Dk, Dl in one text.
-/
import Derived.Test.YtjemmjpdmbenkaaGreatDoorAall
import Derived.Test.YtjemmjpdmbenkaaGreatDoorDq
import Derived.Test.YtjemmjpdmbenkaaGreatDoorBall
import Derived.Test.YtjemmjpdmbenkaaGreatDoorMLInterpreterRun
open List renaming length_append → zA,take_length → zB,take_append_drop → zE,replicate → zI,length_cons → zJ,length_map → zK,length_nil → zL,drop_eq_getElem_cons → zM,length_take → zN,all_eq_true → zO,eq_of_mem_replicate → zP,length_filter_le → zT,flatMap_cons → zX,flatten_cons → zY,append_assoc → zZ
open Bool renaming false_eq_true → zD,not_true → zF,not_false → zH,or_eq_true → zR
open Int renaming toNat_natCast → zG,min_comm → zW
open Nat renaming le_add_left → zQ,mul_le_mul_left → zV
namespace Go.Proofs.YtjemmjpdmbenkaaGreatDoor
open Go.RowKit
set_option linter.unusedVariables false
set_option linter.unusedSimpArgs false
def clV(b:aa):Option (Int×Int):=if (eU b).2.2.1=true then some ((eU b).1,(eU b).2.1)else none
def sbV(S:SubL)(n:Int):List aa:=((S.find? λs=>s.1==n).map (·.2)).getD []
theorem dN:∀b c,clV b=some c→1≤c.2:=by
 intro b c h
 unfold clV at h
 rcases n9 b with q | q | ⟨n,t,q,h1,h2,h3,h4⟩
 ·rw[q]at h;simp at h
 ·rw[q]at h;simp at h
 ·rw[q]at h;simp at h;subst h;exact h3
variable {b:aa}{c:Int×Int}
theorem clV_up(h:clV b=some c):eU b=(c.1,c.2,true,0)∧1≤c.2∧c.2≤9999:=by
 unfold clV at h
 rcases n9 b with q | q | ⟨n,t,q,h1,h2,h3,h4⟩
 ·rw[q]at h;simp at h
 ·rw[q]at h;simp at h
 ·rw[q]at h;simp at h;subst h;exact⟨q,h3,h4⟩
theorem clV_no(h:clV b=none):(eU b).2.2.1=false:=by
 unfold clV at h
 cases hq:(eU b).2.2.1 with
 | true=>rw[hq]at h;simp at h
 | false=>rfl
structure Prg (M:List aa) (S:SubL):Prop where
 main:∃X E,M=X++[E]∧(∀b∈X,endV b=false)∧endV E=true
 free:(M.any λb=>retV b||oV b)=false
 cl:cleanS S=true
 dp:dupL [] (S.map (·.1))=false
 num:∀s∈S,1≤s.1∧s.1≤9999
 okM:∀b∈M,okBB b
 okS:∀s∈S,∀b∈s.2,okBB b
 len:(M++S.flatMap (·.2)).length≤1000
 few:S.length≤500
def Fnd(M:List aa)(S:SubL):Prop:=∀b∈M++S.flatMap (·.2),∀c,clV b=some c→c.1∈S.map (·.1)
variable {S:SubL}{n:Int}
theorem sb_mem(h:b∈sbV S n):∃s∈S,s.1=n∧b∈s.2∧sbV S n=s.2:=by
 unfold sbV at h ⊢
 cases hf:S.find? λs=>s.1==n with
 | none=>rw[hf]at h;simp at h
 | some s =>
  rw[hf]at h
  have h1:=List.find?_some hf
  exact⟨s,List.mem_of_find?_eq_some hf,by simpa using h1,by simpa using h,by simp⟩
theorem sb_all(h:b∈sbV S n):b∈S.flatMap (·.2):=by
 obtain⟨s,h1,_,h2,_⟩:=sb_mem h
 exact List.mem_flatMap.2 ⟨s,h1,h2⟩
variable {M:List aa}
theorem Prg.okA(h:Prg M S):∀b∈M++S.flatMap (·.2),okBB b:=by
 intro b hb
 rcases List.mem_append.1 hb with hb | hb
 ·exact h.okM b hb
 ·obtain⟨s,h1,h2⟩:=List.mem_flatMap.1 hb
  exact h.okS s h1 b h2
theorem Prg.okN{S:SubL}(h:Prg M S){n:Int}:∀b∈sbV S n,okBB b:=λb hb=>h.okA b (List.mem_append.2 (.inr (sb_all hb)))
variable {s:Int×List aa}
theorem flt_len(h:s∈S):s.2.length≤(S.flatMap (·.2)).length:=by
 induction S with
 | nil=>cases h
 | cons x r ih =>
  rw[zX,zA]
  rcases List.mem_cons.1 h with rfl | h
  ·omega
  ·have:=ih h;omega
theorem Prg.lenN(h:Prg M S):(sbV S n).length≤1000:=by
 have hl:=h.len
 rw[zA]at hl
 cases hq:sbV S n with
 | nil=>simp
 | cons b r =>
  obtain⟨s,h1,_,_,h2⟩:=sb_mem (S:=S) (n:=n) (b:=b) (by rw[hq];simp)
  have:=flt_len h1
  rw[←hq,h2];omega
theorem Fnd.next{S:SubL}(h:Fnd M S):∀n∈S.map (·.1),∀b∈sbV S n,∀c,clV b=some c→c.1∈S.map (·.1):=λn _ b hb c hc=>h b (List.mem_append.2 (.inr (sb_all hb))) c hc
def g0(l:List (Int×Int))(n:Int):Int:=(mget l n).getD 0
theorem g0_put{l:List (Int×Int)}{v m:Int}:g0 (mput l n v) m=if (m==n)=true then v else g0 l m:=by
 unfold g0
 rw[kJ]
 split<;>rfl
def stS(f:Int→Int×Int)(a:Int×Int)(b:aa):Int×Int:=match clV b with
 | none=>(a.1,min (a.2+1) 20001)
 | some c=>(max a.1 (1+(f c.1).1),min (a.2+min (c.2*(f c.1).2) 20001) 20001)
theorem sumC_fold(f:Int→Int×Int):∀(l:List aa) (a:Int×Int),sumC clV (λn=>some (f n)) l a=some (l.foldl (stS f) a)
 | [],a=>rfl
 | b::r,a=>by
  unfold sumC
  rw[List.foldl_cons,←sumC_fold f r]
  unfold stS
  cases clV b<;>rfl
theorem mI_max(a b:Int):mmI true a b=max a b:=by simp only[mmI];split<;>omega
theorem mI_min(a b:Int):mmI false a b=min a b:=by simp only[mmI];split<;>omega
theorem sum_eq {dp sz : List (Int × Int)} {l : List aa} (hl : l.length ≤ 1000) (hok : ∀ b ∈ l, okBB b) (hb : ∀ b ∈ l, ∀ c, clV b = some c → 0 ≤ g0 dp c.1 ∧ g0 dp c.1 ≤ 1000 ∧ 0 ≤ g0 sz c.1 ∧ g0 sz c.1 ≤ 20001) :
    ah (av (be l) (
              az (λ(i2:Nat) (e2:aa) (v6:Int×Int) =>
                ah (iO e2) λ(y2:Int×Int×Bool×Int) =>
                ah (if (!y2.2.2.1) = true then
                      some (v6.1,IntKind.i64.wrap (v6.2+1))
                    else
                      some (mmI true v6.1 (IntKind.i64.wrap (1+((mget dp y2.1).getD 0))),IntKind.i64.wrap (v6.2+(mmI false (IntKind.i64.wrap (y2.2.1*((mget sz y2.1).getD 0))) 20001)))) λ(v7:Int×Int) =>
                some (.go (v7.1,mmI false v7.2 20001))) (λ(v6:Int×Int)=>some (v6.1,v6.2)) l 0 (0,0))) (λ(v8:Int×Int) =>
          some (v8.1,v8.2))=some (l.foldl (stS λn=>(g0 dp n,g0 sz n)) (0,0)):=by
  rw[aK (by omega),aN,dc (g:=stS λn=>(g0 dp n,g0 sz n)) (R:=λi v=>(0≤v.1∧v.1≤1001)∧0≤v.2∧v.2≤20001) (L:=l) ?_ l 0 (0,0) rfl (by simp)]
  · rfl
  · intro i b v hx hv
    obtain⟨⟨v1,v2⟩,v3,v4⟩:=hv
    have hm:=List.mem_of_getElem? hx
    rw[mj (hok b hm),ae]
    unfold stS
    cases hc:clV b with
    | none =>
      simp only[clV_no hc,zH,og,ae,mI_min,am (show -9223372036854775808≤v.2+1 by omega) (show v.2+1≤9223372036854775807 by omega)]
      exact⟨by first | rfl | trivial,⟨by (try simp only);omega,by (try simp only);omega⟩,by (try simp only);omega,by (try simp only);omega⟩
    | some c =>
      obtain⟨e1,e2,e3⟩:=clV_up hc
      obtain⟨b1,b2,b3,b4⟩:=hb b hm c hc
      have h5:0≤c.2*g0 sz c.1:=Int.mul_nonneg (by omega) b3
      have h6:c.2*g0 sz c.1≤9999*20001:=Int.mul_le_mul e3 b4 b3 (by omega)
      simp only[e1,zF,zD,oe,ae,mI_min,mI_max]
      show some (Ex.go (max v.1 (IntKind.i64.wrap (1+g0 dp c.1)),min (IntKind.i64.wrap (v.2+min (IntKind.i64.wrap (c.2*g0 sz c.1)) 20001)) 20001))=_∧_
      generalize c.2*g0 sz c.1=z at *
      rw[am (show -9223372036854775808≤z by omega) (show z≤9223372036854775807 by omega),am (show -9223372036854775808≤1+g0 dp c.1 by omega) (by omega),am (show -9223372036854775808≤v.2+min z 20001 by omega) (by omega)]
      exact⟨by first | rfl | trivial,⟨by (try simp only);omega,by (try simp only);omega⟩,by (try simp only);omega,by (try simp only);omega⟩
abbrev meA(S:SubL)(A:Int→Bool)(k:Nat)(n:Int):Option (Int×Int):=ce clV (sbV S) A k n
def InvD(S:SubL)(st dp sz:List (Int×Int)):Prop:=∀m,(g0 st m=0∨g0 st m=1∨g0 st m=2)∧(g0 st m=2→m∈S.map (·.1)∧∃k,meA S noA k m=some (g0 dp m,g0 sz m))
def whD(S:SubL)(st:List (Int×Int)):Nat:=((S.map (·.1)).filter λn=>g0 st n==0).length
def grD(st:List (Int×Int)):Int→Bool:=λm=>g0 st m==1
variable {st:List (Int×Int)}
theorem InvD.bd(hP:Prg M S)(hF:Fnd M S){dp sz:List (Int×Int)}(h:InvD S st dp sz){m:Int}(hm:g0 st m=2):0≤g0 dp m∧g0 dp m≤1000∧0≤g0 sz m∧g0 sz m≤20001:=by
 obtain⟨h1,k,h2⟩:=(h m).2 hm
 obtain⟨a,b,c⟩:=jJ clV (sbV S) dN h2
 have:=depth_bd clV (sbV S) hF.next _ noA (zQ _ _) k m _ h1 h2
 have h3:=hP.few
 simp only[zK]at this
 simp only at a b c this
 omega
variable {st':List (Int×Int)}
theorem wh_lt(hn:n∈S.map (·.1))(h:∀m,g0 st' m=0→g0 st m=0)(h1:g0 st n=0)(h2:g0 st' n≠0):whD S st'<whD S st :=
 flt_lt (D:=λm=>g0 st' m==0) (E:=λm=>g0 st m==0) (λm hm=>by simpa using h m (by simpa using hm)) hn (by simpa using h1) (by simpa using h2)
theorem wh_le(h:∀m,g0 st' m=0→g0 st m=0):whD S st'≤whD S st :=
 flt_le (D:=λm=>g0 st' m==0) (E:=λm=>g0 st m==0) (λm hm=>by simpa using h m (by simpa using hm))
structure PostD (S:SubL) (number:Int) (st:List (Int×Int)) (r:Bool×List (Int×Int)×List (Int×Int)×List (Int×Int)):Prop where
 inv:InvD S r.2.1 r.2.2.1 r.2.2.2
 two:∀m,g0 st m=2→g0 r.2.1 m=2
 one:∀m,g0 st m=1→g0 r.2.1 m=1
 zero:∀m,g0 r.2.1 m=0→g0 st m=0
 yes:r.1=true→g0 r.2.1 number=2∧∀m,g0 r.2.1 m=1→g0 st m=1
 no:r.1=false→∀k,meA S (grD st) k number=none
theorem meA_gray{A:Int→Bool}(h:A n=true)(k:Nat):meA S A k n=none:=by
 cases k with
 | zero=>rfl
 | succ k=>unfold meA ce;rw[od h]
variable {subs:List (Int × List aa)}
theorem dfs   (hP : Prg M S) (hF : Fnd M S)  (hsub : ∀ n, (mget subs n).getD [] = sbV S n) :
    ∀(N fuel:Nat) (number:Int) (st dp sz:List (Int×Int)),number∈S.map (·.1)→whD S st≤N→N<fuel→InvD S st dp sz→Tot (bw fuel number subs st dp sz) (PostD S number st):=by
  intro N
  induction N with
  | zero =>
    intro fuel number st dp sz hn hw hf hI
    obtain⟨fuel,rfl⟩:∃q,fuel=q+1:=⟨fuel-1,by omega⟩
    unfold bw bM
    refine Tot.ite (λh=>?_) (λh=>Tot.ite (λh2=>?_) (λh2=>?_))
    · have h':g0 st number=1:=by simpa [g0] using h
      exact Tot.ok ⟨hI,λ_ q=>q,λ_ q=>q,λ_ q=>q,λq=>(by cases q),λ_ k=>meA_gray (by simp[grD,h']) k⟩
    · have h':g0 st number=2:=by simpa [g0] using h2
      exact Tot.ok ⟨hI,λ_ q=>q,λ_ q=>q,λ_ q=>q,λ_=>⟨h',λ_ q=>q⟩,λq=>(by cases q)⟩
    · exfalso
      have h1:g0 st number≠1:=by simpa [g0] using h
      have h3:g0 st number≠2:=by simpa [g0] using h2
      have h0:g0 st number=0:=by rcases (hI number).1 with q | q | q<;>omega
      have:0<whD S st:=List.length_pos_of_mem (List.mem_filter.2 ⟨hn,by simpa using h0⟩)
      omega
  | succ N ih =>
    intro fuel number st dp sz hn hw hf hI
    obtain⟨fuel,rfl⟩:∃q,fuel=q+1:=⟨fuel-1,by omega⟩
    unfold bw bM
    refine Tot.ite (λh=>?_) (λh=>Tot.ite (λh2=>?_) (λh2=>?_))
    · have h':g0 st number=1:=by simpa [g0] using h
      exact Tot.ok ⟨hI,λ_ q=>q,λ_ q=>q,λ_ q=>q,λq=>(by cases q),λ_ k=>meA_gray (by simp[grD,h']) k⟩
    · have h':g0 st number=2:=by simpa [g0] using h2
      exact Tot.ok ⟨hI,λ_ q=>q,λ_ q=>q,λ_ q=>q,λ_=>⟨h',λ_ q=>q⟩,λq=>(by cases q)⟩
    · have h1:g0 st number≠1:=by simpa [g0] using h
      have h3:g0 st number≠2:=by simpa [g0] using h2
      have h0:g0 st number=0:=by rcases (hI number).1 with q | q | q<;>omega
      have hlen:=hP.lenN (n:=number)
      rw[hsub number]
      have hz1:∀m,g0 (mput st number 1) m=if (m==number)=true then 1 else g0 st m:=λm=>g0_put
      have hw1:whD S (mput st number 1)≤N:=by
        have:=wh_lt (st':=mput st number 1) hn (λm hm=>by
          rw[hz1]at hm
          split at hm
          · omega
          · exact hm) h0 (by rw[hz1,od (by simp)];omega)
        omega
      generalize hst1:mput st number 1=st1 at *
      have hI1:InvD S st1 dp sz:=λm=>by
        rw[hz1]
        split
        · exact⟨.inr (.inl rfl),λq=>by omega⟩
        · exact hI m
      refine Tot.bindX (E:=λv=>InvD S v.1 v.2.1 v.2.2∧(∀m,g0 st1 m=2→g0 v.1 m=2)∧(∀m,g0 v.1 m=1↔g0 st1 m=1)∧(∀m,g0 v.1 m=0→g0 st1 m=0)∧∀b∈sbV S number,∀c,clV b=some c→g0 v.1 c.1=2) (TotX.guard (aK (by omega)) (TotX.of (Tot.range (λi v=>InvD S v.1 v.2.1 v.2.2∧(∀m,g0 st1 m=2→g0 v.1 m=2)∧(∀m,g0 v.1 m=1↔g0 st1 m=1)∧(∀m,g0 v.1 m=0→g0 st1 m=0)∧∀b∈(sbV S number).take i,∀c,clV b=some c→g0 v.1 c.1=2) _ ⟨hI1,λ_ q=>q,λ_=>Iff.rfl,λ_ q=>q,λb hb=>by simp at hb⟩ (λi b v hx hv=>?_) (λv hv=>?_)))) (λv hv=>?_)
      · obtain⟨k1,k2,k3,k4,k5⟩:=hv
        have hm:=List.mem_of_getElem? hx
        refine TotX.bindX (E:=λy=>y=((eU b).1,(eU b).2.2.1)) (TotX.bind (E:=λy=>y=eU b) (Tot.eq (mj (hP.okN b hm)) rfl) (λy hy=>by subst hy;exact TotX.go rfl)) (λy hy=>?_)
        subst hy
        have hW:whD S v.1≤N:=Nat.le_trans (wh_le k4) hw1
        refine TotX.bind (E:=λr=>InvD S r.2.1 r.2.2.1 r.2.2.2∧(∀m,g0 v.1 m=2→g0 r.2.1 m=2)∧(∀m,g0 v.1 m=1→g0 r.2.1 m=1)∧(∀m,g0 r.2.1 m=0→g0 v.1 m=0)∧(r.1=false→(∀m,g0 r.2.1 m=1→g0 v.1 m=1)∧∀c,clV b=some c→g0 r.2.1 c.1=2)∧(r.1=true→∃c,clV b=some c∧∀k,meA S (grD v.1) k c.1=none)) ?_ (λr hr=>?_)
        · refine Tot.ite (λhc=>?_) (λhc=>?_)
          · have hcl:clV b=some ((eU b).1,(eU b).2.1):=by unfold clV;rw[od hc]
            have hin:=hF.next number hn b hm _ hcl
            refine Tot.bind (ih fuel (eU b).1 v.1 v.2.1 v.2.2 hin hW (by omega) k1) (λr hr=>?_)
            refine Tot.ok ⟨hr.inv,hr.two,hr.one,hr.zero,λq=>?_,λq=>?_⟩
            · have q':r.1=true:=by simpa using q
              obtain⟨y1,y2⟩:=hr.yes q'
              exact⟨y2,λc hc'=>by rw[hcl]at hc';cases hc';exact y1⟩
            · have q':r.1=false:=by simpa using q
              exact⟨_,hcl,hr.no q'⟩
          · refine Tot.ok ⟨k1,λ_ q=>q,λ_ q=>q,λ_ q=>q,λ_=>⟨λ_ q=>q,λc hc'=>?_⟩,λq=>(by cases q)⟩
            unfold clV at hc'
            rw[oc (by simpa using hc)]at hc';cases hc'
        · obtain⟨j1,j2,j3,j4,j5,j6⟩:=hr
          refine TotX.ite (λhc=>?_) (λhc=>?_)
          · obtain⟨c,hc1,hc2⟩:=j6 hc
            refine TotX.ret ⟨j1,λm hm2=>j2 m (k2 m ?_),λm hm2=>j3 m ((k3 m).2 ?_),λm hm2=>?_,λq=>(by cases q),λ_=>?_⟩
            · rw[hz1]
              split
              · rename_i q;rw[eq_of_beq q]at hm2;omega
              · exact hm2
            · rw[hz1]
              split
              · rfl
              · exact hm2
            · have:=k4 m (j4 m hm2)
              rw[hz1]at this
              split at this
              · omega
              · exact this
            · refine measA_fail clV (sbV S) hm hc1 (λk=>?_)
              cases hq:ce clV (sbV S) (λx=>grD st x||x==number) k c.1 with
              | none=>rfl
              | some u =>
                exfalso
                have:=measA_sub clV (sbV S) (A:=grD v.1) (A':=λx=>grD st x||x==number) (λx hx=>by
                  have h5:g0 st1 x=1:=(k3 x).1 (by simpa [grD] using hx)
                  rw[hz1]at h5
                  simp only[grD,zR,beq_iff_eq]
                  split at h5
                  · rename_i q;exact .inr (eq_of_beq q)
                  · exact .inl h5) hq
                have h6:=hc2 k
                unfold meA at h6
                rw[h6]at this;cases this
          · obtain⟨l1,l2⟩:=j5 hc
            refine TotX.go ⟨j1,λm q=>j2 m (k2 m q),λm=>⟨λq=>(k3 m).1 (l1 m q),λq=>j3 m ((k3 m).2 q)⟩,λm q=>k4 m (j4 m q),λb' hb' c hc'=>?_⟩
            rw[cj hx]at hb'
            rcases List.mem_append.1 hb' with hb' | hb'
            · exact j2 _ (k5 b' hb' c hc')
            · simp at hb';subst hb';exact l2 c hc'
      · rw[zB]at hv
        exact Tot.ok hv
      · obtain⟨k1,k2,k3,k4,k5⟩:=hv
        rw[sum_eq (dp:=v.2.1) (sz:=v.2.2) hlen (hP.okN) (λb hb c hc=>k1.bd hP hF (k5 b hb c hc)),ae]
        have hsum:=sumC_fold (λn=>(g0 v.2.1 n,g0 v.2.2 n)) (sbV S number) (0,0)
        generalize (sbV S number).foldl (stS λn=>(g0 v.2.1 n,g0 v.2.2 n)) (0,0)=w at hsum ⊢
        obtain⟨K,hK⟩:=meas_sum clV (sbV S) (n:=number) (v:=w) (f:=λn=>some (g0 v.2.1 n,g0 v.2.2 n)) (λb hb c hc=>by
          obtain⟨_,k,hk⟩:=(k1 c.1).2 (k5 b hb c hc)
          exact⟨k,_,hk,rfl⟩) hsum
        have e1:∀m,g0 (mput v.1 number 2) m=if (m==number)=true then 2 else g0 v.1 m:=λm=>g0_put
        have e2:∀m,g0 (mput v.2.1 number w.1) m=if (m==number)=true then w.1 else g0 v.2.1 m:=λm=>g0_put
        have e3:∀m,g0 (mput v.2.2 number w.2) m=if (m==number)=true then w.2 else g0 v.2.2 m:=λm=>g0_put
        have hn1:g0 st1 number=1:=by rw[hz1,od (by simp)]
        refine Tot.ok ⟨λm=>?_,λm hm=>?_,λm hm=>?_,λm hm=>?_,λ_=>⟨?_,λm hm=>?_⟩,λq=>(by cases q)⟩
        · rw[e1,e2,e3]
          split
          · rename_i q
            refine⟨.inr (.inr rfl),λ_=>?_⟩
            rw[eq_of_beq q]
            exact⟨hn,K,hK⟩
          · exact k1 m
        · rw[e1]
          split
          · rfl
          · refine k2 m ?_
            rw[hz1,oc (by assumption)];exact hm
        · rw[e1]
          split
          · rename_i q;rw[eq_of_beq q]at hm;omega
          · refine (k3 m).2 ?_
            rw[hz1,oc (by assumption)];exact hm
        · rw[e1]at hm
          split at hm
          · omega
          · have:=k4 m hm
            rw[hz1,oc (by assumption)]at this;exact this
        · rw[e1,od (by simp)]
        · rw[e1]at hm
          split at hm
          · omega
          · have:=(k3 m).1 hm
            rw[hz1,oc (by assumption)]at this;exact this
def errsV(M:List aa)(S:SubL):Prop:=∃b∈M++S.flatMap (·.2),(eU b).2.2.2≠0
def cycVB(S:SubL):Prop:=∃n∈S.map (·.1),∀k,meA S noA k n=none
def totV(M:List aa)(S:SubL)(v:Int×Int):Prop:=∃K,sumC clV (meA S noA K) M (0,0)=some v
def BadV(M:List aa)(S:SubL)(e:Int):Prop :=
 (errsV M S∧e=1)∨(¬errsV M S∧¬Fnd M S∧e=4)∨(¬errsV M S∧Fnd M S∧cycVB S∧e=12)∨(¬errsV M S∧Fnd M S∧¬cycVB S∧(∃v,totV M S v∧(8<v.1∨20000<v.2))∧e=3)
def GoodV(M:List aa)(S:SubL)(v:Int×Int):Prop:=¬errsV M S∧Fnd M S∧¬cycVB S∧totV M S v∧v.1≤8∧v.2≤20000
variable {v:Int×Int}
theorem totV_one{u:Int×Int}(h1:totV M S u)(h2:totV M S v):u=v:=by
 obtain⟨j,h1⟩:=h1
 obtain⟨k,h2⟩:=h2
 rcases Nat.le_total j k with q | q
 ·have:=er clV (λb _ c x _ hx=>jv clV (sbV S) q hx) h1
  rw[h2]at this;exact (Option.some.inj this).symm
 ·have:=er clV (λb _ c x _ hx=>jv clV (sbV S) q hx) h2
  rw[h1]at this;exact Option.some.inj this
theorem bad_one{e f:Int}(h1:BadV M S e)(h2:BadV M S f):e=f:=by
 rcases h1 with⟨a,b⟩|⟨a,b,c⟩|⟨a,b,c,d⟩|⟨a,b,c,d,i⟩<;>rcases h2 with⟨a',b'⟩|⟨a',b',c'⟩|⟨a',b',c',d'⟩|⟨a',b',c',d',i'⟩<;>first | exact absurd ‹errsV M S› ‹¬errsV M S› | exact absurd ‹Fnd M S› ‹¬Fnd M S› | exact absurd ‹cycVB S› ‹¬cycVB S› | omega
theorem bad_good{e:Int}(h1:BadV M S e)(h2:GoodV M S v):False:=by
 obtain⟨g1,g2,g3,g4,g5,g6⟩:=h2
 rcases h1 with⟨a,b⟩|⟨a,b,c⟩|⟨a,b,c,d⟩|⟨a,b,c,⟨u,hu,d⟩,i⟩
 ·exact g1 a
 ·exact b g2
 ·exact g3 c
 ·have:=totV_one hu g4
  subst this
  omega
variable {i:Nat}
theorem toP_at{e:aH}(h:(toP S)[i]? = some e):∃s,S[i]? = some s∧e=⟨s.1,s.2⟩:=by
 unfold toP at h
 rw[List.getElem?_map]at h
 obtain⟨s,h1,h2⟩:=Option.map_eq_some_iff.1 h
 exact⟨s,h1,h2.symm⟩
theorem toP_len:(toP S).length=S.length:=by unfold toP;simp
theorem Prg.nd(h:Prg M S):(S.map (·.1)).Nodup:=by have:=dup_nodup h.dp (by simp);simpa using this
theorem sp_proper_ok(h:Prg M S):lk ⟨M,toP S⟩=some true:=by
  obtain⟨X,E,rfl,h1,h2⟩:=h.main
  have hl:=h.len
  have hf:=h.few
  rw[zA,zA]at hl
  simp only[zJ,zL]at hl
  (unfold lk;try delta jB jR rF jV)
  simp only
  rw[aK (by rw[toP_len];omega),aN]
  have hr : ∀ {d : Unit → Option (Ex Bool Unit)}, az (λ(i1 : Nat) (e1 : aH) (v1 : Unit) =>
        if ((decide (e1.Number<1))||(decide (e1.Number>9999)))=true then
          some (.ret (.ret false))
        else
          some (.go ())) d (toP S) 0 ()=d ():=by
    intro d
    rw[dc (g:=λv _=>v) (R:=λ_ _=>True) (L:=toP S) ?_ (toP S) 0 () rfl trivial]
    · intro i e v hx _
      obtain⟨s,hs,rfl⟩:=toP_at hx
      have:=h.num s (List.mem_of_getElem? hs)
      rw[oc (by simp;omega)]
      exact⟨rfl,trivial⟩
  rw[hr]
  simp only[d5]
  rw[ordered_val (λb q=>(h.okM b q).few) h1 h2 (λs hs=>⟨by have:=flt_len hs;omega,λb q=>(h.okS s hs b q).few⟩) (by omega) (by omega),ae,h.free,h.cl]
  simp only[zH,Bool.and_self,og]
  rw[repeated_val (toP S) (by rw[toP_len];omega),ae]
  have:(toP S).map (·.Number)=S.map (·.1):=by unfold toP;simp
  rw[this,h.dp];rfl
theorem take_flat{l:List (List aa)}:((l.take i).flatten).length≤l.flatten.length:=by
 have:=zE i l
 have h2:l.flatten=(l.take i).flatten++(l.drop i).flatten:=by rw[←List.flatten_append,this]
 rw[h2,zA];omega
theorem concat_eq{l:List (List aa)}(h:l.length≤1000)(hl:l.flatten.length≤1000):bj l=some l.flatten:=by
 (unfold bj;try delta jB rF)
 have hst:∀{i:Nat} {x:List aa},l[i]? = some x→(l.take (i+1)).flatten=(l.take i).flatten++x:=λhx=>by rw[cj hx];simp
 suffices h:Tot (ah (av (be l) (
   az (λ(i1:Nat) (e1:(List aa)) (v1:Int) =>
    if (decide ((IntKind.i64.wrap (v1+(e1.length:Int)))<0))=true then
     none
    else
     some (.go (IntKind.i64.wrap (v1+(e1.length:Int))))) (λ(v1:Int)=>some v1) l 0 0)) λ(v2:Int) =>
 av (decide (0≤v2∧v2≤16777216)) (
 ah (av (be l) (
   az (λ(i2:Nat) (e2:(List aa)) (v3:(List aa)) =>
    av (bo (v3.length+e2.length)) (
    some (.go (v3++e2)))) (λ(v3:(List aa))=>some v3) l 0 [])) λ(v4:(List aa)) =>
 some v4)) (λr=>r=l.flatten) by
  obtain⟨r,h1,h2⟩:=h
  rw[←h2];exact h1
 refine Tot.bind (E:=λv=>v=(l.flatten.length:Int)) (Tot.guard (aK (by omega)) (Tot.range (λi v=>v=(((l.take i).flatten).length:Int)) _ (by simp) (λi x v hx hv=>?_) (λv hv=>?_))) (λv hv=>?_)
 ·have h1:=hst hx
  have h2:=take_flat (l:=l) (i:=i+1)
  rw[h1,zA]at h2
  subst hv
  rw[am (by omega) (by omega),oc (by simp;omega)]
  exact TotX.go (by rw[h1,zA];omega)
 ·rw[zB]at hv
  exact Tot.ok hv
 ·subst hv
  refine Tot.guard (by rw[oo];omega) (Tot.bind (E:=λv=>v=l.flatten) (Tot.guard (aK (by omega)) (Tot.range (λi v=>v=(l.take i).flatten) _ (by simp) (λi x v hx hv=>?_) (λv hv=>?_))) (λv hv=>Tot.ok hv))
  ·have h1:=hst hx
   have h2:=take_flat (l:=l) (i:=i+1)
   rw[h1,zA]at h2
   subst hv
   exact TotX.guard (aQ (by omega)) (TotX.go h1.symm)
  ·rw[zB]at hv
   exact Tot.ok hv
theorem nd_take(h:(S.map (·.1)).Nodup){i:Nat}(hs:S[i]? = some s):∀t∈S.take i,t.1≠s.1:=by
 intro t ht he
 have h1:S=S.take i++s::S.drop (i+1):=by
  have hi:=ak hs
  rw[List.getElem?_eq_getElem hi]at hs
  have hs':S[i]=s:=Option.some.inj hs
  rw[←hs',←zM hi,zE]
 rw[h1,List.map_append,List.map_cons,List.nodup_append]at h
 exact h.2.2 t.1 (List.mem_map.2 ⟨t,ht,rfl⟩) s.1 (by simp) he
theorem new_exp(hP:Prg M S):Tot (dw ⟨M,toP S⟩) (λr=>match r with
  | .inl e=>e≠0∧((errsV M S∧e=1)∨(¬errsV M S∧¬Fnd M S∧e=4)∨(¬errsV M S∧Fnd M S∧cycVB S∧e=12))
  | .inr x=>¬errsV M S∧Fnd M S∧¬cycVB S∧(∀n,(mget x.1 n).getD []=sbV S n)∧∀n∈S.map (·.1),∃k,meA S noA k n=some (g0 x.2.2.1 n,g0 x.2.2.2 n)):=by
 have hl:=hP.len
 have hf:=hP.few
 have hnd:=hP.nd
 unfold dw
 rw[sp_proper_ok hP,ae]
 simp only[zF,zD,oe]
 refine Tot.bind (E:=λv=>v.1=M::S.map (·.2)∧∀n,mget v.2 n=(S.find? λs=>s.1==n).map (·.2)) (Tot.guard (aK (by rw[toP_len];omega)) (Tot.range (λi v=>v.1=M::(S.take i).map (·.2)∧∀n,mget v.2 n=((S.take i).find? λs=>s.1==n).map (·.2)) _ ⟨by simp,λn=>rfl⟩ (λi e v hx hv=>?_) (λv hv=>?_))) (λv hv=>?_)
 ·obtain⟨s,hs,rfl⟩:=toP_at hx
  have hlt:=ak hs
  obtain⟨h1,h2⟩:=hv
  refine TotX.guard (aQ (by rw[h1];simp;omega)) (TotX.go ⟨?_,λn=>?_⟩)
  ·rw[h1,cj hs];simp
  ·rw[kJ,cj hs,List.find?_append,h2 n]
   by_cases hn:n=s.1
   ·subst hn
    have:(S.take i).find? (λt=>t.1==s.1)=none:=by
     rw[List.find?_eq_none]
     intro t ht
     simpa using nd_take hnd hs t ht
    rw[this];simp
   ·have hb:(n==s.1)=false:=by simpa using hn
    have hb2:(s.1==n)=false:=by simpa using fun q:s.1=n=>hn q.symm
    rw[hb]
    simp[hb2]
 ·rw[toP_len]at hv
  rw[zB]at hv
  exact Tot.ok hv
 ·obtain⟨h1,h2⟩:=hv
  have hflat:(M::S.map (·.2)).flatten=M++S.flatMap (·.2):=by rw[zY,List.flatMap]
  rw[h1,concat_eq (by simp;omega) (by rw[hflat];exact hl),ae,hflat]
  have hall:=hP.okA
  generalize hA:M++S.flatMap (·.2)=A at *
  refine Tot.bindX (E:=λv=>(¬errsV M S)∧v.length≤1000∧∀n,n∈v↔∃b∈A,∃c,clV b=some c∧c.1=n) (TotX.guard (aK (by omega)) (TotX.of (Tot.range (λi v=>(∀b∈A.take i,(eU b).2.2.2=0)∧v.length≤i∧∀n,n∈v↔∃b∈A.take i,∃c,clV b=some c∧c.1=n) _ ⟨λb hb=>by simp at hb,Nat.le_refl _,λn=>by simp⟩ (λi b v hx hv=>?_) (λv hv=>?_)))) (λv hv=>?_)
  ·obtain⟨g1,g2,g3⟩:=hv
   have hm:=List.mem_of_getElem? hx
   have hlt:=ak hx
   rw[mj (hall b hm),ae]
   refine TotX.bindX (E:=λu=>(eU b).2.2.2=0∧u.length≤i+1∧∀n,n∈u↔n∈v∨∃c,clV b=some c∧c.1=n) (TotX.ite (λhe=>?_) (λhe=>TotX.ite (λhc=>?_) (λhc=>?_))) (λu hu=>TotX.go ⟨λx hx2=>?_,hu.2.1,λn=>?_⟩)
   ·have he':(eU b).2.2.2≠0:=by simpa using he
    refine TotX.ret ⟨he',.inl ⟨⟨b,by rw[hA];exact hm,he'⟩,?_⟩⟩
    rcases n9 b with q | q | ⟨n,t,q,_⟩
    ·rw[q]at he';exact absurd rfl he'
    ·rw[q]
    ·rw[q]at he';exact absurd rfl he'
   ·have hcl:clV b=some ((eU b).1,(eU b).2.1):=by unfold clV;rw[od hc]
    refine TotX.guard (aQ (by omega)) (TotX.go ⟨by simpa using he,by simp;omega,λn=>?_⟩)
    rw[List.mem_append,hcl]
    simp only[List.mem_singleton,Option.some.injEq]
    exact⟨λq=>q.imp id λq=>⟨_,rfl,q.symm⟩,λq=>q.imp id λ⟨c,hc1,hc2⟩=>by subst hc1;exact hc2.symm⟩
   ·refine TotX.go ⟨by simpa using he,by omega,λn=>?_⟩
    unfold clV
    rw[oc (by simpa using hc)]
    simp
   ·rw[cj hx]at hx2
    rcases List.mem_append.1 hx2 with q | q
    ·exact g1 x q
    ·simp at q;subst q;exact hu.1
   ·rw[hu.2.2 n,g3 n,cj hx]
    constructor
    ·rintro (⟨x,q1,q2⟩ | q)
     ·exact⟨x,List.mem_append.2 (.inl q1),q2⟩
     ·exact⟨b,by simp,q⟩
    ·rintro⟨x,q1,q2⟩
     rcases List.mem_append.1 q1 with q1 | q1
     ·exact .inl ⟨x,q1,q2⟩
     ·simp at q1;subst q1;exact .inr q2
  ·rw[zB]at hv
   obtain⟨g1,g2,g3⟩:=hv
   refine Tot.ok ⟨λ⟨b,hb,he⟩=>he (g1 b (by rw[hA]at hb;exact hb)),by omega,g3⟩
  ·obtain⟨g1,g2,g3⟩:=hv
   refine Tot.bindX (E:=λ_=>Fnd M S) (TotX.guard (aK (by omega)) (TotX.of (Tot.range (λi _=>∀n∈v.take i,n∈S.map (·.1)) _ (λn hn=>by simp at hn) (λi n u hx hv=>?_) (λu hv=>?_)))) (λu hF=>?_)
   ·have hn:=List.mem_of_getElem? hx
    have hin:((S.find? λs=>s.1==n).map (·.2)).isSome=true↔n∈S.map (·.1):=by
     rw[Option.isSome_map,List.find?_isSome,List.mem_map]
     simp
    rw[h2 n]
    refine TotX.ite (λhc=>?_) (λhc=>?_)
    ·refine TotX.ret ⟨by omega,.inr (.inl ⟨g1,λhF=>?_,rfl⟩)⟩
     obtain⟨b,q1,c,q2,q3⟩:=(g3 n).1 hn
     have:=hF b (by rw[hA];exact q1) c q2
     rw[q3]at this
     rw[hin.2 this]at hc;cases hc
    ·refine TotX.go (λm hm=>?_)
     rw[cj hx]at hm
     rcases List.mem_append.1 hm with hm | hm
     ·exact hv m hm
     ·simp at hm;subst hm
      exact hin.1 (by simpa using hc)
   ·rw[zB]at hv
    exact Tot.ok (λb hb c hc=>hv c.1 ((g3 c.1).2 ⟨b,by rw[hA]at hb;exact hb,c,hc,rfl⟩))
   ·have hsub:∀n,_=sbV S n:=λn=>(congrArg (λx:Option (List aa)=>x.getD []) (h2 n))
    have h00:∀m,g0 [] m=0:=λm=>rfl
    refine Tot.bindX (E:=λv=>InvD S v.1 v.2.1 v.2.2∧∀n∈S.map (·.1),g0 v.1 n=2) (TotX.guard (aK (by rw[toP_len];omega)) (TotX.of (Tot.range (λi v=>InvD S v.1 v.2.1 v.2.2∧(∀m,g0 v.1 m≠1)∧∀s∈S.take i,g0 v.1 s.1=2) _ ⟨λm=>⟨.inl (h00 m),λq=>by rw[h00 m]at q;omega⟩,λm=>by rw[h00 m];omega,λs hs=>by simp at hs⟩ (λi e v hx hv=>?_) (λv hv=>?_)))) (λv hv=>?_)
    ·obtain⟨s,hs,rfl⟩:=toP_at hx
     obtain⟨k1,k2,k3⟩:=hv
     have hin:s.1∈S.map (·.1):=List.mem_map.2 ⟨s,List.mem_of_getElem? hs,rfl⟩
     have hw:whD S v.1≤500:=by
      have:=zT (λn=>g0 v.1 n==0) (S.map (·.1))
      rw[zK]at this
      unfold whD;omega
     refine TotX.bind (E:=PostD S s.1 v.1) (dfs hP hF hsub 500 fuel s.1 v.1 v.2.1 v.2.2 hin hw (bK (by omega)) k1) (λr hr=>?_)
     refine TotX.ite (λhc=>?_) (λhc=>?_)
     ·refine TotX.ret ⟨by omega,.inr (.inr ⟨g1,hF,⟨s.1,hin,λk=>?_⟩,rfl⟩)⟩
      have:=hr.no (by simpa using hc) k
      have e:grD v.1=noA:=by funext m;unfold grD noA;simpa using k2 m
      rw[e]at this;exact this
     ·obtain⟨y1,y2⟩:=hr.yes (by simpa using hc)
      refine TotX.go ⟨hr.inv,λm hm=>k2 m (y2 m hm),λt ht=>?_⟩
      rw[cj hs]at ht
      rcases List.mem_append.1 ht with ht | ht
      ·exact hr.two _ (k3 t ht)
      ·simp at ht;subst ht;exact y1
    ·rw[toP_len,zB]at hv
     obtain⟨k1,k2,k3⟩:=hv
     refine Tot.ok ⟨k1,λn hn=>?_⟩
     obtain⟨s,hs,rfl⟩:=List.mem_map.1 hn
     exact k3 s hs
    ·obtain⟨k1,k2⟩:=hv
     refine Tot.ok ⟨g1,hF,λ⟨n,hn,hc⟩=>?_,hsub,λn hn=>((k1 n).2 (k2 n hn)).2⟩
     obtain⟨_,k,hk⟩:=(k1 n).2 (k2 n hn)
     rw[hc k]at hk;cases hk
theorem checked_ok   (hP : Prg M S) : Tot (gy ⟨M, toP S⟩) (λr => match r with
    | .inl e=>e≠0∧BadV M S e
    | .inr x=>(∃v,GoodV M S v)∧∀n,(mget x.2.1 n).getD []=sbV S n):=by
  have hl:=hP.len
  rw[zA]at hl
  unfold gy
  refine Tot.bind (new_exp hP) (λr hr=>?_)
  cases r with
  | inl e =>
    obtain⟨h1,h2⟩:=hr
    simp only[Sum.elim_inl]
    rw[od (by simpa using h1)]
    refine Tot.ok ⟨h1,?_⟩
    rcases h2 with q | q | q
    · exact .inl q
    · exact .inr (.inl q)
    · exact .inr (.inr (.inl q))
  | inr x =>
    obtain⟨h1,h2,h3,h4,h5⟩:=hr
    simp only[Sum.elim_inr]
    have hin:∀b∈M,∀c,clV b=some c→c.1∈S.map (·.1):=λb hb c hc=>h2 b (List.mem_append.2 (.inl hb)) c hc
    rw[sum_eq (dp:=x.2.2.1) (sz:=x.2.2.2) (by omega) hP.okM (λb hb c hc=>by
      obtain⟨k,hk⟩:=h5 c.1 (hin b hb c hc)
      obtain⟨a1,a2,a3⟩:=jJ clV (sbV S) dN hk
      have:=depth_bd clV (sbV S) h2.next _ noA (zQ _ _) k _ _ (hin b hb c hc) hk
      have h6:=hP.few
      simp only[zK]at this
      simp only at a1 a2 a3 this
      omega),ae]
    have hsum:=sumC_fold (λn=>(g0 x.2.2.1 n,g0 x.2.2.2 n)) M (0,0)
    generalize M.foldl (stS λn=>(g0 x.2.2.1 n,g0 x.2.2.2 n)) (0,0)=w at hsum ⊢
    obtain⟨K,hK⟩:=meas_all clV (sbV S) (l:=M) (f:=λn=>some (g0 x.2.2.1 n,g0 x.2.2.2 n)) (λb hb c hc=>by
      obtain⟨k,hk⟩:=h5 c.1 (hin b hb c hc)
      exact⟨k,_,hk,rfl⟩)
    have htot:totV M S w:=⟨K,er clV hK hsum⟩
    refine Tot.ite (λhc=>?_) (λhc=>?_)
    · exact Tot.ok ⟨by omega,.inr (.inr (.inr ⟨h1,h2,h3,⟨w,htot,by simpa using hc⟩,rfl⟩))⟩
    · exact Tot.ok ⟨⟨w,h1,h2,h3,htot,by simp at hc;omega⟩,h4⟩
theorem toR_at{e:dg}(h:(toR S)[i]? = some e):∃s,S[i]? = some s∧e=⟨s.1,s.2⟩:=by
 unfold toR at h
 rw[List.getElem?_map]at h
 obtain⟨s,h1,h2⟩:=Option.map_eq_some_iff.1 h
 exact⟨s,h1,h2.symm⟩
theorem toR_of(h:S[i]? = some s):(toR S)[i]? = some ⟨s.1,s.2⟩:=by unfold toR;rw[List.getElem?_map,h];rfl
theorem lf:(toR S).length=S.length:=by unfold toR;simp
variable {α:Type}
theorem split_at{l:List α}{x:α}(h:l[i]? = some x):l=l.take i++x::l.drop (i+1):=by
 have hi:=ak h
 rw[List.getElem?_eq_getElem hi]at h
 rw[←Option.some.inj h,←zM hi,zE]
theorem find_at(hP:Prg M S)(hs:S[i]? = some s):dl ⟨M,toR S⟩ s.1=some (i:Int):=by
  have hf:=hP.few
  rw[find_eq _ _ _ (by rw[lf];omega)]
  have h1:=split_at (toR_of hs)
  have hi:=ak hs
  rw[h1,fxA_app (p:=λt:dg=>t.Number==s.1) (by simp) _ 0 (λt ht=>by
    obtain⟨j,hj⟩:=List.getElem?_of_mem ht
    rw[List.getElem?_take]at hj
    split at hj
    · obtain⟨u,hu,rfl⟩:=toR_at hj
      simpa using nd_take hP.nd hs u (by
        refine List.mem_of_getElem? (i:=j) ?_
        rw[List.getElem?_take,od (by assumption)];exact hu)
    · cases hj)]
  rw[zN,lf,Nat.min_eq_left (by omega),Nat.zero_add]
theorem find_in(hP:Prg M S)(hn:n∈S.map (·.1)):∃(i:Nat) (s:Int×List aa),S[i]? = some s∧s.1=n∧dl ⟨M,toR S⟩ n=some (i:Int):=by
 obtain⟨s,hs,rfl⟩:=List.mem_map.1 hn
 obtain⟨i,hi⟩:=List.getElem?_of_mem hs
 exact⟨i,s,hi,rfl,find_at hP hi⟩
theorem find_no(hP:Prg M S)(hn:n∉S.map (·.1)):dl ⟨M,toR S⟩ n=some (-1):=by
 have hf:=hP.few
 rw[find_eq _ _ _ (by rw[lf];omega),fxA_none _ _ (λt ht=>by
  unfold toR at ht
  obtain⟨s,hs,rfl⟩:=List.mem_map.1 ht
  simp only[beq_eq_false_iff_ne]
  rintro rfl
  exact hn (List.mem_map.2 ⟨s,hs,rfl⟩))]
theorem clean_at(h:cleanS S=true)(hs:s∈S):∀b∈s.2,retV b=false∧oV b=false∧endV b=false:=by
 intro b hb
 unfold cleanS at h
 have:=List.all_eq_true.1 (List.all_eq_true.1 h s hs) b hb
 unfold mkV at this
 simp only[Bool.not_or,Bool.and_eq_true,Bool.not_eq_true']at this
 exact⟨this.2.2,this.1,this.2.1⟩
theorem r43_proper_ok(h:Prg M S):j7 ⟨M,toR S⟩=some true:=by
 obtain⟨X,E,hM,h1,h2⟩:=h.main
 have hl:=h.len
 have hf:=h.few
 rw[zA]at hl
 have hMl:M.length=X.length+1:=by rw[hM];simp
 have hfree:=h.free
 (unfold j7;try delta jB jR rF)
 simp only
 rw[show ((M.length:Int)==0)=false by rw[beq_eq_false_iff_ne];omega]
 simp only[zD,oe]
 rw[aK (by omega),aN,dc (g:=λv _=>v) (R:=λ_ _=>True) (L:=M) ?_ M 0 () rfl trivial]
 ·simp only[d5]
  rw[aK (by rw[lf];omega),aN,dc (g:=λv _=>v) (R:=λ_ _=>True) (L:=toR S) ?_ (toR S) 0 () rfl trivial]
  ·rfl
  ·intro i e v hx _
   obtain⟨s,hs,rfl⟩:=toR_at hx
   have hm:=List.mem_of_getElem? hs
   have hn:=h.num s hm
   refine⟨?_,trivial⟩
   simp only
   rw[find_at h hs,ae,oi (by omega),oi (by omega),oi (by omega)]
   simp only[zD,oe,ae]
   have hsl:=flt_len hm
   rw[aK (by omega),aN,dc (g:=λv _=>v) (R:=λ_ _=>True) (L:=s.2) ?_ s.2 0 () rfl trivial]
   ·rfl
   ·intro j b v hx2 _
    have hb:=List.mem_of_getElem? hx2
    obtain⟨q1,q2,q3⟩:=clean_at h.cl hm b hb
    have hk:=(h.okS s hm b hb).few
    rw[j0 hk,ae,show hasV b 77 99000=false from q1,mt hk,ae,show letV b 79=false from q2,fW hk,ae,show hasV b 77 30000=false from q3]
    exact⟨rfl,trivial⟩
 ·intro i b v hx _
  have hb:=List.mem_of_getElem? hx
  have hlt:=ak hx
  have hk:=(h.okM b hb).few
  have hq:=List.any_eq_false.1 hfree b hb
  simp only[zR,not_or,Bool.not_eq_true]at hq
  refine⟨?_,trivial⟩
  rw[j0 hk,ae,show hasV b 77 99000=false from hq.1,mt hk,ae,show letV b 79=false from hq.2,fW hk,ae]
  have he:hasV b 77 30000=((i:Int)==(IntKind.i64.wrap ((M.length:Int)-1))):=by
   rw[am (by omega) (by omega)]
   rw[hM]at hx
   by_cases hi:i<X.length
   ·rw[List.getElem?_append_left hi]at hx
    rw[show hasV b 77 30000=false from h1 b (List.mem_of_getElem? hx)]
    symm;rw[beq_eq_false_iff_ne];omega
   ·have hi2:i=X.length:=by omega
    subst hi2
    rw[List.getElem?_append_right (Nat.le_refl _),Nat.sub_self]at hx
    have:E=b:=Option.some.inj hx
    rw[←this,show hasV E 77 30000=true from h2]
    symm;rw[beq_iff_eq];omega
  rw[he]
  simp
theorem blocks_ok(h:Prg M S):iz ⟨M,toR S⟩=some (M++S.flatMap (·.2)):=by
 have hl:=h.len
 have hf:=h.few
 rw[zA]at hl
 suffices q:Tot (iz ⟨M,toR S⟩) (λr=>r=M++S.flatMap (·.2)) by
  obtain⟨r,h1,h2⟩:=q
  rw[h1,h2]
 (unfold iz;try delta jB rF)
 simp only
 refine Tot.guard (aQ (by omega)) (Tot.bind (E:=λr=>r=M++S.flatMap (·.2)) (Tot.guard (aK (by rw[lf];omega)) (Tot.range (λi v=>v=M++(S.take i).flatMap (·.2)) _ (by simp) (λi e v hx hv=>?_) (λv hv=>?_))) (λr hr=>Tot.ok hr))
 ·obtain⟨s,hs,rfl⟩:=toR_at hx
  have h1:(S.take (i+1)).flatMap (·.2)=(S.take i).flatMap (·.2)++s.2:=by rw[cj hs];simp
  have h2:((S.take (i+1)).flatMap (·.2)).length≤(S.flatMap (·.2)).length:=by
   have:=zE (i+1) S
   have h3:S.flatMap (·.2)=(S.take (i+1)).flatMap (·.2)++(S.drop (i+1)).flatMap (·.2):=by rw[←List.flatMap_append,this]
   rw[h3,zA];omega
  rw[h1,zA]at h2
  subst hv
  exact TotX.guard (aQ (by rw[zA];simp only;omega)) (TotX.go (by rw[h1,zZ]))
 ·rw[lf,zB]at hv
  exact Tot.ok hv
def ixV(S:SubL)(n:Int):Nat:=S.findIdx λs=>s.1==n
theorem ix_at(hP:Prg M S)(hs:S[i]? = some s):ixV S s.1=i:=by
  have hi:=ak hs
  unfold ixV
  rw[List.findIdx_eq hi]
  rw[List.getElem?_eq_getElem hi]at hs
  have hs':S[i]=s:=Option.some.inj hs
  refine⟨by rw[hs'];simp,λj hj=>?_⟩
  have:=nd_take hP.nd (i:=i) (s:=s) (by rw[List.getElem?_eq_getElem hi,hs']) S[j] (by
    refine List.mem_of_getElem? (i:=j) ?_
    rw[List.getElem?_take,od hj,List.getElem?_eq_getElem])
  simpa using this
theorem ix_no(h:n∉S.map (·.1)):ixV S n=S.length:=by
 unfold ixV
 rw[List.findIdx_eq_length]
 intro s hs
 simp only[beq_eq_false_iff_ne]
 rintro rfl
 exact h (List.mem_map.2 ⟨s,hs,rfl⟩)
theorem sb_at(hP:Prg M S)(hs:S[i]? = some s):sbV S s.1=s.2:=by
 unfold sbV
 rw[split_at hs,List.find?_append]
 have:(S.take i).find? (λt=>t.1==s.1)=none:=by
  rw[List.find?_eq_none]
  intro t ht
  simpa using nd_take hP.nd hs t ht
 rw[this];simp
def FN(S:SubL)(sz dp:List Int)(n:Int):Option (Int×Int):=match sz[ixV S n]?,dp[ixV S n]? with
 | some z,some d=>if z<0 then none else some (d,z)
 | _,_=>none
structure InvF (S:SubL) (sz dp:List Int):Prop where
 l1:sz.length=S.length
 l2:dp.length=S.length
 val:∀n v,FN S sz dp n=some v→n∈S.map (·.1)∧∃k,meA S noA k n=some v
variable {dp sz:List Int}
theorem InvF.bd(hP:Prg M S)(hF:Fnd M S)(h:InvF S sz dp)(hv:FN S sz dp n=some v):0≤v.1∧v.1≤1000∧0≤v.2∧v.2≤20001:=by
 obtain⟨h1,k,h2⟩:=h.val n v hv
 obtain⟨a,b,c⟩:=jJ clV (sbV S) dN h2
 have:=depth_bd clV (sbV S) hF.next _ noA (zQ _ _) k n _ h1 h2
 have h3:=hP.few
 simp only[zK]at this
 omega
def mstep(F:Int→Option (Int×Int))(u:Int×Int)(b:aa):Option (Int×Int):=match clV b with
 | none=>some (min 20001 (u.1+1),u.2)
 | some c=>match F c.1 with
  | none=>none
  | some x=>some (min 20001 (u.1+min 20001 (x.2*c.2)),max u.2 (x.1+1))
theorem mstep_sum(F:Int→Option (Int×Int)):∀(l:List aa) (u:Int×Int),l.foldlM (mstep F) u=(sumC clV F l (u.2,u.1)).map λv=>(v.2,v.1)
 | [],u=>rfl
 | b::r,u=>by
  rw[List.foldlM_cons]
  have hs:sumC clV F (b::r) (u.2,u.1)=match clV b with
   | none=>sumC clV F r (u.2,min (u.1+1) 20001)
   | some c=>match F c.1 with
    | none=>none
    | some v=>sumC clV F r (max u.2 (1+v.1),min (u.1+min (c.2*v.2) 20001) 20001):=rfl
  have hm:mstep F u b=match clV b with
   | none=>some (min 20001 (u.1+1),u.2)
   | some c=>match F c.1 with
    | none=>none
    | some x=>some (min 20001 (u.1+min 20001 (x.2*c.2)),max u.2 (x.1+1)):=rfl
  rw[hs,hm]
  cases hc:clV b with
  | none =>
   simp only[Option.bind_eq_bind,Option.bind_some]
   rw[mstep_sum F r,zW]
  | some c =>
   simp only
   cases hf:F c.1 with
   | none=>rfl
   | some x =>
    simp only[Option.bind_eq_bind,Option.bind_some]
    rw[mstep_sum F r]
    simp only
    rw[zW 20001,zW 20001,Int.mul_comm x.2,Int.add_comm x.1]
theorem gt_i{l:List α}(h:i<l.length):∃x,gt l (i:Int)=some x∧l[i]? = some x:=⟨l[i],gt_at' (List.getElem?_eq_getElem h),List.getElem?_eq_getElem h⟩
variable {l:List aa}
theorem na(hP:Prg M S)(hF:Fnd M S)(hI:InvF S sz dp)(hl:l.length≤1000)(hok:∀b∈l,okBB b)(hc:∀b∈l,∀c,clV b=some c→c.1∈S.map (·.1)) :
  fV ⟨M,toR S⟩ l sz dp=some (match sumC clV (FN S sz dp) l (0,0)with | some v=>(v.2,v.1,true) | none=>(0,0,false)):=by
 (unfold fV;try delta jB rF)
 rw[aK (by omega),aN,nC (L:=l) (r:=Ex.ret (0,0,false)) (mstep (FN S sz dp)) (λi u=>(0≤u.1∧u.1≤20001)∧0≤u.2∧u.2≤1001) ?_ l 0 (0,0) rfl (by simp)]
 ·rw[mstep_sum]
  cases sumC clV (FN S sz dp) l (0,0)<;>rfl
 ·intro i b u hx hu
  have hm:=List.mem_of_getElem? hx
  obtain⟨⟨u1,u2⟩,u3,u4⟩:=hu
  rw[kH (hok b hm),ae]
  unfold mstep r43_sum
  cases hcl:clV b with
  | none =>
   left
   simp only[clV_no hcl,zH,og,ae,mI_min,am (show -9223372036854775808≤u.1+1 by omega) (show u.1+1≤9223372036854775807 by omega)]
   exact⟨_,rfl,rfl,⟨by simp only;omega,by simp only;omega⟩,by simp only;omega,by simp only;omega⟩
  | some c =>
   obtain⟨e1,e2,e3⟩:=clV_up hcl
   obtain⟨j,s,hs,hsn,hfd⟩:=find_in hP (hc b hm c hcl)
   have hj:=ak hs
   obtain⟨z,z1,z2⟩:=gt_i (l:=sz) (i:=j) (by rw[hI.l1];exact hj)
   obtain⟨d,d1,d2⟩:=gt_i (l:=dp) (i:=j) (by rw[hI.l2];exact hj)
   have hfn:FN S sz dp c.1=if z<0 then none else some (d,z):=by
    unfold FN
    rw[←hsn,ix_at hP hs,z2,d2]
   simp only[e1,zF,zD,oe,hfd,ae,z1,d1,mI_min,mI_max]
   by_cases hz:z<0
   ·right
    rw[hfn,od hz,oh hz,od rfl]
    exact⟨rfl,rfl⟩
   ·left
    rw[hfn,oc hz,oi hz,oc (by simp)]
    obtain⟨b1,b2,b3,b4⟩:=hI.bd hP hF (n:=c.1) (v:=(d,z)) (by rw[hfn,oc hz])
    simp only at b1 b2 b3 b4
    have h5:0≤z*c.2:=Int.mul_nonneg b3 (by omega)
    have h6:z*c.2≤20001*9999:=Int.mul_le_mul b4 e3 (by omega) (by omega)
    simp only
    generalize z*c.2=y at *
    rw[am (show -9223372036854775808≤y by omega) (show y≤9223372036854775807 by omega),am (show -9223372036854775808≤u.1+min 20001 y by omega) (by omega),am (show -9223372036854775808≤d+1 by omega) (by omega)]
    exact⟨_,rfl,rfl,⟨by simp only;omega,by simp only;omega⟩,by simp only;omega,by simp only;omega⟩
def dfN(S:SubL)(sz dp:List Int):Int→Bool:=λn=>(FN S sz dp n).isSome
theorem ix_set(hP:Prg M S)(hs:S[i]? = some s){l:List α}(hl:l.length=S.length)(x:α)(n:Int):(l.set i x)[ixV S n]? = if n=s.1 then some x else l[ixV S n]?:=by
 have hi:=ak hs
 rw[List.getElem?_set]
 by_cases hn:n=s.1
 ·subst hn
  rw[ix_at hP hs,od rfl,od (by omega),od rfl]
 ·rw[oc hn,oc]
  intro he
  by_cases hk:n∈S.map (·.1)
  ·obtain⟨t,ht,rfl⟩:=List.mem_map.1 hk
   obtain⟨j,hj⟩:=List.getElem?_of_mem ht
   rw[ix_at hP hj]at he
   subst he
   rw[hs]at hj;cases hj;exact hn rfl
  ·rw[ix_no hk]at he;omega
theorem round_sz(hP:Prg M S)(hF:Fnd M S){sz dp:List Int}(hI:InvF S sz dp){f:Int×List Int×List Int→Option (Ex (List Int×List Int) (Int×List Int×List Int))}
  (h0:∀sz dp,f ((S.length:Int),sz,dp)=some (.ret (sz,dp)))
  (h1:∀(i:Nat) s sz dp,S[i]? = some s→InvF S sz dp→f ((i:Int),sz,dp)=some (.go (((i+1:Nat):Int),(match sumC clV (FN S sz dp) s.2 (0,0)with | some v=>(sz.set i v.2,dp.set i v.1) | none=>(sz,dp))))) :
  Tot (bt f fuel (0,sz,dp)) (λr=>InvF S r.1 r.2∧dfN S r.1 r.2=fj clV (sbV S) (S.map (·.1)) (dfN S sz dp)):=by
 have hf:=hP.few
 refine Tot.loop (λm v=>∃i:Nat,v.1=(i:Int)∧i+m=S.length∧InvF S v.2.1 v.2.2∧dfN S v.2.1 v.2.2=fj clV (sbV S) ((S.map (·.1)).take i) (dfN S sz dp)) _ S.length (bK (by omega)) ⟨0,rfl,by omega,hI,by simp[fj]⟩ (λm v hv=>?_)
 obtain⟨⟩:=v
 rename_i i0 w
 obtain⟨sz1,dp1⟩:=w
 obtain⟨i,e1,e2,e3,e4⟩:=hv
 simp only at e1 e2 e3 e4
 subst e1
 by_cases hi:i=S.length
 ·subst hi
  rw[h0]
  rw[show S.length=(S.map (·.1)).length by simp,zB]at e4
  exact TotX.ret ⟨e3,e4⟩
 ·have hlt:i<S.length:=by omega
  obtain⟨s,hs⟩:∃s,S[i]? = some s:=⟨_,List.getElem?_eq_getElem hlt⟩
  have hm:=List.mem_of_getElem? hs
  have hk:(S.map (·.1))[i]? = some s.1:=by rw[List.getElem?_map,hs];rfl
  rw[h1 i s sz1 dp1 hs e3]
  have hstep:fj clV (sbV S) ((S.map (·.1)).take (i+1)) (dfN S sz dp)=nW clV (sbV S) (dfN S sz1 dp1) s.1:=by
   rw[cj hk]
   unfold fj at e4 ⊢
   rw[List.foldl_append,←e4];rfl
  refine TotX.go ⟨m-1,by omega,i+1,rfl,by omega,?_⟩
  rw[hstep]
  cases hq:sumC clV (FN S sz1 dp1) s.2 (0,0)with
  | none =>
   refine⟨e3,?_⟩
   rw[kq]
   intro ho
   exfalso
   obtain⟨v,hv⟩:=sumC_some clV (f:=FN S sz1 dp1) (l:=s.2) (a:=(0,0)) (λb hb c hc=>by
    unfold okD at ho
    rw[sb_at hP hs]at ho
    have:=List.all_eq_true.1 ho b hb
    rw[hc]at this
    exact Option.isSome_iff_exists.1 this)
   rw[hq]at hv;cases hv
  | some v =>
   have hbd:=fQ clV (f:=FN S sz1 dp1) (λn v h=>by have:=e3.bd hP hF h;omega) dN hq (by simp only;omega)
   simp only at hbd
   have hfn:∀n,FN S (sz1.set i v.2) (dp1.set i v.1) n=if n=s.1 then some v else FN S sz1 dp1 n:=by
    intro n
    unfold FN
    rw[ix_set hP hs e3.l1,ix_set hP hs e3.l2]
    by_cases hn:n=s.1
    ·rw[od hn,od hn,od hn]
     simp only
     rw[oc (by omega)]
    ·rw[oc hn,oc hn,oc hn]
   obtain⟨K,hK⟩:=meas_sum clV (sbV S) (n:=s.1) (v:=v) (f:=FN S sz1 dp1) (λb hb c hc=>by
    rw[sb_at hP hs]at hb
    obtain⟨x,hx⟩:=kB clV hq b hb c hc
    obtain⟨_,k,hk⟩:=e3.val _ _ hx
    exact⟨k,x,hk,hx⟩) (by rw[sb_at hP hs];exact hq)
   refine⟨⟨by simp[e3.l1],by simp[e3.l2],λn u hu=>?_⟩,?_⟩
   ·rw[hfn n]at hu
    split at hu
    ·rename_i hn
     cases hu;subst hn
     exact⟨List.mem_map.2 ⟨s,hm,rfl⟩,K,hK⟩
    ·exact e3.val n u hu
   ·funext n
    unfold dfN nW
    rw[hfn n]
    by_cases hn:n=s.1
    ·subst hn
     rw[od rfl]
     have ho:okD clV (sbV S) (dfN S sz1 dp1) s.1=true:=by
      unfold okD
      rw[sb_at hP hs,zO]
      intro b hb
      cases hc:clV b with
      | none=>rfl
      | some c =>
       obtain⟨x,hx⟩:=kB clV hq b hb c hc
       show (FN S sz1 dp1 c.1).isSome=true
       rw[hx];rfl
     have ho':okD clV (sbV S) (λn=>(FN S sz1 dp1 n).isSome) s.1=true:=ho
     simp[ho']
    ·rw[oc hn]
     have hb:(n==s.1)=false:=by simpa using hn
     simp[hb]
theorem fnd_no(hb:b∈M++S.flatMap (·.2))(hc:clV b=some c)(hn:c.1∉S.map (·.1)):¬Fnd M S:=λh=>hn (h b hb c hc)
theorem FN_neg(h:∀j,j<S.length→sz[j]? = some (-1))(hl:sz.length=S.length)(n:Int):FN S sz dp n=none:=by
 unfold FN
 by_cases hj:ixV S n<S.length
 ·rw[h _ hj]
  cases dp[ixV S n]?<;>rfl
 ·rw[List.getElem?_eq_none (by omega)]
theorem check_ok(hP:Prg M S):Tot (lD ⟨M,toR S⟩) (λr=>(r.2≠0∧BadV M S r.2)∨(r.2=0∧∃v,GoodV M S v)):=by
 have hl:=hP.len
 have hf:=hP.few
 have hall:=hP.okA
 (unfold lD;try delta jB jR rF lF jV)
 rw[r43_proper_ok hP,ae]
 simp only[zF,zD,oe]
 rw[blocks_ok hP,ae]
 refine Tot.bindX (E:=λ_=>¬errsV M S) (TotX.guard (aK (by omega)) (TotX.of (Tot.range (λi _=>∀b∈(M++S.flatMap (·.2)).take i,(eU b).2.2.2=0) _ (λb hb=>by simp at hb) (λi b u hx hv=>?_) (λu hv=>?_)))) (λu h1=>?_)
 ·have hm:=List.mem_of_getElem? hx
  rw[kH (hall b hm),ae]
  refine TotX.ite (λhe=>?_) (λhe=>?_)
  ·exact TotX.ret (.inl ⟨by simp,.inl ⟨⟨b,hm,by simpa using he⟩,rfl⟩⟩)
  ·refine TotX.go (λx hx2=>?_)
   rw[cj hx]at hx2
   rcases List.mem_append.1 hx2 with q | q
   ·exact hv x q
   ·simp at q;subst q;simpa using he
 ·rw[zB]at hv
  exact Tot.ok (λ⟨b,hb,he⟩=>he (hv b hb))
 ·refine Tot.bindX (E:=λ_=>Fnd M S) (TotX.guard (aK (by omega)) (TotX.of (Tot.range (λi _=>∀b∈(M++S.flatMap (·.2)).take i,∀c,clV b=some c→c.1∈S.map (·.1)) _ (λb hb=>by simp at hb) (λi b u hx hv=>?_) (λu hv=>?_)))) (λu h2=>?_)
  ·have hm:=List.mem_of_getElem? hx
   rw[kH (hall b hm),ae]
   refine TotX.bind (E:=λy=>y=true↔∃c,clV b=some c∧c.1∉S.map (·.1)) (Tot.ite (λhc=>?_) (λhc=>?_)) (λy hy=>TotX.ite (λhe=>?_) (λhe=>?_))
   ·have hcl:clV b=some ((eU b).1,(eU b).2.1):=by unfold clV;rw[od hc]
    rw[hcl]
    by_cases hk:(eU b).1∈S.map (·.1)
    ·obtain⟨j,s,_,_,hfd⟩:=find_in hP hk
     rw[hfd,ae,oi (by omega)]
     exact Tot.ok ⟨λq=>(by cases q),λ⟨c,q1,q2⟩=>by cases q1;exact absurd hk q2⟩
    ·rw[find_no hP hk,ae]
     exact Tot.ok ⟨λ_=>⟨_,rfl,hk⟩,λ_=>rfl⟩
   ·refine Tot.ok ⟨λq=>(by cases q),λ⟨c,q1,q2⟩=>?_⟩
    unfold clV at q1
    rw[oc (by simpa using hc)]at q1;cases q1
   ·obtain⟨c,q1,q2⟩:=hy.1 he
    exact TotX.ret (.inl ⟨by simp,.inr (.inl ⟨h1,fnd_no hm q1 q2,rfl⟩)⟩)
   ·refine TotX.go (λx hx2 c hc=>?_)
    rw[cj hx]at hx2
    rcases List.mem_append.1 hx2 with q | q
    ·exact hv x q c hc
    ·simp at q;subst q
     rcases Classical.em (c.1∈S.map (·.1))with z | z
     ·exact z
     ·have:=hy.2 ⟨c,hc,z⟩;rw[this]at he;cases he
  ·rw[zB]at hv
   exact Tot.ok hv
  ·simp only[lf,zG]
   refine Tot.guard (by simp) (Tot.guard (aQ (by omega)) (Tot.guard (by simp) (Tot.guard (aQ (by omega)) ?_)))
   refine Tot.bind (E:=λr=>r.length=S.length∧∀j,j<S.length→r[j]? = some (-1)) (Tot.loop (λm v=>∃i:Nat,v.1=(i:Int)∧i+m=S.length∧v.2.length=S.length∧∀j,j<i→v.2[j]? = some (-1)) _ S.length (bK (by omega)) ⟨0,rfl,by omega,by simp,λj hj=>by omega⟩ (λm v hv=>?_)) (λr0 hr0=>?_)
   ·obtain⟨i0,w⟩:=v
    obtain⟨i,e1,e2,e3,e4⟩:=hv
    simp only at e1 e3 e4
    subst e1
    refine TotX.ite (λhc=>?_) (λhc=>?_)
    ·simp only[oo]at hc
     obtain⟨x,x1,x2⟩:=gt_i (l:=w) (i:=i) (by omega)
     simp only
     rw[x1,ae,am (by omega) (by omega)]
     refine TotX.go ⟨m-1,by omega,i+1,by simp,by omega,by simpa using e3,λj hj=>?_⟩
     simp only[zG]
     rw[List.getElem?_set]
     by_cases hij:i=j
     ·rw[od hij,od (by omega)]
     ·rw[oc hij];exact e4 j (by omega)
    ·simp only[decide_eq_false_iff_not]at hc
     exact TotX.ret ⟨e3,λj hj=>e4 j (by omega)⟩
   ·obtain⟨r1,r2⟩:=hr0
    have hD0:dfN S r0 (zI S.length (0:Int))=λ_=>false:=by
     funext n
     unfold dfN
     rw[FN_neg r2 r1];rfl
    refine Tot.bind (E:=λr=>InvF S r.1 r.2∧kX clV (sbV S) (S.map (·.1)) (dfN S r.1 r.2)) (Tot.loop (λm v=>∃i:Nat,v.1=(i:Int)∧i+m=S.length∧InvF S v.2.1 v.2.2∧dfN S v.2.1 v.2.2=dit clV (sbV S) (S.map (·.1)) i (λ_=>false)) _ S.length (bK (by omega)) ⟨0,rfl,by omega,⟨r1,by simp,λn v hv=>by rw[FN_neg r2 r1]at hv;cases hv⟩,hD0⟩ (λm v hv=>?_)) (λr hr=>?_)
    ·obtain⟨i0,sz,dp⟩:=v
     obtain⟨i,e1,e2,e3,e4⟩:=hv
     simp only at e1 e3 e4
     subst e1
     refine TotX.ite (λhc=>?_) (λhc=>?_)
     ·simp only[oo]at hc
      refine TotX.bind (round_sz hP h2 e3 (λsz dp=>?_) (λj s sz dp hs hI=>?_)) (λr hr=>?_)
      ·simp only
       rw[oi (by omega)];rfl
      ·have hj:=ak hs
       have hm:=List.mem_of_getElem? hs
       have hsl:=flt_len hm
       rw[zA]at hl
       simp only
       rw[oh (by omega),od rfl,gt_at' (toR_of hs)]
       simp only[ae]
       rw[na hP h2 hI (by omega) (hP.okS s hm) (λb hb c hc=>h2 b (List.mem_append.2 (.inr (List.mem_flatMap.2 ⟨s,hm,hb⟩))) c hc),ae]
       obtain⟨x,x1,x2⟩:=gt_i (l:=sz) (i:=j) (by rw[hI.l1];exact hj)
       obtain⟨y,y1,y2⟩:=gt_i (l:=dp) (i:=j) (by rw[hI.l2];exact hj)
       rw[am (by omega) (by omega)]
       cases sumC clV (FN S sz dp) s.2 (0,0)with
       | none=>simp
       | some v=>simp[x1,y1]
      ·simp only
       rw[am (by omega) (by omega)]
       refine TotX.go ⟨m-1,by omega,i+1,by simp,by omega,hr.1,?_⟩
       rw[hr.2,e4];rfl
     ·simp only[decide_eq_false_iff_not]at hc
      have hi:i=(S.map (·.1)).length:=by simp;omega
      subst hi
      exact TotX.ret ⟨e3,by rw[e4];exact dit_closed clV (sbV S) _ _⟩
    ·obtain⟨hI,hcl⟩:=hr
     refine Tot.bindX (E:=λ_=>∀n∈S.map (·.1),(FN S r.1 r.2 n).isSome=true) (TotX.guard (aK (by rw[hI.l1];omega)) (TotX.of (Tot.range (λi _=>∀j s,j<i→S[j]? = some s→(FN S r.1 r.2 s.1).isSome=true) _ (λj s hj=>by omega) (λi x u hx hv=>?_) (λu hv=>?_)))) (λu h3=>?_)
     ·have hi:=ak hx
      rw[hI.l1]at hi
      obtain⟨s,hs⟩:∃s,S[i]? = some s:=⟨_,List.getElem?_eq_getElem hi⟩
      obtain⟨d,d1,d2⟩:=gt_i (l:=r.2) (i:=i) (by rw[hI.l2];exact hi)
      have hfn:FN S r.1 r.2 s.1=if x<0 then none else some (d,x):=by
       unfold FN
       rw[ix_at hP hs,hx,d2]
      rw[gt_at' hx,ae]
      refine TotX.ite (λhe=>?_) (λhe=>?_)
      ·have hx0:x<0:=by simpa using he
       refine TotX.ret (.inl ⟨by simp,.inr (.inr (.inl ⟨h1,h2,⟨s.1,List.mem_map.2 ⟨s,List.mem_of_getElem? hs,rfl⟩,λk=>?_⟩,rfl⟩))⟩)
       cases hk:meA S noA k s.1 with
       | none=>rfl
       | some v =>
        exfalso
        have:=closed_wf clV (sbV S) hcl h2.next (List.mem_map.2 ⟨s,List.mem_of_getElem? hs,rfl⟩) hk
        unfold dfN at this
        rw[hfn,od hx0]at this;cases this
      ·have hx0:¬x<0:=by simpa using he
       refine TotX.go (λj t hj ht=>?_)
       by_cases hji:j=i
       ·subst hji
        rw[hs]at ht;cases ht
        rw[hfn,oc hx0];rfl
       ·exact hv j t (by omega) ht
     ·refine Tot.ok (λn hn=>?_)
      obtain⟨s,hs,rfl⟩:=List.mem_map.1 hn
      obtain⟨j,hj⟩:=List.getElem?_of_mem hs
      exact hv j s (by rw[hI.l1];exact ak hj) hj
     ·have hcy:¬cycVB S:=λ⟨n,hn,hk⟩=>by
       obtain⟨v,hv⟩:=Option.isSome_iff_exists.1 (h3 n hn)
       obtain⟨_,k,hk2⟩:=hI.val n v hv
       rw[hk k]at hk2;cases hk2
      have hMc:∀b∈M,∀c,clV b=some c→c.1∈S.map (·.1):=λb hb c hc=>h2 b (List.mem_append.2 (.inl hb)) c hc
      rw[na hP h2 hI (by rw[zA]at hl;omega) hP.okM hMc,ae]
      obtain⟨v,hv⟩:=sumC_some clV (f:=FN S r.1 r.2) (l:=M) (a:=(0,0)) (λb hb c hc=>Option.isSome_iff_exists.1 (h3 c.1 (hMc b hb c hc)))
      obtain⟨K,hK⟩:=meas_all clV (sbV S) (l:=M) (f:=FN S r.1 r.2) (λb hb c hc=>by
       obtain⟨x,hx⟩:=Option.isSome_iff_exists.1 (h3 c.1 (hMc b hb c hc))
       obtain⟨_,k,hk⟩:=hI.val _ _ hx
       exact⟨k,x,hk,hx⟩)
      have htot:totV M S v:=⟨K,er clV hK hv⟩
      rw[hv]
      refine Tot.ite (λhc=>?_) (λhc=>?_)
      ·exact Tot.ok (.inl ⟨by simp,.inr (.inr (.inr ⟨h1,h2,hcy,⟨v,htot,by simpa using hc⟩,rfl⟩))⟩)
      ·exact Tot.ok (.inr ⟨rfl,v,h1,h2,hcy,htot,by simp at hc;omega⟩)
def KN(S:SubL)(kn:List Bool)(bd:List (List aa))(n:Int):Option (List aa):=match kn[ixV S n]?,bd[ixV S n]? with
 | some true,some x=>some x
 | _,_=>none
def dfK(S:SubL)(kn:List Bool)(bd:List (List aa)):Int→Bool:=λn=>(KN S kn bd n).isSome
def cnK(S:SubL)(kn:List Bool)(bd:List (List aa)):Nat:=((S.map (·.1)).filter (dfK S kn bd)).length
structure InvK (S:SubL) (kn:List Bool) (bd:List (List aa)):Prop where
 l1:kn.length=S.length
 l2:bd.length=S.length
 len:∀n x,KN S kn bd n=some x→x.length≤21000*cnK S kn bd
 ex:∀n x,KN S kn bd n=some x→∀k v,meA S noA k n=some v→v.2≤20000→expd clV (sbV S) k n=some x
variable {kn:List Bool}
theorem cnK_le(hP:Prg M S){bd:List (List aa)}:cnK S kn bd≤500:=by
 have:=zT (dfK S kn bd) (S.map (·.1))
 rw[zK]at this
 have:=hP.few
 unfold cnK;omega
def rstep(K:Int→Option (List aa))(acc:List aa)(b:aa):Option (List aa):=match clV b with
 | none=>some (acc++[b])
 | some c=>match K c.1 with
  | none=>none
  | some x=>some (repL c.2.toNat x acc)
theorem rstep_rep(K:Int→Option (List aa)):∀(l acc:List aa),l.foldlM (rstep K) acc=repC clV K l acc
 | [],acc=>rfl
 | b::r,acc=>by
  rw[List.foldlM_cons]
  have hs:repC clV K (b::r) acc=match clV b with
   | none=>repC clV K r (acc++[b])
   | some c=>match K c.1 with
    | none=>none
    | some x=>repC clV K r (repL c.2.toNat x acc):=by
   rw[repC]
   cases clV b with
   | none=>rfl
   | some c=>simp only;cases K c.1<;>rfl
  have hm:rstep K acc b=match clV b with
   | none=>some (acc++[b])
   | some c=>match K c.1 with
    | none=>none
    | some x=>some (repL c.2.toNat x acc):=rfl
  rw[hs,hm]
  cases clV b with
  | none=>exact rstep_rep K r _
  | some c =>
   simp only
   cases K c.1 with
   | none=>rfl
   | some x=>exact rstep_rep K r _
variable {x:List aa}{ε:Type}
theorem rep_loop{t:Int}{f:List aa×Int→Option (Ex (Ex ε (List aa)) (List aa×Int))}{b0:Nat}
  (hf:∀acc (n:Nat),acc.length≤b0→f (acc,(n:Int))=if ((n:Int)<t∧0<x.length)∧acc.length≤20000 then some (.go (acc++x,((n+1:Nat):Int)))else some (.ret (.go acc))) (hx:20000+x.length≤b0) :
  ∀(k n m:Nat) (acc:List aa),(n:Int)+k=t→k<m→acc.length≤b0→bt f m (acc,(n:Int))=some (.go (repL k x acc)):=by
 intro k
 induction k with
 | zero =>
  intro n m acc hn hm ha
  obtain⟨m,rfl⟩:∃q,m=q+1:=⟨m-1,by omega⟩
  rw[bt,hf acc n ha,oc (by omega)]
  rfl
 | succ k ih =>
  intro n m acc hn hm ha
  obtain⟨m,rfl⟩:∃q,m=q+1:=⟨m-1,by omega⟩
  rw[bt,hf acc n ha]
  unfold repL
  by_cases hc:0<x.length∧acc.length≤20000
  ·rw[od ⟨⟨by omega,hc.1⟩,hc.2⟩,od hc]
   exact ih (n+1) m (acc++x) (by omega) (by omega) (by rw[zA];omega)
  ·rw[oc (λq=>hc ⟨q.1.2,q.2⟩),oc hc]
theorem rep_len{K:Int→Option (List aa)}{m:Nat}(hK:∀n x,K n=some x→x.length≤m){acc v:List aa}(ha:acc.length≤20000+m+i)(h:rstep K acc b=some v):v.length≤20000+m+(i+1):=by
 unfold rstep at h
 cases hc:clV b with
 | none=>rw[hc]at h;cases h;simp;omega
 | some c =>
  rw[hc]at h
  simp only at h
  cases hq:K c.1 with
  | none=>rw[hq]at h;cases h
  | some x =>
   rw[hq]at h;cases h
   have h1:=hK _ _ hq
   have h2:=repL_len (k:=c.2.toNat) (x:=x) (acc:=acc)
   omega
theorem replaced_eq   (hP : Prg M S) {l:List aa}  {bd:List (List aa)} (hI : InvK S kn bd) (hl : l.length ≤ 1000) (hok : ∀ b ∈ l, okBB b) (hc : ∀ b ∈ l, ∀ c, clV b = some c → c.1 ∈ S.map (·.1)) :
    (bindX (av (be l) (
                                  az (λ(i1:Nat) (e3:aa) (v3:(List aa)) =>
                                    bindX (ah (gi e3) λ(y2 : Int × Int × Bool × Int) =>
                                        if (!y2.2.2.1)=true then
                                          av (bo (v3.length+1)) (
                                          some (.go (v3++[e3])))
                                        else
                                          ah (dl ⟨M,toR S⟩ y2.1) λ(y3:Int) =>
                                          ah (gt kn y3) λ(e4:Bool) =>
                                          if (!e4)=true then
                                            some (.ret (.ret (.ret ([],false))))
                                          else
                                            bt (λ(v4:(List aa)×Int) =>
                                              ah (if (decide (v4.2 < y2.2.1)) = true then
                                                    ah (gt bd y3) λ(e5:(List aa)) =>
                                                    if (decide ((e5.length:Int)>0))=true then
                                                      some (decide ((v4.1.length:Int)≤20000))
                                                    else
                                                      some false
                                                  else
                                                    some false) λ(v5:Bool) =>
                                              if v5=true then
                                                ah (gt bd y3) λ(e6:(List aa)) =>
                                                av (bo (v4.1.length+e6.length)) (
                                                some (.go (v4.1++e6,IntKind.i64.wrap (v4.2+1))))
                                              else
                                                some (.ret (.go v4.1))) fuel (v3,0)) λ(v6:(List aa)) =>
                                    some (.go v6)) (λ(v3:(List aa))=>some (.go v3)) l 0 [])) λ(v7:(List aa)) =>
                              some (v7,true))=some (match repC clV (KN S kn bd) l []with | some x=>(x,true) | none=>([],false)):=by
  have hcn:=cnK_le hP (kn:=kn) (bd:=bd)
  rw[aK (by omega),aN,nC (L:=l) (r:=Ex.ret ([],false)) (rstep (KN S kn bd)) (λi u=>u.length≤20000+21000*cnK S kn bd+i) ?_ l 0 [] rfl (by simp)]
  · rw[rstep_rep]
    cases repC clV (KN S kn bd) l []<;>rfl
  · intro i b u hx hu
    have hm:=List.mem_of_getElem? hx
    have hi:=ak hx
    have hlen:=λv (hv:rstep (KN S kn bd) u b=some v)=>rep_len hI.len (i:=i) hu hv
    rw[kH (hok b hm),ae]
    cases hcl:clV b with
    | none =>
      left
      have hr:rstep (KN S kn bd) u b=some (u++[b]):=by unfold rstep;rw[hcl]
      simp only[clV_no hcl,zH,og]
      rw[aQ (by omega),aN]
      exact⟨_,hr,rfl,hlen _ hr⟩
    | some c =>
      obtain⟨e1,e2,e3⟩:=clV_up hcl
      obtain⟨j,s,hs,hsn,hfd⟩:=find_in hP (hc b hm c hcl)
      have hj:=ak hs
      obtain⟨z,z1,z2⟩:=gt_i (l:=kn) (i:=j) (by rw[hI.l1];exact hj)
      obtain⟨x,d1,d2⟩:=gt_i (l:=bd) (i:=j) (by rw[hI.l2];exact hj)
      have hk:KN S kn bd c.1=if z=true then some x else none:=by
        unfold KN
        rw[←hsn,ix_at hP hs,z2,d2]
        cases z<;>rfl
      simp only[e1,zF,zD,oe,hfd,ae,z1]
      cases z with
      | false =>
        right
        refine⟨?_,rfl⟩
        unfold rstep
        rw[hcl]
        simp only
        rw[hk];rfl
      | true =>
        left
        rw[od rfl]at hk
        have hxl:=hI.len _ _ hk
        have hr:rstep (KN S kn bd) u b=some (repL c.2.toNat x u):=by
          unfold rstep
          rw[hcl]
          simp only
          rw[hk]
        refine⟨_,hr,?_,hlen _ hr⟩
        simp only[zF,zD,oe]
        rw[show ((u,(0:Int)):List aa×Int)=(u,((0:Nat):Int)) from rfl,rep_loop (x:=x) (t:=c.2) (b0:=20000+21000*cnK S kn bd+1000) ?_ (by omega) c.2.toNat 0 fuel u (by omega) (bK (by omega)) (by omega)]
        · rfl
        · intro acc n ha
          simp only[d1,ae]
          by_cases h1:(n:Int)<c.2
          · rw[oh h1,od rfl]
            by_cases h2:0<x.length
            · rw[oh (show (x.length:Int)>0 by omega),od rfl,ae]
              by_cases h3:acc.length≤20000
              · rw[oh (show (acc.length:Int)≤20000 by omega),od rfl,od ⟨⟨h1,h2⟩,h3⟩,aQ (by omega),aN,am (by omega) (by omega)]
                congr 1
              · rw[oi (show ¬(acc.length:Int)≤20000 by omega),oc (by simp),oc (λq=>h3 q.2)]
            · rw[oi (show ¬(x.length:Int)>0 by omega),oc (by simp),ae,oc (by simp),oc (λq=>h2 q.1.2)]
          · rw[oi h1,oc (by simp),ae,oc (by simp),oc (λq=>h1 q.1.1)]
abbrev xD(S:SubL)(k:Nat)(n:Int):Option (List aa):=expd clV (sbV S) k n
theorem mA_bd{k:Nat}:∀n v,meA S noA k n=some v→0≤v.1∧0≤v.2∧v.2≤20001:=λn v h=>jJ clV (sbV S) dN h
theorem kn_yes   (hP : Prg M S)  {bd:List (List aa)} (hI : InvK S kn bd)  {s:Int × List aa} (hs : S[i]? = some s) (hk : kn[i]? = some false)  (hx : repC clV (KN S kn bd) s.2 [] = some x) :
    InvK S (kn.set i true) (bd.set i x)∧dfK S (kn.set i true) (bd.set i x)=nW clV (sbV S) (dfK S kn bd) s.1:=by
  have hm:=List.mem_of_getElem? hs
  have hl:=hP.len
  rw[zA]at hl
  have hsl:=flt_len hm
  have hkey:s.1∈S.map (·.1):=List.mem_map.2 ⟨s,hm,rfl⟩
  have hkn:∀n,KN S (kn.set i true) (bd.set i x) n=if n=s.1 then some x else KN S kn bd n:=by
    intro n
    unfold KN
    rw[ix_set hP hs hI.l1,ix_set hP hs hI.l2]
    by_cases hn:n=s.1
    · rw[od hn,od hn,od hn]
    · rw[oc hn,oc hn,oc hn]
  have h0:KN S kn bd s.1=none:=by
    unfold KN
    rw[ix_at hP hs,hk]
  have hcn:cnK S kn bd<cnK S (kn.set i true) (bd.set i x):=by
    refine flt_lt (D:=dfK S kn bd) (E:=dfK S (kn.set i true) (bd.set i x)) (λn hn=>?_) hkey (by unfold dfK;rw[hkn,od rfl];rfl) (by unfold dfK;rw[h0];rfl)
    unfold dfK at hn ⊢
    rw[hkn]
    split
    · rfl
    · exact hn
  refine⟨⟨by simp[hI.l1],by simp[hI.l2],λn y hy=>?_,λn y hy k v hkv hv=>?_⟩,?_⟩
  · rw[hkn]at hy
    split at hy
    · cases hy
      have:=repC_len clV hI.len hx
      simp only[zL]at this
      have h2:21000*(cnK S kn bd+1)≤21000*cnK S (kn.set i true) (bd.set i x):=zV _ hcn
      omega
    · have:=hI.len n y hy
      have h2:21000*(cnK S kn bd+1)≤21000*cnK S (kn.set i true) (bd.set i x):=zV _ hcn
      omega
  · rw[hkn]at hy
    split at hy
    · rename_i hn
      cases hy;subst hn
      obtain⟨w,hw1,hw2⟩:=jA clV (sbV S) dN hkv hv
      rw[hw1]
      cases k with
      | zero=>cases hkv
      | succ k =>
        unfold meA ce at hkv
        rw[oc (by simp[noA]),sb_at hP hs]at hkv
        unfold expd at hw1
        rw[sb_at hP hs]at hw1
        have:=repC_eq clV dN (f:=ce clV (sbV S) noA k) (g:=KN S kn bd) (e:=expd clV (sbV S) k) mA_bd (λb hb c u hc hu hu2=>by
          obtain⟨y,hy⟩:=(jT clV).2 ⟨x,hx⟩ b hb c hc
          have h3:=hI.ex _ _ hy k u hu hu2
          obtain⟨l,h4,h5⟩:=jA clV (sbV S) dN hu hu2
          rw[h3]at h4;cases h4
          exact⟨y,hy,h3,h5⟩) hkv (by simp) hv hx hw1
        rw[this];simp
    · exact hI.ex n y hy k v hkv hv
  · funext n
    unfold dfK nW
    rw[hkn]
    by_cases hn:n=s.1
    · subst hn
      rw[od rfl]
      have ho:okD clV (sbV S) (λn=>(KN S kn bd n).isSome) s.1=true:=by
        unfold okD
        rw[sb_at hP hs,zO]
        intro b hb
        cases hc:clV b with
        | none=>rfl
        | some c =>
          obtain⟨y,hy⟩:=(jT clV).2 ⟨x,hx⟩ b hb c hc
          show (KN S kn bd c.1).isSome=true
          rw[hy];rfl
      simp[ho]
    · rw[oc hn]
      have hb:(n==s.1)=false:=by simpa using hn
      simp[hb]
theorem kn_no(hP:Prg M S){bd:List (List aa)}(hI:InvK S kn bd)(hs:S[i]? = some s)(hk:kn[i]? = some false)(hx:repC clV (KN S kn bd) s.2 []=none) :
  InvK S (kn.set i false) (bd.set i [])∧dfK S (kn.set i false) (bd.set i [])=nW clV (sbV S) (dfK S kn bd) s.1:=by
 have h0:KN S kn bd s.1=none:=by
  unfold KN
  rw[ix_at hP hs,hk]
 have hkn:KN S (kn.set i false) (bd.set i [])=KN S kn bd:=by
  funext n
  by_cases hn:n=s.1
  ·subst hn
   rw[h0]
   unfold KN
   rw[ix_set hP hs hI.l1,ix_set hP hs hI.l2,od rfl,od rfl]
  ·unfold KN
   rw[ix_set hP hs hI.l1,ix_set hP hs hI.l2,oc hn,oc hn]
 have hd:dfK S (kn.set i false) (bd.set i [])=dfK S kn bd:=by unfold dfK;rw[hkn]
 have hc:cnK S (kn.set i false) (bd.set i [])=cnK S kn bd:=by unfold cnK;rw[hd]
 refine⟨⟨by simp[hI.l1],by simp[hI.l2],by rw[hkn,hc];exact hI.len,by rw[hkn];exact hI.ex⟩,?_⟩
 rw[hd,kq]
 intro ho
 exfalso
 obtain⟨v,hv⟩:=(jT clV (g:=KN S kn bd) (l:=s.2) (acc:=[])).1 (λb hb c hc=>by
  unfold okD at ho
  rw[sb_at hP hs]at ho
  have:=List.all_eq_true.1 ho b hb
  rw[hc]at this
  exact Option.isSome_iff_exists.1 this)
 rw[hx]at hv;cases hv
theorem round_kn(hP:Prg M S){kn:List Bool}{bd:List (List aa)}(hI:InvK S kn bd){f:Int×List Bool×List (List aa)→Option (Ex (List Bool×List (List aa)) (Int×List Bool×List (List aa)))}
  (h0:∀kn bd,f ((S.length:Int),kn,bd)=some (.ret (kn,bd)))
  (h1:∀(i:Nat) s kn bd e,S[i]? = some s→kn[i]? = some e→InvK S kn bd→f ((i:Int),kn,bd)=some (.go (((i+1:Nat):Int),(if e=true then (kn,bd)else match repC clV (KN S kn bd) s.2 []with | some x=>(kn.set i true,bd.set i x) | none=>(kn.set i false,bd.set i []))))) :
  Tot (bt f fuel (0,kn,bd)) (λr=>InvK S r.1 r.2∧dfK S r.1 r.2=fj clV (sbV S) (S.map (·.1)) (dfK S kn bd)):=by
 have hf:=hP.few
 refine Tot.loop (λm v=>∃i:Nat,v.1=(i:Int)∧i+m=S.length∧InvK S v.2.1 v.2.2∧dfK S v.2.1 v.2.2=fj clV (sbV S) ((S.map (·.1)).take i) (dfK S kn bd)) _ S.length (bK (by omega)) ⟨0,rfl,by omega,hI,by simp[fj]⟩ (λm v hv=>?_)
 obtain⟨i0,kn1,bd1⟩:=v
 obtain⟨i,e1,e2,e3,e4⟩:=hv
 simp only at e1 e2 e3 e4
 subst e1
 by_cases hi:i=S.length
 ·subst hi
  rw[h0]
  rw[show S.length=(S.map (·.1)).length by simp,zB]at e4
  exact TotX.ret ⟨e3,e4⟩
 ·have hlt:i<S.length:=by omega
  obtain⟨s,hs⟩:∃s,S[i]? = some s:=⟨_,List.getElem?_eq_getElem hlt⟩
  obtain⟨e,he⟩:∃e,kn1[i]? = some e:=⟨_,List.getElem?_eq_getElem (by rw[e3.l1];exact hlt)⟩
  obtain⟨x,hx⟩:∃x,bd1[i]? = some x:=⟨_,List.getElem?_eq_getElem (by rw[e3.l2];exact hlt)⟩
  have hk:(S.map (·.1))[i]? = some s.1:=by rw[List.getElem?_map,hs];rfl
  rw[h1 i s kn1 bd1 e hs he e3]
  have hstep:fj clV (sbV S) ((S.map (·.1)).take (i+1)) (dfK S kn bd)=nW clV (sbV S) (dfK S kn1 bd1) s.1:=by
   rw[cj hk]
   unfold fj at e4 ⊢
   rw[List.foldl_append,←e4];rfl
  refine TotX.go ⟨m-1,by omega,i+1,rfl,by omega,?_⟩
  rw[hstep]
  cases e with
  | true =>
   refine⟨e3,?_⟩
   rw[kq]
   ·rfl
   ·intro _
    unfold dfK KN
    rw[ix_at hP hs,he,hx];rfl
  | false =>
   cases hq:repC clV (KN S kn1 bd1) s.2 []with
   | some y=>exact kn_yes hP e3 hs he hq
   | none=>exact kn_no hP e3 hs he hq
def ExpV(M:List aa)(S:SubL)(r:List aa):Prop:=∃v K,GoodV M S v∧sumC clV (meA S noA K) M (0,0)=some v∧expC clV (xD S K) M=some r
variable {r:List aa}
theorem ExpV.one{q:List aa}(h1:ExpV M S r)(h2:ExpV M S q):r=q:=by
 obtain⟨v,j,_,_,a⟩:=h1
 obtain⟨u,k,_,_,b⟩:=h2
 rcases Nat.le_total j k with z | z
 ·have:=l4 clV (λb _ c x _ hx=>expd_le clV (sbV S) z hx) a
  rw[b]at this;exact (Option.some.inj this).symm
 ·have:=l4 clV (λb _ c x _ hx=>expd_le clV (sbV S) z hx) b
  rw[a]at this;exact Option.some.inj this
theorem KN_neg{bd:List (List aa)}(h:∀b∈kn,b=false)(n:Int):KN S kn bd n=none:=by
 unfold KN
 cases hk:kn[ixV S n]? with
 | none=>rfl
 | some b=>rw[h b (List.mem_of_getElem? hk)]
theorem rExpand_ok(hP:Prg M S):Tot (j8 ⟨M,toR S⟩) (λr=>(r.2≠0∧r.1=[]∧BadV M S r.2)∨(r.2=0∧ExpV M S r.1)):=by
  have hl:=hP.len
  have hf:=hP.few
  (unfold j8;try delta jB jR rF lF gF iF)
  refine Tot.bind (check_ok hP) (λy hy=>Tot.ite (λhc=>?_) (λhc=>?_))
  · have hy0:y.2≠0:=by simpa using hc
    rcases hy with⟨_,hb⟩|⟨h0,_⟩
    · exact Tot.ok (.inl ⟨hy0,rfl,hb⟩)
    · exact absurd h0 hy0
  · have hy0:y.2=0:=by simpa using hc
    obtain⟨v,hG⟩:∃v,GoodV M S v:=by
      rcases hy with⟨h0,_⟩|⟨_,h⟩
      · exact absurd hy0 h0
      · exact h
    obtain⟨g1,g2,g3,⟨K,g4⟩,g5,g6⟩:=id hG
    simp only[lf,zG]
    refine Tot.guard (by simp) (Tot.guard (aQ (by omega)) (Tot.guard (by simp) (Tot.guard (aQ (by omega)) ?_)))
    have hn0:∀n,KN S (zI S.length (false:Bool)) (zI S.length ([]:List aa)) n=none:=KN_neg (λb hb=>zP hb)
    refine Tot.bind (E:=λr=>InvK S r.1 r.2∧kX clV (sbV S) (S.map (·.1)) (dfK S r.1 r.2)) (Tot.loop (λm v=>∃i:Nat,v.1=(i:Int)∧i+m=S.length∧InvK S v.2.1 v.2.2∧dfK S v.2.1 v.2.2=dit clV (sbV S) (S.map (·.1)) i (λ_=>false)) _ S.length (bK (by omega)) ⟨0,rfl,by omega,⟨by simp,by simp,λn x hx=>(by rw[hn0]at hx;cases hx),λn x hx=>(by rw[hn0]at hx;cases hx)⟩,by funext n;unfold dfK;rw[hn0];rfl⟩ (λm v hv=>?_)) (λr hr=>?_)
    · obtain⟨i0,kn,bd⟩:=v
      obtain⟨i,e1,e2,e3,e4⟩:=hv
      simp only at e1 e3 e4
      subst e1
      refine TotX.ite (λhc=>?_) (λhc=>?_)
      · simp only[oo]at hc
        refine TotX.bind (round_kn hP e3 (λkn bd=>?_) (λj s kn bd e hs he hI=>?_)) (λr hr=>?_)
        · simp only
          rw[oi (by omega)];rfl
        · have hj:=ak hs
          have hm:=List.mem_of_getElem? hs
          have hsl:=flt_len hm
          rw[zA]at hl
          simp only
          rw[oh (by omega),od rfl,gt_at' he,am (by omega) (by omega)]
          simp only[ae]
          cases e with
          | true=>rfl
          | false =>
            simp only[zH,og]
            rw[gt_at' (toR_of hs)]
            simp only[ae]
            have hrep:=replaced_eq hP hI (l:=s.2) (by omega) (hP.okS s hm) (λb hb c hc=>g2 b (List.mem_append.2 (.inr (List.mem_flatMap.2 ⟨s,hm,hb⟩))) c hc)
            rw[hrep,ae]
            obtain⟨y,y1,y2⟩:=gt_i (l:=bd) (i:=j) (by rw[hI.l2];exact hj)
            rw[y1,ae]
            cases repC clV (KN S kn bd) s.2 []with
            | none=>simp
            | some v=>simp
        · simp only
          rw[am (by omega) (by omega)]
          refine TotX.go ⟨m-1,by omega,i+1,by simp,by omega,hr.1,?_⟩
          rw[hr.2,e4];rfl
      · simp only[decide_eq_false_iff_not]at hc
        have hi:i=(S.map (·.1)).length:=by simp;omega
        subst hi
        exact TotX.ret ⟨e3,by rw[e4];exact dit_closed clV (sbV S) _ _⟩
    · obtain⟨hI,hcl⟩:=hr
      have hall:∀n∈S.map (·.1),∃x,KN S r.1 r.2 n=some x:=by
        intro n hn
        obtain⟨k,hk⟩:=Classical.not_forall.1 (λh=>g3 ⟨n,hn,h⟩)
        obtain⟨u,hu⟩:=Option.ne_none_iff_exists'.1 hk
        exact Option.isSome_iff_exists.1 (closed_wf clV (sbV S) hcl g2.next hn hu)
      have hMc:∀b∈M,∀c,clV b=some c→c.1∈S.map (·.1):=λb hb c hc=>g2 b (List.mem_append.2 (.inl hb)) c hc
      have hrep:=replaced_eq hP hI (l:=M) (by rw[zA]at hl;omega) hP.okM hMc
      rw[hrep,ae]
      obtain⟨out,ho⟩:=(jT clV (g:=KN S r.1 r.2) (l:=M) (acc:=[])).1 (λb hb c hc=>hall _ (hMc b hb c hc))
      obtain⟨w,hw1,hw2⟩:=mH clV dN (f:=ce clV (sbV S) noA K) (g:=expd clV (sbV S) K) (λn v h=>by
        obtain⟨a,b,c⟩:=jJ clV (sbV S) dN h
        exact⟨a,b,c,jA clV (sbV S) dN h⟩) g4 (by simp) g6
      have:=repC_eq clV dN (f:=ce clV (sbV S) noA K) (g:=KN S r.1 r.2) (e:=expd clV (sbV S) K) mA_bd (λb hb c u hc hu hu2=>by
        obtain⟨y,hy⟩:=hall c.1 (hMc b hb c hc)
        have h3:=hI.ex _ _ hy K u hu hu2
        obtain⟨l,h4,h5⟩:=jA clV (sbV S) dN hu hu2
        rw[h3]at h4;cases h4
        exact⟨y,hy,h3,h5⟩) g4 (by simp) g6 ho hw1
      rw[List.nil_append]at this
      subst this
      rw[ho]
      exact Tot.ok (.inr ⟨rfl,v,K,hG,g4,hw1⟩)
def InvE(S:SubL)(done:List (Int×List aa)):Prop:=∀n x,mget done n=some x→∃k,xD S k n=some x
theorem app_loop{t:Int}{g:List aa→ε}{f:List aa×Int→Option (Ex ε (List aa×Int))}
  (hf:∀acc (n:Nat),f (acc,(n:Int))=if (n:Int)<t then (if acc.length+x.length≤20000∧n≤20000 then some (.go (acc++x,((n+1:Nat):Int)))else f (acc,(n:Int)))else some (.ret (g acc))) :
  ∀(k n m:Nat) (acc:List aa),(n:Int)+k=t→n+k≤20000→k<m→acc.length+k*x.length≤20000→bt f m (acc,(n:Int))=some (g (acc++(zI k x).flatten)):=by
 intro k
 induction k with
 | zero =>
  intro n m acc hn _ hm _
  obtain⟨m,rfl⟩:∃q,m=q+1:=⟨m-1,by omega⟩
  rw[bt,hf acc n,oc (by omega)]
  simp
 | succ k ih =>
  intro n m acc hn hnk hm ha
  obtain⟨m,rfl⟩:∃q,m=q+1:=⟨m-1,by omega⟩
  rw[Nat.add_mul,Nat.one_mul]at ha
  rw[bt,hf acc n,od (by omega),od ⟨by omega,by omega⟩]
  simp only
  rw[ih (n+1) m (acc++x) (by omega) (by omega) (by omega) (by rw[zA];omega),List.replicate_succ,zY,zZ]
theorem exp_tot   (hP : Prg M S) (hF : Fnd M S)  (hsub : ∀ n, (mget subs n).getD [] = sbV S n) :
    ∀(k fuel:Nat),k<fuel→∀(l:List aa) (done:List (Int×List aa)) (v:Int×Int),(∀b∈l,okBB b)→l.length≤1000→(∀b∈l,∀c,clV b=some c→c.1∈S.map (·.1))→sumC clV (meA S noA k) l (0,0)=some v→v.2≤20000→InvE S done →
      Tot (bz fuel l subs done) (λr=>expC clV (xD S k) l=some r.1∧InvE S r.2):=by
  intro k
  induction k using Nat.strongRecOn with
  | _ k ih =>
    intro fuel hf l done v hok hl hc hs hv hE
    obtain⟨fuel,rfl⟩:∃q,fuel=q+1:=⟨fuel-1,by omega⟩
    unfold bz cb
    have hfg:∀n v,meA S noA k n=some v→0≤v.1∧0≤v.2∧v.2≤20001∧(v.2≤20000→∃l,xD S k n=some l∧(l.length:Int)=v.2):=λn v h=>by
      obtain⟨a,b,c⟩:=mA_bd n v h
      exact⟨a,b,c,jA clV (sbV S) dN h⟩
    refine Tot.bind (E:=λw=>expC clV (xD S k) l=some w.1∧InvE S w.2) (Tot.guard (aK (by omega)) (Tot.range (λi w=>expC clV (xD S k) (l.take i)=some w.1∧InvE S w.2) _ ⟨rfl,hE⟩ (λi b w hx hw=>?_) (λw hw=>?_))) (λw hw=>Tot.ok hw)
    · obtain⟨w1,w2⟩:=hw
      have hm:=List.mem_of_getElem? hx
      have htk:=cj hx
      -- how long the expansion is so far
      obtain⟨u,u1,u2⟩:=sumC_app clV (l:=l.take (i+1)) (m:=l.drop (i+1)) (by rw[zE];exact hs)
      have hge:=fQ clV (f:=meA S noA k) mA_bd dN u2 (by
        have:=fQ clV (f:=meA S noA k) mA_bd dN u1 (by simp)
        exact this.2.2)
      obtain⟨r,r1,r2⟩:=mH clV dN hfg u1 (by simp) (by omega)
      have hrl:r.length≤20000:=by simp only at r2;omega
      refine TotX.bind (E:=λz=>expC clV (xD S k) (l.take (i+1))=some z.1∧InvE S z.2) ?_ (λz hz=>TotX.go hz)
      rw[mj (hok b hm),ae]
      cases hcl:clV b with
      | none =>
        have hb1:expC clV (xD S k) [b]=some [b]:=by simp only[expC,hcl,Option.map_some]
        have happ:=expC_app clV w1 hb1
        rw[←htk,r1]at happ
        have hre:r=w.1++[b]:=Option.some.inj happ
        simp only[clV_no hcl,zH,og]
        rw[aQ (by rw[hre]at hrl;simp at hrl;omega),aN]
        exact⟨_,rfl,by rw[r1,hre],w2⟩
      | some c =>
        obtain⟨e1,e2,e3⟩:=clV_up hcl
        obtain⟨x',hx'⟩:=kB clV hs b hm c hcl
        have hx2:=sumC_part clV dN mA_bd hs (by simp) (by simp) hv b hm c x' hcl hx'
        obtain⟨x,hxd,hxl⟩:=jA clV (sbV S) dN hx' hx2
        have hb1:expC clV (xD S k) [b]=some ((zI c.2.toNat x).flatten++[]):=by
          have:xD S k c.1=some x:=hxd
          simp only[expC,hcl,this,Option.map_some]
        rw[List.append_nil]at hb1
        have happ:=expC_app clV w1 hb1
        rw[←htk,r1]at happ
        have hre:r=w.1++(zI c.2.toNat x).flatten:=Option.some.inj happ
        simp only[e1,zF,zD,oe,d5]
        refine Tot.bind (E:=λz=>z.1=x∧InvE S z.2) (Tot.ite (λhd=>?_) (λhd=>?_)) (λz hz=>?_)
        · rw[hsub c.1]
          cases k with
          | zero=>cases hx'
          | succ k =>
            unfold meA ce at hx'
            rw[oc (by simp[noA])]at hx'
            refine Tot.bind (ih k (by omega) fuel (by omega) (sbV S c.1) w.2 x' hP.okN hP.lenN (λb hb d hd=>hF.next c.1 (hc _ hm c hcl) b hb d hd) hx' hx2 w2) (λq hq=>?_)
            obtain⟨q1,q2⟩:=hq
            have hqx:q.1=x:=by
              have h1:xD S (k+1) c.1=some q.1:=q1
              have h2:xD S (k+1) c.1=some x:=hxd
              rw[h1]at h2;exact Option.some.inj h2
            refine Tot.ok ⟨hqx,λn y hy=>?_⟩
            simp only at hy
            rw[kJ]at hy
            split at hy
            · rename_i hn
              cases hy
              rw[eq_of_beq hn,hqx]
              exact⟨k+1,hxd⟩
            · exact q2 n y hy
        · have hd':(mget w.2 c.1).isSome=true:=by simpa using hd
          obtain⟨y,hy⟩:=Option.isSome_iff_exists.1 hd'
          obtain⟨k2,hk2⟩:=w2 c.1 y hy
          refine Tot.ok ⟨?_,w2⟩
          rw[hy]
          exact expd_one clV (sbV S) hk2 hxd
        · obtain⟨z1,z2⟩:=hz
          rw[z1]
          refine Tot.ite (λh0=>?_) (λh0=>?_)
          · have:x=[]:=List.eq_nil_of_length_eq_zero (by simpa using h0)
            subst this
            refine Tot.ok ⟨?_,z2⟩
            rw[r1,hre];simp
          · have hlen : w.1.length + c.2.toNat * x.length ≤ 20000 := by
              rw[hre,zA]at hrl
              simpa [List.length_flatten,List.map_replicate,List.sum_replicate_nat] using hrl
            have h0':0<x.length:=by
              simp only[beq_eq_false_iff_ne,ne_eq]at h0;omega
            rw[show ((w.1,(0:Int)):List aa×Int)=(w.1,((0:Nat):Int)) from rfl,app_loop (x:=x) (t:=c.2) (g:=λacc=>(acc,z.2)) ?_ c.2.toNat 0 _ w.1 (by omega) (by omega) (bK (by omega)) hlen]
            · exact Tot.ok ⟨by rw[r1,hre],z2⟩
            · intro acc n
              simp only
              by_cases h1:(n:Int)<c.2
              · rw[od h1]
                by_cases h2:acc.length+x.length≤20000∧n≤20000
                · rw[od h2,oh h1,od rfl,aQ (by omega),aN,am (by omega) (by omega)]
                  congr 1
                · rw[oc h2]
              · rw[oc h1,oi h1,oc (by simp)]
    · rw[zB]at hw
      exact Tot.ok hw
theorem mI{P:aa→Prop}{f:Int→Option (List aa)}(hf:∀n x,f n=some x→∀b∈x,P b):∀{l r:List aa},(∀b∈l,P b)→expC clV f l=some r→∀b∈r,P b
 | [],r,_,h=>by cases h;intro b hb;cases hb
 | d::l,r,hl,h=>by
  unfold expC at h
  cases hc:clV d with
  | none =>
   rw[hc]at h
   obtain⟨x,h1,h2⟩:=Option.map_eq_some_iff.1 h
   subst h2
   intro b hb
   rcases List.mem_cons.1 hb with rfl | hb
   ·exact hl _ (by simp)
   ·exact mI hf (λb hb=>hl b (by simp[hb])) h1 b hb
  | some c =>
   rw[hc]at h
   cases hq:f c.1 with
   | none=>simp only[hq]at h;cases h
   | some y =>
    simp only[hq]at h
    obtain⟨x,h1,h2⟩:=Option.map_eq_some_iff.1 h
    subst h2
    intro b hb
    rcases List.mem_append.1 hb with hb | hb
    ·obtain⟨z,hz,hb⟩:=List.mem_flatten.1 hb
     rw[zP hz]at hb
     exact hf _ _ hq b hb
    ·exact mI hf (λb hb=>hl b (by simp[hb])) h1 b hb
theorem xD_all{M:List aa}{S:SubL}(hP:Prg M S):∀(k:Nat) (n:Int) (x:List aa),xD S k n=some x→∀b∈x,okBB b
 | 0,n,x,h=>by cases h
 | k+1,n,x,h=>mI (λn x h=>xD_all hP k n x h) hP.okN h
theorem ExpV.ok(hP:Prg M S)(h:ExpV M S r):r.length≤20000∧∀b∈r,okBB b:=by
 obtain⟨v,K,hG,h1,h2⟩:=h
 obtain⟨w,hw1,hw2⟩:=mH clV dN (f:=ce clV (sbV S) noA K) (g:=expd clV (sbV S) K) (λn v h=>by
  obtain⟨a,b,c⟩:=jJ clV (sbV S) dN h
  exact⟨a,b,c,jA clV (sbV S) dN h⟩) h1 (by simp) hG.2.2.2.2.2
 have:xD S K=expd clV (sbV S) K:=rfl
 rw[this,hw1]at h2;cases h2
 have:=hG.2.2.2.2.2
 refine⟨by simp only at hw2;omega,mI (λn x h=>xD_all hP K n x h) hP.okM hw1⟩
theorem sExpand_ok(hP:Prg M S):Tot (lq ⟨M,toP S⟩) (λr=>(r.2≠0∧r.1=[]∧BadV M S r.2)∨(r.2=0∧ExpV M S r.1)):=by
 have hl:=hP.len
 rw[zA]at hl
 (unfold lq;try delta jB rF gF)
 refine Tot.bind (checked_ok hP) (λy hy=>?_)
 cases y with
 | inl e =>
  obtain⟨h1,h2⟩:=hy
  simp only[Sum.elim_inl]
  rw[od (by simpa using h1)]
  exact Tot.ok (.inl ⟨h1,rfl,h2⟩)
 | inr x =>
  obtain⟨⟨v,hG⟩,hsub⟩:=hy
  obtain⟨g1,g2,g3,⟨K,g4⟩,g5,g6⟩:=id hG
  simp only[Sum.elim_inr]
  -- the depth bounds how deep one must look
  have h8:sumC clV (meA S noA 8) M (0,0)=some v:=by
   refine (show ∀(l:List aa) (a:Int×Int),a.2≤20001→sumC clV (meA S noA K) l a=some v→sumC clV (meA S noA 8) l a=some v from ?_) M (0,0) (by simp) g4
   intro l
   induction l with
   | nil=>intro a _ h;exact h
   | cons b r ih =>
    intro a ha h
    have hs:∀f:Int→Option (Int×Int),sumC clV f (b::r) a=match clV b with
     | none=>sumC clV f r (a.1,min (a.2+1) 20001)
     | some c=>match f c.1 with
      | none=>none
      | some v=>sumC clV f r (max a.1 (1+v.1),min (a.2+min (c.2*v.2) 20001) 20001):=λf=>rfl
    rw[hs]at h ⊢
    cases hc:clV b with
    | none=>rw[hc]at h;exact ih _ (by simp only;omega) h
    | some c =>
     rw[hc]at h
     simp only at h ⊢
     cases hq:meA S noA K c.1 with
     | none=>rw[hq]at h;cases h
     | some u =>
      rw[hq]at h
      simp only at h
      have h2:=fQ clV (f:=meA S noA K) mA_bd dN h (by simp only;omega)
      have h3:=meas_depth clV (sbV S) dN hq
      obtain⟨h4,h5,h6⟩:=mA_bd _ _ hq
      have h7:meA S noA 8 c.1=some u:=jv clV (sbV S) (by simp only at h2;omega) h3
      rw[h7]
      exact ih _ (by simp only;omega) h
  refine Tot.bind (exp_tot hP g2 hsub 8 fuel (bK (by omega)) M [] v hP.okM (by omega) (λb hb c hc=>g2 b (List.mem_append.2 (.inl hb)) c hc) h8 g6 (λn x h=>by cases h)) (λw hw=>?_)
  have hX:ExpV M S w.1:=⟨v,8,hG,h8,hw.1⟩
  obtain⟨hXl,hXo⟩:=hX.ok hP
  refine Tot.bind (E:=λr=>r=w.1) (Tot.guard (aK (by omega)) (Tot.range (λi r=>r=w.1.take i) _ rfl (λi b r hx hr=>?_) (λr hr=>?_))) (λr hr=>?_)
  ·have hm:=List.mem_of_getElem? hx
   have hlt:=ak hx
   have hbw:=(hXo b hm).few
   unfold fewB at hbw
   unfold bR
   rw[aQ (by omega),aN,ae]
   subst hr
   refine TotX.guard (aQ (by rw[zN];omega)) (TotX.go ?_)
   rw[cj hx]
  ·rw[zB]at hr
   exact Tot.ok hr
  ·subst hr
   exact Tot.ok (.inr ⟨rfl,hX⟩)
theorem c10(c:UInt8):((c.toNat:Int)==10)=(c==10):=by
 rw[Bool.eq_iff_iff]
 simp only[beq_iff_eq]
 constructor
 ·intro h;exact UInt8.toNat_inj.1 (by have:(10:UInt8).toNat=10:=rfl;omega)
 ·intro h;subst h;rfl
theorem line_at{s:List UInt8}{f:Nat}(hf:f≤i)(hi:s[i]? = some 10)(hno:∀k,f≤k→k<i→s[k]?≠some 10):(s.drop f).takeWhile (· != 10)=(s.drop f).take (i-f)∧(s.drop f).dropWhile (· != 10)=10::s.drop (i+1):=by
 have hlt:=ak hi
 have hd:s.drop f=(s.drop f).take (i-f)++10::s.drop (i+1):=by
  have h1:(s.drop f).drop (i-f)=10::s.drop (i+1):=by
   rw[List.drop_drop,show f+(i-f)=i by omega,zM hlt]
   rw[List.getElem?_eq_getElem hlt]at hi;injection hi with hi;rw[hi]
  rw[←h1,zE]
 have hall:((s.drop f).take (i-f)).all (· != 10)=true:=by
  rw[zO]
  intro x hx
  obtain⟨k,hk⟩:=List.mem_iff_getElem?.1 hx
  have hkl:=ak hk
  rw[zN,List.length_drop]at hkl
  rw[List.getElem?_take,od (by omega),List.getElem?_drop]at hk
  have:=hno (f+k) (by omega) (by omega)
  rw[hk]at this
  simpa using this
 have h2:=tw_gen (p:=(· != 10)) ((s.drop f).take (i-f)) (10::s.drop (i+1)) hall (.inr ⟨10,_,rfl,by simp⟩)
 rw[←hd]at h2
 exact h2
theorem no_line{s:List UInt8}{f:Nat}(hno:∀k,f≤k→k<s.length→s[k]?≠some 10):(s.drop f).dropWhile (· != 10)=[]:=by
 rw[dw_nil]
 intro x hx
 obtain⟨k,hk⟩:=List.mem_iff_getElem?.1 hx
 have hkl:=ak hk
 rw[List.length_drop]at hkl
 rw[List.getElem?_drop]at hk
 have:=hno (f+k) (by omega) (by omega)
 rw[hk]at this
 simpa using this
set_option maxHeartbeats 4000000 in
theorem r41_Program_tot(s:List UInt8)(hs:s.length≤10000):Tot (i6 s) (λr=>r=pgV (s.length+1) s []):=by
 (unfold i6;try delta jB rF jV gF)
 refine Tot.bind (E:=λn:Int=>n≤10001) (Tot.guard (aK (by omega)) (Tot.range (λi v=>0≤v∧v≤(i:Int)+1) _ (by simp) (λi c v hx hr=>?_) (λv hr=>.ok (by omega)))) (λn hn=>?_)
 ·have hlt:=ak hx
  refine TotX.bind (E:=λw:Int=>0≤w∧w≤((i+1:Nat):Int)+1) (Tot.ite (λ_=>.ok ?_) (λ_=>.ok ?_)) (λw hw=>.go hw)
  ·rw[am (by omega) (by omega)];omega
  ·omega
 ·refine Tot.ite (λh=>?_) (λ_=>?_)
  ·simp only[zR,oo]at h;omega
  ·generalize hT:pgV (s.length+1) s []=T
   refine Tot.bindX (E:=λv:List aa×Int=>(if v.2<(s.length:Int)then (([],(v.1.length:Int)+1,2):GR)else (v.1,0,0))=T∧v.1.length≤s.length) (TotX.of (Tot.mono (E:=λx=>match x with | .ret e=>e=T | .go v=>(if v.2<(s.length:Int)then (([],(v.1.length:Int)+1,2):GR)else (v.1,0,0))=T∧v.1.length≤s.length) ?_ (λx h=>by cases x<;>exact h))) (λv hv=>?_)
   ·refine Tot.guard (aK (by omega)) (Tot.range (λi v=>∃(f m:Nat) (out:List aa),v=(out,(f:Int))∧f≤i∧f≤s.length∧out.length≤f∧(∀k,f≤k→k<i→s[k]?≠some 10)∧pgV m (s.drop f) out=T∧s.length-f<m) _ ⟨0,s.length+1,[],rfl,by omega,by omega,by simp,λk _ q=>by omega,hT,by omega⟩ (λi c v hx hr=>?_) (λv hr=>?_))
    ·obtain⟨f,m,out,rfl,hf,hfl,hol,hno,ht,hm⟩:=hr
     have hlt:=ak hx
     dsimp only
     rw[c10]
     by_cases hc:c=10
     ·subst hc
      obtain⟨l1,l2⟩:=line_at hf hx hno
      obtain⟨m,rfl⟩:∃q,m=q+1:=⟨m-1,by omega⟩
      unfold pgV at ht
      rw[oc (by
       intro e
       have:=congrArg List.length e
       simp at this;omega),l2]at ht
      have hcut:cutL s (f:Int) (i:Int)=some ((s.drop f).takeWhile (· != 10)):=by
       unfold cutL
       rw[oc (by omega),zG,zG,l1]
      obtain⟨y,hy,rfl⟩:=r41_Parse_tot ((s.drop f).takeWhile (· != 10)) (by
       have:=(tw_len (· != 10) (s.drop f)).1
       simp at this;omega)
      rw[show ((10:UInt8)==10)=true from rfl,od rfl,hcut,ae,hy,ae]
      rw[pgN_cons]at ht
      by_cases he:(prsV ((s.drop f).takeWhile (· != 10))).2.2=0
      ·rw[oc (by simpa using he)]at ht
       rw[he,show (((0:Int)) != 0)=false from rfl,oc (by simp),aQ (by omega),aN]
       have hw:IntKind.i64.wrap ((i:Int)+1)=((i+1:Nat):Int):=by rw[am (by omega) (by omega)];omega
       rw[hw]
       exact .go ⟨i+1,m,_,rfl,by omega,by omega,by simp;omega,λk q1 q2=>by omega,ht,by omega⟩
      ·rw[od he]at ht
       rw[show ((prsV ((s.drop f).takeWhile (· != 10))).2.2 != 0)=true by simpa using he,od rfl,am (by omega) (by omega)]
       exact .ret ht
     ·rw[show (c==10)=false by simpa using hc,oc (by simp)]
      refine .go ⟨f,m,out,rfl,by omega,hfl,hol,λk q1 q2=>?_,ht,hm⟩
      rcases Nat.lt_or_ge k i with q | q
      ·exact hno k q1 q
      ·obtain rfl:k=i:=by omega
       rw[hx]
       simpa using hc
    ·obtain⟨f,m,out,rfl,hf,hfl,hol,hno,ht,hm⟩:=hr
     refine .ok ⟨?_,by simp only;omega⟩
     obtain⟨m,rfl⟩:∃q,m=q+1:=⟨m-1,by omega⟩
     unfold pgV at ht
     simp only
     by_cases hfe:f=s.length
     ·rw[od (by rw[hfe];simp)]at ht
      rw[oc (by omega)]
      exact ht
     ·rw[oc (by
       intro e
       have:=congrArg List.length e
       simp at this;omega),no_line hno]at ht
      rw[od (by omega)]
      exact ht
   ·obtain⟨hv1,hv2⟩:=hv
    by_cases hlt:v.2<(s.length:Int)
    ·rw[od hlt]at hv1
     rw[oh hlt,od rfl,am (by omega) (by omega)]
     exact .ok hv1
    ·rw[oc hlt]at hv1
     rw[oi hlt,oc (by simp)]
     exact .ok hv1
theorem pgV_valid:∀(n:Nat) (s:List UInt8) (out:List aa),s.length<n→(∀b∈out,ci b)→((pgV n s out).2.2≠0∧(pgV n s out).1=[])∨((pgV n s out).2.2=0∧(∀b∈(pgV n s out).1,ci b)∧(pgV n s out).1.length≤out.length+s.length)
  | 0,s,out,h,_=>by omega
  | n+1,s,out,h,ho=>by
    unfold pgV
    by_cases hs:s=[]
    · rw[od hs]
      exact .inr ⟨rfl,ho,by simp⟩
    · rw[oc hs]
      cases hd:s.dropWhile (· != 10)with
      | nil=>exact .inl ⟨by simp[pgN],rfl⟩
      | cons c q =>
        rw[pgN_cons]
        have hlen:q.length<s.length:=by
          have h1:=List.takeWhile_append_dropWhile (p:=(· != 10)) (l:=s)
          have h2:=congrArg List.length h1
          rw[hd,zA,zJ]at h2
          omega
        rcases prs_inv (s.takeWhile (· != 10))with⟨a,e,he,hb⟩|⟨b,hb,hv,_⟩
        · rw[hb]
          rw[od (show (badR a e).2.2≠0 from he)]
          exact .inl ⟨he,rfl⟩
        · rw[hb,oc (by simp)]
          dsimp only
          rcases pgV_valid n q (out++[b]) (by omega) (λx hx=>by
            rcases List.mem_append.1 hx with hx | hx
            · exact ho x hx
            · simp at hx;subst hx;exact hv)with r | ⟨r1,r2,r3⟩
          · exact .inl r
          · refine .inr ⟨r1,r2,?_⟩
            simp only[zA,zJ,zL]at r3
            omega
theorem valid_ok(h:ci b):okBB b:=by
 obtain⟨h1,_,h3,_⟩:=h
 refine⟨by unfold fewB;omega,λw hw=>?_⟩
 obtain⟨_,_,a,b⟩:=h3 w hw
 omega
theorem ref_facts:∀(n:Nat) (r:List aa) (S:SubL),refV n r=some S→(S.flatMap (·.2)).length+2*S.length≤r.length∧∀s∈S,(∀b∈s.2,b∈r)∧1≤s.1∧s.1≤9999
 | 0,[],S,h=>by unfold refV at h;cases h;exact⟨by simp,λs hs=>by cases hs⟩
 | 0,_::_,S,h=>by unfold refV at h;cases h
 | n+1,[],S,h=>by unfold refV at h;cases h;exact⟨by simp,λs hs=>by cases hs⟩
 | n+1,b::r,S,h=>by
  unfold refV at h
  cases hb:begV b with
  | none=>rw[hb]at h;cases h
  | some k =>
   rw[hb]at h
   simp only at h
   cases hst:cn retV r with
   | none=>rw[hst]at h;cases h
   | some x =>
    obtain⟨X,e,r'⟩:=x
    rw[hst]at h
    simp only at h
    split at h
    ·cases h
    ·obtain⟨S',h2,h3⟩:=Option.map_eq_some_iff.1 h
     subst h3
     obtain⟨e1,_,_⟩:=db hst
     obtain⟨i1,i2⟩:=ref_facts n r' S' h2
     have hk:1≤k∧k≤9999:=by
      unfold begV at hb
      split at hb
      ·rename_i w _
       split at hb
       ·split at hb
        ·have:=whlV_bd w.Value
         cases hb;omega
        ·cases hb
       ·cases hb
      ·cases hb
     refine⟨?_,λs hs=>?_⟩
     ·rw[e1]
      simp only[zX,zA,zJ]
      omega
     ·rcases List.mem_cons.1 hs with rfl | hs
      ·exact⟨λc hc=>by rw[e1];simp only at hc;simp[hc],hk⟩
      ·exact⟨λc hc=>by rw[e1];simp[(i2 s hs).1 c hc],(i2 s hs).2⟩
theorem split_prg{l:List aa}(hl:l.length≤1000)(hb:∀b∈l,okBB b)(h:(iK l).2.2=0):Prg (iK l).1 (iK l).2.1∧(∀b∈(iK l).1,b∈l)∧∀s∈(iK l).2.1,∀b∈s.2,b∈l:=by
 unfold iK at h ⊢
 cases hs:cn endV l with
 | none=>rw[hs]at h;cases h
 | some x =>
  obtain⟨X,E,R⟩:=x
  rw[hs]at h
  simp only at h ⊢
  obtain⟨e1,e2,e3⟩:=db hs
  cases hm:((X++[E]).any λb=>retV b||oV b)with
  | true=>rw[hm]at h;cases h
  | false =>
   rw[hm]at h
   simp only[zD,oe]at h ⊢
   cases hr:refV R.length R with
   | none=>rw[hr]at h;cases h
   | some S =>
    rw[hr]at h
    simp only at h ⊢
    cases hd:dupL [] (S.map (·.1))with
    | true=>rw[hd]at h;cases h
    | false =>
     simp only[zD,oe]
     obtain⟨f1,f2⟩:=ref_facts _ _ _ hr
     have hrp:=ref_prog R.length R
     rw[hr]at hrp
     have hcl:cleanS S=true:=by
      cases hp:kg R.length R with
      | none=>rw[hp]at hrp;cases hrp
      | some S' =>
       rw[hp]at hrp
       simp only at hrp
       split at hrp
       ·cases hrp;assumption
       ·cases hrp
     have hin1:∀b∈X++[E],b∈l:=λb q=>by
      rw[e1]
      rcases List.mem_append.1 q with q | q
      ·simp[q]
      ·simp at q;simp[q]
     have hin2:∀s∈S,∀b∈s.2,b∈l:=λs q b q2=>by rw[e1];simp[(f2 s q).1 b q2]
     have hlen:l.length=X.length+1+R.length:=by rw[e1];simp;omega
     exact⟨⟨⟨X,E,rfl,e3,e2⟩,hm,hcl,hd,λs q=>(f2 s q).2,λb q=>hb b (hin1 b q),λs q b q2=>hb b (hin2 s q b q2),by simp only[zA,zJ,zL];omega,by omega⟩,hin1,hin2⟩
theorem exp_in{P:aa→Prop}(hM:∀b∈M,P b)(hS:∀s∈S,∀b∈s.2,P b)(h:ExpV M S r):∀b∈r,P b:=by
 have key:∀(k:Nat) (n:Int) (x:List aa),xD S k n=some x→∀b∈x,P b:=by
  intro k
  induction k with
  | zero=>intro n x h;cases h
  | succ k ih =>
   intro n x h
   exact mI ih (λb hb=>by
    obtain⟨s,h1,_,h2,_⟩:=sb_mem hb
    exact hS s h1 b h2) h
 obtain⟨v,K,_,_,h2⟩:=h
 exact mI (key K) hM h2
theorem text_exp(s:List UInt8)(hs:s.length≤1000):∃ex:List aa×Int,dW s=some ex∧(ex.2=0→ex.1.length≤20000∧∀b∈ex.1,ci b) ∧
  ∀t p,inp_Run s t p=ah (bF t p) λy1=>if (y1 != 0)=true then some ([],aL.mk 0 0,y1)else if (ex.2 != 0)=true then some ([],aL.mk 0 0,ex.2)else ah (fi ex.1 t p) λy5=>some (y5.1,y5.2,0):=by
 have hc:=count_le s 10
 obtain⟨y,hy,hy2⟩:=bk_Program_tot s (by omega) (by omega)
 obtain⟨z,hz,hz2⟩:=r41_Program_tot s (by omega)
 subst hy2
 rw[hz2]at hz
 have hv:=pgV_valid (s.length+1) s [] (by omega) (λb hb=>by cases hb)
 generalize pgV (s.length+1) s []=P at *
 unfold dW inp_Run
 rw[hz,ae]
 by_cases hp:P.2.2=0
 ·obtain⟨v1,v2,v3⟩:P.2.2=0∧(∀b∈P.1,ci b)∧P.1.length≤([]:List aa).length+s.length:=by
   rcases hv with⟨q,_⟩ | q
   ·exact absurd hp q
   ·exact q
  have hl:P.1.length≤1000:=by simp only[zL]at v3;omega
  have hok:∀b∈P.1,okBB b:=λb q=>valid_ok (v2 b q)
  rw[oc (by simp[hp]),r43_Split_eq hl hok,ae]
  by_cases hsp:(iK P.1).2.2=0
  ·obtain⟨hP,hi1,hi2⟩:=split_prg hl hok hsp
   obtain⟨a,ha,ha2⟩:=rExpand_ok hP
   obtain⟨b,hb,hb2⟩:=sExpand_ok hP
   have hab:a=b:=by
    rcases ha2 with⟨a1,a2,a3⟩|⟨a1,a2⟩<;>rcases hb2 with⟨b1,b2,b3⟩|⟨b1,b2⟩
    ·exact Prod.ext (a2.trans b2.symm) (bad_one a3 b3)
    ·obtain⟨v,K,g,_⟩:=b2
     exact (bad_good a3 g).elim
    ·obtain⟨v,K,g,_⟩:=a2
     exact (bad_good b3 g).elim
    ·exact Prod.ext (a2.one b2) (a1.trans b1.symm)
   subst hab
   rw[oc (by simp[hsp]),ha,ae]
   refine⟨a,rfl,λh0=>?_,λt p=>?_⟩
   ·rcases ha2 with⟨a1,_⟩|⟨_,a2⟩
    ·exact absurd h0 a1
    ·exact⟨(a2.ok hP).1,exp_in (λb q=>v2 b (hi1 b q)) (λs q b q2=>v2 b (hi2 s q b q2)) a2⟩
   ·congr 1
    funext y1
    split
    ·rfl
    ·rw[hy,ae,oc (by simp[hp]),sp_Split_eq hl hok,ae,oc (by simp[hsp]),hb,ae]
  ·rw[od (by simpa using hsp)]
   refine⟨_,rfl,λh0=>absurd h0 hsp,λt p=>?_⟩
   congr 1
   funext y1
   split
   ·rfl
   ·rw[hy,ae,oc (by simp[hp]),sp_Split_eq hl hok,ae,od (by simpa using hsp),od (by simpa using hsp)]
 ·rw[od (by simpa using hp)]
  refine⟨_,rfl,λh0=>absurd h0 hp,λt p=>?_⟩
  congr 1
  funext y1
  split
  ·rfl
  ·rw[hy,ae,od (by simpa using hp),od (by simpa using hp)]
end Go.Proofs.YtjemmjpdmbenkaaGreatDoor
