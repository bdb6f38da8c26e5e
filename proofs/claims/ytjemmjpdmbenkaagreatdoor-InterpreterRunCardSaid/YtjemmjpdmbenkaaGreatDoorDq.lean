/-
  Da, Db, Dc, Dd, De, Df in one text.
-/
import Derived.Test.YtjemmjpdmbenkaaGreatDoorPz
import Derived.Test.YtjemmjpdmbenkaaGreatDoorAall
import Derived.Test.YtjemmjpdmbenkaaGreatDoorBall
import Derived.Test.YtjemmjpdmbenkaaGreatDoorMG
open Bool renaming false_eq_true → zA,not_true → zI,false_or → zN,not_false → zQ,and_eq_true → zU
open List renaming mem_cons_of_mem → zB,length_cons → zD,any_cons → zE,mem_cons_self → zF,length_append → zH,replicate → zJ,eq_nil_of_length_eq_zero → zK,append_assoc → zL,cons_append → zM,foldlM_cons → zT,length_filter_le → zV,drop_drop → zY
open Int renaming tdiv_eq_ediv_of_nonneg → zG,tdiv → zR,mul_nonneg → zX,tmod_eq_emod_of_nonneg → zZ
open Nat renaming le_refl → zO,zero_add → zW
open Option renaming map_some → zP
namespace Go.Proofs.YtjemmjpdmbenkaaGreatDoor
section
variable {B : Type} (cl : B → Option (Int × Int)) (sb : Int → List B)
def sumC(f:Int→Option (Int×Int)):List B→Int×Int→Option (Int×Int)
 | [],a=>some a
 | b::r,a=>match cl b with
  | none=>sumC f r (a.1,min (a.2+1) 20001)
  | some c=>match f c.1 with
   | none=>none
   | some v=>sumC f r (max a.1 (1+v.1),min (a.2+min (c.2*v.2) 20001) 20001)
def ce(A:Int→Bool):Nat→Int→Option (Int×Int)
 | 0,_=>none
 | k+1,n=>if A n=true then none else sumC cl (ce A k) (sb n) (0,0)
def noA:Int→Bool:=λ_=>false
theorem er{f g:Int→Option (Int×Int)}:∀{l:List B} {a v:Int×Int},(∀b∈l,∀c v,cl b=some c→f c.1=some v→g c.1=some v)→sumC cl f l a=some v→sumC cl g l a=some v
 | [],a,v,_,h=>h
 | b::r,a,v,hfg,h=>by
  unfold sumC at h ⊢
  cases hc:cl b with
  | none=>rw[hc]at h;exact er (λb hb=>hfg b (zB _ hb)) h
  | some c =>
   rw[hc]at h
   cases hf:f c.1 with
   | none=>simp only[hf]at h;cases h
   | some x =>
    simp only[hf]at h
    simp only[hfg b zF c x hc hf]
    exact er (λb hb=>hfg b (zB _ hb)) h
theorem kB{f:Int→Option (Int×Int)}:∀{l:List B} {a v:Int×Int},sumC cl f l a=some v→∀b∈l,∀c,cl b=some c→∃x,f c.1=some x
 | [],a,v,_,b,hb,c,_=>by cases hb
 | d::r,a,v,h,b,hb,c,hc=>by
  unfold sumC at h
  rcases List.mem_cons.1 hb with rfl | hb
  ·rw[hc]at h
   cases hf:f c.1 with
   | none=>simp only[hf]at h;cases h
   | some x=>exact⟨x,rfl⟩
  ·cases hd:cl d with
   | none=>rw[hd]at h;exact kB h b hb c hc
   | some e =>
    rw[hd]at h
    cases hf:f e.1 with
    | none=>simp only[hf]at h;cases h
    | some x=>simp only[hf]at h;exact kB h b hb c hc
theorem sumC_some{f:Int→Option (Int×Int)}:∀{l:List B} {a:Int×Int},(∀b∈l,∀c,cl b=some c→∃x,f c.1=some x)→∃v,sumC cl f l a=some v
 | [],a,_=>⟨a,rfl⟩
 | d::r,a,h=>by
  unfold sumC
  cases hd:cl d with
  | none=>exact sumC_some λb hb=>h b (zB _ hb)
  | some e =>
   obtain⟨x,hx⟩:=h d zF e hd
   simp only[hx]
   exact sumC_some λb hb=>h b (zB _ hb)
theorem jv{A:Int→Bool}:∀{k j:Nat} {n:Int} {v:Int×Int},k≤j→ce cl sb A k n=some v→ce cl sb A j n=some v
 | 0,_,_,_,_,h=>by cases h
 | k+1,0,_,_,hk,_=>by omega
 | k+1,j+1,n,v,hk,h=>by
  unfold ce at h ⊢
  split
  ·rename_i q;rw[od q]at h;cases h
  ·rename_i q;rw[oc q]at h
   exact er cl (λb _ c v _ hv=>jv (by omega) hv) h
theorem measA_sub{A A':Int→Bool}(hA:∀n,A n=true→A' n=true):∀{k:Nat} {n:Int} {v:Int×Int},ce cl sb A' k n=some v→ce cl sb A k n=some v
 | 0,_,_,h=>by cases h
 | k+1,n,v,h=>by
  unfold ce at h ⊢
  split
  ·rename_i q;rw[od (hA n q)]at h;cases h
  ·split at h
   ·cases h
   ·exact er cl (λb _ c v _ hv=>measA_sub hA hv) h
theorem measA_add{A:Int→Bool}{m:Int}:∀{k:Nat},(∀j,j≤k→ce cl sb A j m=none)→∀{n:Int} {v:Int×Int},ce cl sb A k n=some v→ce cl sb (λx=>A x||x==m) k n=some v
 | 0,_,_,_,h=>by cases h
 | k+1,hm,n,v,h=>by
  have hne:n≠m:=by
   rintro rfl
   rw[hm (k+1) (zO _)]at h;cases h
  unfold ce at h ⊢
  split at h
  ·cases h
  ·rename_i q
   rw[oc (by simp[hne];simpa using q)]
   exact er cl (λb _ c v _ hv=>measA_add (λj hj=>hm j (by omega)) hv) h
theorem measA_fail{A:Int→Bool}{n:Int}{b:B}{c:Int×Int}(hb:b∈sb n)(hc:cl b=some c)(h:∀k,ce cl sb (λx=>A x||x==n) k c.1=none):∀k,ce cl sb A k n=none:=by
 intro k
 induction k using Nat.strongRecOn with
 | _ k ih =>
  cases hk:ce cl sb A k n with
  | none=>rfl
  | some v =>
   exfalso
   cases k with
   | zero=>cases hk
   | succ k =>
    have h2:=hk
    unfold ce at h2
    split at h2
    ·cases h2
    ·obtain⟨x,hx⟩:=kB cl h2 b hb c hc
     have:=measA_add cl sb (m:=n) (λj hj=>ih j (by omega)) hx
     rw[h k]at this;cases this
theorem meas_all{l:List B}{f:Int→Option (Int×Int)}(h:∀b∈l,∀c,cl b=some c→∃k v,ce cl sb noA k c.1=some v∧f c.1=some v):∃K,∀b∈l,∀c v,cl b=some c→f c.1=some v→ce cl sb noA K c.1=some v:=by
 induction l with
 | nil=>exact⟨0,λb hb=>by cases hb⟩
 | cons d r ih =>
  obtain⟨K,hK⟩:=ih λb hb=>h b (zB _ hb)
  cases hd:cl d with
  | none =>
   refine⟨K,λb hb c v hc hv=>?_⟩
   rcases List.mem_cons.1 hb with rfl | hb
   ·rw[hd]at hc;cases hc
   ·exact hK b hb c v hc hv
  | some e =>
   obtain⟨k,v0,h1,h2⟩:=h d zF e hd
   refine⟨max K k,λb hb c v hc hv=>?_⟩
   rcases List.mem_cons.1 hb with rfl | hb
   ·rw[hd]at hc;cases hc
    rw[h2]at hv;cases hv
    exact jv cl sb (Nat.le_max_right _ _) h1
   ·exact jv cl sb (Nat.le_max_left _ _) (hK b hb c v hc hv)
theorem meas_sum{n:Int}{v:Int×Int}{f:Int→Option (Int×Int)}(h:∀b∈sb n,∀c,cl b=some c→∃k v,ce cl sb noA k c.1=some v∧f c.1=some v)(hv:sumC cl f (sb n) (0,0)=some v):∃k,ce cl sb noA k n=some v:=by
 obtain⟨K,hK⟩:=meas_all cl sb h
 refine⟨K+1,?_⟩
 unfold ce
 rw[oc (by simp[noA])]
 exact er cl hK hv
theorem fQ{f:Int→Option (Int×Int)}(hf:∀n v,f n=some v→0≤v.1∧0≤v.2∧v.2≤20001)(ht:∀b c,cl b=some c→1≤c.2):∀{l:List B} {a v:Int×Int},sumC cl f l a=some v→a.2≤20001→a.1≤v.1∧a.2≤v.2∧v.2≤20001
 | [],a,v,h,ha=>by cases h;exact⟨Int.le_refl _,Int.le_refl _,ha⟩
 | b::r,a,v,h,ha=>by
  unfold sumC at h
  cases hc:cl b with
  | none =>
   rw[hc]at h
   have:=fQ hf ht h (by simp only;omega)
   simp only at this;omega
  | some c =>
   rw[hc]at h
   cases hq:f c.1 with
   | none=>simp only[hq]at h;cases h
   | some x =>
    simp only[hq]at h
    obtain⟨h1,h2,h3⟩:=hf _ _ hq
    have h4:0≤c.2*x.2:=zX (by have:=ht b c hc;omega) h2
    have:=fQ hf ht h (by simp only;omega)
    simp only at this
    generalize c.2*x.2=z at *
    omega
theorem jJ(ht:∀b c,cl b=some c→1≤c.2){A:Int→Bool}:∀{k:Nat} {n:Int} {v:Int×Int},ce cl sb A k n=some v→0≤v.1∧0≤v.2∧v.2≤20001
 | 0,_,_,h=>by cases h
 | k+1,n,v,h=>by
  unfold ce at h
  split at h
  ·cases h
  ·have:=fQ cl (λn v=>jJ ht) ht h (by simp only;omega)
   simp only at this;omega
theorem meas_depth(ht:∀b c,cl b=some c→1≤c.2):∀{k:Nat} {n:Int} {v:Int×Int},ce cl sb noA k n=some v→ce cl sb noA (v.1.toNat+1) n=some v
 | 0,_,_,h=>by cases h
 | k+1,n,v,h=>by
  unfold ce at h ⊢
  rw[oc (by simp[noA])]at h ⊢
  have key:∀(l:List B) (a:Int×Int) ,a.2≤20001→sumC cl (ce cl sb noA k) l a=some v→sumC cl (ce cl sb noA v.1.toNat) l a=some v:=by
   intro l
   induction l with
   | nil=>intro a _ h;exact h
   | cons b r ih =>
    intro a ha h
    unfold sumC at h ⊢
    cases hc:cl b with
    | none=>rw[hc]at h;exact ih _ (by simp only;omega) h
    | some c =>
     rw[hc]at h
     cases hq:ce cl sb noA k c.1 with
     | none=>simp only[hq]at h;cases h
     | some x =>
      simp only[hq]at h
      have h2:=fQ cl (λn v=>jJ cl sb ht) ht h (by simp only;omega)
      have h3:=meas_depth ht hq
      obtain⟨h4,h5,h6⟩:=jJ cl sb ht hq
      have h7:ce cl sb noA v.1.toNat c.1=some x:=jv cl sb (by simp only at h2;omega) h3
      simp only[h7]
      exact ih _ (by simp only;omega) h
  exact key _ _ (by simp only;omega) h
def expC(f:Int→Option (List B)):List B→Option (List B)
 | []=>some []
 | b::r=>match cl b with
  | none=>(expC f r).map (b::·)
  | some c=>match f c.1 with
   | none=>none
   | some x=>(expC f r).map ((zJ c.2.toNat x).flatten++·)
def expd:Nat→Int→Option (List B)
 | 0,_=>none
 | k+1,n=>expC cl (expd k) (sb n)
theorem l4{f g:Int→Option (List B)}:∀{l v:List B},(∀b∈l,∀c v,cl b=some c→f c.1=some v→g c.1=some v)→expC cl f l=some v→expC cl g l=some v
 | [],v,_,h=>h
 | b::r,v,hfg,h=>by
  unfold expC at h ⊢
  cases hc:cl b with
  | none =>
   rw[hc]at h
   obtain⟨x,h1,h2⟩:=Option.map_eq_some_iff.1 h
   exact Option.map_eq_some_iff.2 ⟨x,l4 (λb hb=>hfg b (zB _ hb)) h1,h2⟩
  | some c =>
   rw[hc]at h
   cases hf:f c.1 with
   | none=>simp only[hf]at h;cases h
   | some x =>
    simp only[hf]at h
    simp only[hfg b zF c x hc hf]
    obtain⟨y,h1,h2⟩:=Option.map_eq_some_iff.1 h
    exact Option.map_eq_some_iff.2 ⟨y,l4 (λb hb=>hfg b (zB _ hb)) h1,h2⟩
theorem expd_le:∀{k j:Nat} {n:Int} {v:List B},k≤j→expd cl sb k n=some v→expd cl sb j n=some v
 | 0,_,_,_,_,h=>by cases h
 | k+1,0,_,_,hk,_=>by omega
 | k+1,j+1,n,v,hk,h=>by
  unfold expd at h ⊢
  exact l4 cl (λb _ c v _ hv=>expd_le (by omega) hv) h
theorem mH(ht:∀b c,cl b=some c→1≤c.2){f:Int→Option (Int×Int)}{g:Int→Option (List B)}(hfg:∀n v,f n=some v→0≤v.1∧0≤v.2∧v.2≤20001∧(v.2≤20000→∃l,g n=some l∧(l.length:Int)=v.2)) :
  ∀{l:List B} {a v:Int×Int},sumC cl f l a=some v→0≤a.2→v.2≤20000→∃r,expC cl g l=some r∧a.2+(r.length:Int)=v.2
 | [],a,v,h,_,_=>by cases h;exact⟨[],rfl,by simp⟩
 | b::r,a,v,h,ha,hv=>by
  have hbd:∀n v,f n=some v→0≤v.1∧0≤v.2∧v.2≤20001:=λn v q=>⟨(hfg n v q).1,(hfg n v q).2.1,(hfg n v q).2.2.1⟩
  unfold sumC at h
  unfold expC
  cases hc:cl b with
  | none =>
   rw[hc]at h
   have h1:=fQ cl hbd ht h (by simp only;omega)
   simp only at h1
   obtain⟨x,h2,h3⟩:=mH ht hfg h (by simp only;omega) hv
   simp only at h3
   exact⟨b::x,by simp[h2],by simp only[zD];omega⟩
  | some c =>
   rw[hc]at h
   cases hq:f c.1 with
   | none=>simp only[hq]at h;cases h
   | some x =>
    simp only[hq]at h
    obtain⟨q1,q2,q3,q4⟩:=hfg _ _ hq
    have hc1:=ht b c hc
    have h4:x.2≤c.2*x.2:=by
     have:0≤(c.2-1)*x.2:=zX (by omega) q2
     rw[Int.sub_mul]at this;omega
    have h1:=fQ cl hbd ht h (by simp only;omega)
    simp only at h1
    have h5:0≤c.2*x.2:=by omega
    obtain⟨y,h2,h3⟩:=mH ht hfg h (by simp only;generalize c.2*x.2=z at *;omega) hv
    simp only at h3
    obtain⟨l,g1,g2⟩:=q4 (by generalize c.2*x.2=z at *;omega)
    refine⟨(zJ c.2.toNat l).flatten++y,by simp[g1,h2],?_⟩
    have h6:(((zJ c.2.toNat l).flatten).length:Int)=c.2*x.2:=by
     simp only[List.length_flatten,List.map_replicate,List.sum_replicate_nat]
     rw[←g2];simp;rw[Int.max_eq_left (by omega)]
    rw[zH]
    generalize c.2*x.2=z at *
    push_cast
    omega
theorem jA(ht:∀b c,cl b=some c→1≤c.2):∀{k:Nat} {n:Int} {v:Int×Int},ce cl sb noA k n=some v→v.2≤20000→∃l,expd cl sb k n=some l∧(l.length:Int)=v.2
 | 0,_,_,h,_=>by cases h
 | k+1,n,v,h,hv=>by
  unfold ce at h
  rw[oc (by simp[noA])]at h
  obtain⟨r,h1,h2⟩:=mH cl ht (g:=expd cl sb k) (λn v q=>by
   obtain⟨a,b,c⟩:=jJ cl sb ht q
   exact⟨a,b,c,jA ht q⟩) h (by simp) hv
  exact⟨r,h1,by simpa using h2⟩
end
section
variable {B : Type} (cl : B → Option (Int × Int)) (sb : Int → List B)
def okD(D:Int→Bool)(n:Int):Bool:=(sb n).all λb=>match cl b with
 | none=>true
 | some c=>D c.1
def nW(D:Int→Bool)(n:Int):Int→Bool:=λm=>D m||(m==n&&okD cl sb D n)
def fj(l:List Int)(D:Int→Bool):Int→Bool:=l.foldl (nW cl sb) D
def kX(l:List Int)(D:Int→Bool):Prop:=∀n∈l,okD cl sb D n=true→D n=true
theorem nY:∀{l:List Int} {D:Int→Bool} {m:Int},D m=true→fj cl sb l D m=true
 | [],_,_,h=>h
 | n::r,D,m,h=>nY (l:=r) (D:=nW cl sb D n) (by simp[nW,h])
theorem kq{D:Int→Bool}{n:Int}(h:okD cl sb D n=true→D n=true):nW cl sb D n=D:=by
 funext m
 unfold nW
 by_cases e:m=n
 ·subst e
  by_cases q:okD cl sb D m=true
  ·simp[h q]
  ·simp[Bool.eq_false_iff.2 q]
 ·simp[e]
theorem nX:∀{l:List Int} {D:Int→Bool},kX cl sb l D→fj cl sb l D=D
 | [],_,_=>rfl
 | n::r,D,h=>by
  show fj cl sb r (nW cl sb D n)=D
  rw[kq cl sb (h n zF)]
  exact nX λm hm=>h m (zB _ hm)
theorem dround_closed:∀{l:List Int} {D:Int→Bool},(∀n∈l,fj cl sb l D n=true→D n=true)→kX cl sb l D
  | [],_,_=>λn hn=>by cases hn
  | n::r,D,h=>by
    have h1:okD cl sb D n=true→D n=true:=λq=>h n zF (nY cl sb (l:=r) (D:=nW cl sb D n) (by simp[nW,q]))
    have h2:=kq cl sb h1
    have h3:kX cl sb r D:=dround_closed λm hm q=>h m (zB _ hm) (by
      show fj cl sb r (nW cl sb D n) m=true
      rw[h2];exact q)
    intro m hm q
    rcases List.mem_cons.1 hm with rfl | hm
    · exact h1 q
    · exact h3 m hm q
theorem flt_le{D E:Int→Bool}(h:∀n,D n=true→E n=true):∀{l:List Int},(l.filter D).length≤(l.filter E).length
 | []=>zO _
 | n::r=>by
  have:=flt_le h (l:=r)
  by_cases q:D n=true
  ·simp[q,h n q];exact this
  ·by_cases q2:E n=true
   ·simp[q,q2];omega
   ·simp[q,q2];exact this
theorem flt_lt{D E:Int→Bool}(h:∀n,D n=true→E n=true):∀{l:List Int} {n:Int},n∈l→E n=true→D n=false→(l.filter D).length<(l.filter E).length
 | [],_,hn,_,_=>by cases hn
 | m::r,n,hn,h1,h2=>by
  have h3:=flt_le h (l:=r)
  rcases List.mem_cons.1 hn with rfl | hn
  ·simp[h1,h2];omega
  ·have h4:=flt_lt h hn h1 h2
   by_cases q:D m=true
   ·simp[q,h m q];exact h4
   ·by_cases q2:E m=true
    ·simp[q,q2];omega
    ·simp[q,q2];exact h4
def dit(l:List Int):Nat→(Int→Bool)→Int→Bool
 | 0,D=>D
 | r+1,D=>fj cl sb l (dit l r D)
theorem dit_closed(l:List Int)(D:Int→Bool):kX cl sb l (dit cl sb l l.length D):=by
 have key:∀r,kX cl sb l (dit cl sb l r D)∨r≤(l.filter (dit cl sb l r D)).length:=by
  intro r
  induction r with
  | zero=>exact .inr (Nat.zero_le _)
  | succ r ih =>
   show kX cl sb l (fj cl sb l (dit cl sb l r D))∨_≤(l.filter (fj cl sb l (dit cl sb l r D))).length
   rcases ih with ih | ih
   ·rw[nX cl sb ih];exact .inl ih
   ·by_cases hq:∀n∈l,fj cl sb l (dit cl sb l r D) n=true→dit cl sb l r D n=true
    ·have:=dround_closed cl sb hq
     rw[nX cl sb this];exact .inl this
    ·right
     obtain⟨n,hn⟩:=Classical.not_forall.1 hq
     obtain⟨hl,hn⟩:=Classical.not_imp.1 hn
     obtain⟨h1,h2⟩:=Classical.not_imp.1 hn
     have:=flt_lt (D:=dit cl sb l r D) (E:=fj cl sb l (dit cl sb l r D)) (λm=>nY cl sb (l:=l)) hl h1 (Bool.eq_false_iff.2 h2)
     omega
 rcases key l.length with h | h
 ·exact h
 ·intro n hn _
  have h2:(l.filter (dit cl sb l l.length D)).length=l.length:=Nat.le_antisymm (zV _ _) h
  exact (List.length_filter_eq_length_iff.1 h2) n hn
theorem closed_wf{l:List Int}{D:Int→Bool}(h:kX cl sb l D)(hl:∀n∈l,∀b∈sb n,∀c,cl b=some c→c.1∈l):∀{k:Nat} {n:Int} {v:Int×Int},n∈l→ce cl sb noA k n=some v→D n=true
 | 0,_,_,_,q=>by cases q
 | k+1,n,v,hn,q=>by
  unfold ce at q
  rw[oc (by simp[noA])]at q
  refine h n hn ?_
  unfold okD
  rw[List.all_eq_true]
  intro b hb
  cases hc:cl b with
  | none=>rfl
  | some c =>
   obtain⟨x,hx⟩:=kB cl q b hb c hc
   exact closed_wf h hl (hl n hn b hb c hc) hx
def repL:Nat→List B→List B→List B
 | 0,_,acc=>acc
 | k+1,x,acc=>if 0<x.length∧acc.length≤20000 then repL k x (acc++x)else acc
theorem repL_len:∀{k:Nat} {x acc:List B},(repL k x acc).length≤max acc.length (20000+x.length)
 | 0,_,_=>by unfold repL;omega
 | k+1,x,acc=>by
  unfold repL
  split
  ·have:=repL_len (k:=k) (x:=x) (acc:=acc++x)
   rw[zH]at this;omega
  ·omega
theorem repL_eq:∀{k:Nat} {x acc:List B},acc.length+k*x.length≤20000→repL k x acc=acc++(zJ k x).flatten
 | 0,_,_,_=>by simp[repL]
 | k+1,x,acc,h=>by
  unfold repL
  rw[Nat.add_mul,Nat.one_mul]at h
  split
  ·rw[repL_eq (by rw[zH];omega),List.replicate_succ,List.flatten_cons,zL]
  ·rename_i q
   have:x=[]:=zK (by omega)
   subst this
   simp
def repC(g:Int→Option (List B)):List B→List B→Option (List B)
 | [],acc=>some acc
 | b::r,acc=>match cl b with
  | none=>repC g r (acc++[b])
  | some c=>match g c.1 with
   | none=>none
   | some x=>repC g r (repL c.2.toNat x acc)
theorem repC_len{g:Int→Option (List B)}{m:Nat}(hg:∀n x,g n=some x→x.length≤m):∀{l acc v:List B},repC cl g l acc=some v→v.length≤max acc.length (20000+m)+l.length
 | [],acc,v,h=>by cases h;simp;omega
 | b::r,acc,v,h=>by
  unfold repC at h
  cases hc:cl b with
  | none =>
   rw[hc]at h
   have:=repC_len hg h
   simp only[zH,zD,List.length_nil]at this ⊢;omega
  | some c =>
   rw[hc]at h
   cases hq:g c.1 with
   | none=>simp only[hq]at h;cases h
   | some x =>
    simp only[hq]at h
    have h1:=repC_len hg h
    have h2:=hg _ _ hq
    have h3:=repL_len (k:=c.2.toNat) (x:=x) (acc:=acc)
    simp only[zD];omega
theorem jT{g:Int→Option (List B)}:∀{l acc:List B},(∀b∈l,∀c,cl b=some c→∃x,g c.1=some x)↔∃v,repC cl g l acc=some v
 | [],acc=>⟨λ_=>⟨acc,rfl⟩,λ_ b hb=>by cases hb⟩
 | b::r,acc=>by
  unfold repC
  cases hc:cl b with
  | none =>
   rw[←jT (l:=r)]
   exact⟨λh d hd=>h d (zB _ hd),λh d hd c q=>by
    rcases List.mem_cons.1 hd with rfl | hd
    ·rw[hc]at q;cases q
    ·exact h d hd c q⟩
  | some c =>
   cases hq:g c.1 with
   | none =>
    simp only[hq]
    refine⟨λh=>?_,λ⟨v,hv⟩=>(by cases hv)⟩
    obtain⟨x,hx⟩:=h b zF c hc
    rw[hq]at hx;cases hx
   | some x =>
    simp only[hq]
    rw[←jT (l:=r)]
    exact⟨λh d hd=>h d (zB _ hd),λh d hd e q=>by
     rcases List.mem_cons.1 hd with rfl | hd
     ·rw[hc]at q;cases q;exact⟨x,hq⟩
     ·exact h d hd e q⟩
theorem repC_eq (ht : ∀ b c, cl b = some c → 1 ≤ c.2) {f : Int → Option (Int × Int)} {g e : Int → Option (List B)} (hbd : ∀ n v, f n = some v → 0 ≤ v.1 ∧ 0 ≤ v.2 ∧ v.2 ≤ 20001) :
    ∀{l:List B} {a v:Int×Int} {acc r w:List B},(∀b∈l,∀c v,cl b=some c→f c.1=some v→v.2≤20000→∃x,g c.1=some x∧e c.1=some x∧(x.length:Int)=v.2)→sumC cl f l a=some v→(acc.length:Int)=a.2→v.2≤20000→repC cl g l acc=some r→expC cl e l=some w→r=acc++w
  | [],a,v,acc,r,w,_,_,_,_,h1,h2=>by cases h1;cases h2;simp
  | b::t,a,v,acc,r,w,hfg,h,ha,hv,h1,h2=>by
    have hfg':=λd (hd:d∈t)=>hfg d (zB _ hd)
    unfold sumC at h
    unfold repC at h1
    unfold expC at h2
    cases hc:cl b with
    | none =>
      rw[hc]at h h1 h2
      obtain⟨w',h3,h4⟩:=Option.map_eq_some_iff.1 h2
      have h5:=fQ cl hbd ht h (by simp only;omega)
      simp only at h5
      have:=repC_eq ht hbd hfg' h (acc:=acc++[b]) (by simp only[zH,zD,List.length_nil];omega) hv h1 h3
      rw[this,←h4];simp
    | some c =>
      rw[hc]at h h1 h2
      cases hq:f c.1 with
      | none=>simp only[hq]at h;cases h
      | some x =>
        simp only[hq]at h
        obtain⟨q1,q2,q3⟩:=hbd _ _ hq
        have hc1:=ht b c hc
        have h4:x.2≤c.2*x.2:=by
          have:0≤(c.2-1)*x.2:=zX (by omega) q2
          rw[Int.sub_mul]at this;omega
        have h5:=fQ cl hbd ht h (by simp only;omega)
        simp only at h5
        obtain⟨l,g1,g2,g3⟩:=hfg b zF c x hc hq (by generalize c.2*x.2=z at *;omega)
        simp only[g1]at h1
        simp only[g2]at h2
        obtain⟨w',h6,h7⟩:=Option.map_eq_some_iff.1 h2
        have h8:((c.2.toNat*l.length:Nat):Int)=c.2*x.2:=by
          rw[←g3];simp;rw[Int.max_eq_left (by omega)]
        have h9:repL c.2.toNat l acc=acc++(zJ c.2.toNat l).flatten:=by
          refine repL_eq ?_
          generalize c.2.toNat*l.length=y at *
          generalize c.2*x.2=z at *
          omega
        rw[h9]at h1
        have h10:(((zJ c.2.toNat l).flatten).length:Int)=c.2*x.2:=by
          simp only[List.length_flatten,List.map_replicate,List.sum_replicate_nat]
          exact h8
        have:=repC_eq ht hbd hfg' h (acc:=acc++(zJ c.2.toNat l).flatten) (by
          rw[zH]
          generalize c.2*x.2=z at *
          push_cast
          omega) hv h1 h6
        rw[this,←h7,zL]
theorem sumC_app{f:Int→Option (Int×Int)}:∀{l m:List B} {a v:Int×Int},sumC cl f (l++m) a=some v→∃u,sumC cl f l a=some u∧sumC cl f m u=some v
 | [],m,a,v,h=>⟨a,rfl,h⟩
 | b::r,m,a,v,h=>by
  rw[zM]at h
  unfold sumC at h
  cases hc:cl b with
  | none =>
   rw[hc]at h
   obtain⟨u,h1,h2⟩:=sumC_app h
   exact⟨u,by unfold sumC;rw[hc];exact h1,h2⟩
  | some c =>
   rw[hc]at h
   cases hq:f c.1 with
   | none=>simp only[hq]at h;cases h
   | some x =>
    simp only[hq]at h
    obtain⟨u,h1,h2⟩:=sumC_app h
    exact⟨u,by unfold sumC;simp only[hc,hq];exact h1,h2⟩
theorem expC_app{f:Int→Option (List B)}:∀{l m x y:List B},expC cl f l=some x→expC cl f m=some y→expC cl f (l++m)=some (x++y)
 | [],m,x,y,h1,h2=>by cases h1;exact h2
 | b::r,m,x,y,h1,h2=>by
  rw[zM]
  unfold expC at h1 ⊢
  cases hc:cl b with
  | none =>
   rw[hc]at h1
   obtain⟨z,h3,h4⟩:=Option.map_eq_some_iff.1 h1
   simp only[expC_app h3 h2,zP,←h4,zM]
  | some c =>
   rw[hc]at h1
   cases hq:f c.1 with
   | none=>simp only[hq]at h1;cases h1
   | some u =>
    simp only[hq]at h1 ⊢
    obtain⟨z,h3,h4⟩:=Option.map_eq_some_iff.1 h1
    simp only[expC_app h3 h2,zP,←h4,zL]
theorem sumC_part(ht:∀b c,cl b=some c→1≤c.2){f:Int→Option (Int×Int)}(hbd:∀n v,f n=some v→0≤v.1∧0≤v.2∧v.2≤20001):∀{l:List B} {a v:Int×Int},sumC cl f l a=some v→0≤a.2→a.2≤20001→v.2≤20000→∀b∈l,∀c x,cl b=some c→f c.1=some x→x.2≤20000
 | [],_,_,_,_,_,_,b,hb,_,_,_,_=>by cases hb
 | d::r,a,v,h,ha,ha2,hv,b,hb,c,x,hc,hx=>by
  unfold sumC at h
  cases hd:cl d with
  | none =>
   rw[hd]at h
   rcases List.mem_cons.1 hb with rfl | hb
   ·rw[hd]at hc;cases hc
   ·exact sumC_part ht hbd h (by simp only;omega) (by simp only;omega) hv b hb c x hc hx
  | some e =>
   rw[hd]at h
   cases hq:f e.1 with
   | none=>simp only[hq]at h;cases h
   | some y =>
    simp only[hq]at h
    obtain⟨q1,q2,q3⟩:=hbd _ _ hq
    have hc1:=ht d e hd
    have h4:y.2≤e.2*y.2:=by
     have:0≤(e.2-1)*y.2:=zX (by omega) q2
     rw[Int.sub_mul]at this;omega
    have h5:=fQ cl hbd ht h (by simp only;omega)
    simp only at h5
    rcases List.mem_cons.1 hb with rfl | hb
    ·have hce:e=c:=by rw[hd]at hc;exact Option.some.inj hc
     have hyx:y=x:=by rw[←hce,hq]at hx;exact Option.some.inj hx
     rw[←hyx]
     clear hyx hx hc
     generalize e.2*y.2=z at *
     omega
    ·refine sumC_part ht hbd h ?_ ?_ hv b hb c x hc hx
     ·simp only;generalize e.2*y.2=z at *;omega
     ·simp only;omega
theorem expd_one{j k:Nat}{n:Int}{u v:List B}(h1:expd cl sb j n=some u)(h2:expd cl sb k n=some v):u=v:=by
 rcases Nat.le_total j k with q | q
 ·have:=expd_le cl sb q h1
  rw[h2]at this;exact (Option.some.inj this).symm
 ·have:=expd_le cl sb q h2
  rw[h1]at this;exact Option.some.inj this
end
section
variable {B : Type} (cl : B → Option (Int × Int)) (sb : Int → List B)
theorem sumC_max{f:Int→Option (Int×Int)}{m:Int}:∀{l:List B} {a v:Int×Int},(∀b∈l,∀c x,cl b=some c→f c.1=some x→1+x.1≤m)→a.1≤m→sumC cl f l a=some v→v.1≤m
 | [],a,v,_,ha,h=>by cases h;exact ha
 | b::r,a,v,hf,ha,h=>by
  unfold sumC at h
  cases hc:cl b with
  | none=>rw[hc]at h;exact sumC_max (λd hd=>hf d (zB _ hd)) (by simpa using ha) h
  | some c =>
   rw[hc]at h
   cases hq:f c.1 with
   | none=>simp only[hq]at h;cases h
   | some x =>
    simp only[hq]at h
    have:=hf b zF c x hc hq
    exact sumC_max (λd hd=>hf d (zB _ hd)) (by simp only;omega) h
theorem depth_bd{l:List Int}(hl:∀n∈l,∀b∈sb n,∀c,cl b=some c→c.1∈l):∀(t:Nat) (A:Int→Bool),l.length≤(l.filter A).length+t→∀(k:Nat) (n:Int) (v:Int×Int),n∈l→ce cl sb A k n=some v→v.1+1+((l.filter A).length:Int)≤l.length:=by
  intro t
  induction t with
  | zero =>
    intro A hA k n v hn h
    exfalso
    have hAn:A n=false:=by
      cases k with
      | zero=>cases h
      | succ k =>
        unfold ce at h
        split at h
        · cases h
        · rename_i q;simpa using q
    have:=flt_lt (D:=A) (E:=λ_=>true) (λ_ _=>rfl) hn rfl hAn
    have h2:=zV (λ_=>true) l
    omega
  | succ t ih =>
    intro A hA k
    induction k using Nat.strongRecOn with
    | _ k ihk =>
      intro n v hn h
      by_cases hj:∃j,j<k∧ce cl sb A j n≠none
      · obtain⟨j,hjk,hjn⟩:=hj
        obtain⟨u,hu⟩:=Option.ne_none_iff_exists'.1 hjn
        have:=jv cl sb (Nat.le_of_lt hjk) hu
        rw[h]at this
        cases this
        exact ihk j hjk n v hn hu
      · cases k with
        | zero=>cases h
        | succ k =>
          have hno:∀j,j≤k→ce cl sb A j n=none:=λj hjk=>by
            cases hq:ce cl sb A j n with
            | none=>rfl
            | some u=>exact absurd ⟨j,by omega,by rw[hq];simp⟩ hj
          unfold ce at h
          split at h
          · cases h
          · rename_i q
            have hAn:A n=false:=by simpa using q
            have hc:=flt_lt (D:=A) (E:=λx=>A x||x==n) (λm hm=>by simp[hm]) hn (by simp) hAn
            have hle:=zV (λx=>A x||x==n) l
            have:=sumC_max cl (m:=(l.length:Int)-(l.filter A).length-1) (λb hb c x hcb hx=>by
              have h1:=measA_add cl sb hno hx
              have h2:=ih (λx=>A x||x==n) (by omega) k c.1 x (hl n hn b hb c hcb) h1
              omega) (by simp only;omega) h
            omega
end
open Go.RowKit
set_option linter.unusedVariables false
set_option linter.unusedSimpArgs false
def hasV(b:aa)(c n:Int):Bool:=b.Words.any λw=>(w.Letter==c)&&(w.Value==n)
def letV(b:aa)(c:Int):Bool:=b.Words.any λw=>w.Letter==c
theorem codes_has(l:List ay)(c n:Int):(kr l c).any (λk=>n==k)=l.any λw=>(w.Letter==c)&&(w.Value==n):=by
 induction l with
 | nil=>rfl
 | cons w l ih =>
  unfold kr at ih ⊢
  rw[zE,←ih,List.filter_cons]
  have hc:(n==w.Value)=(w.Value==n):=by
   rw[Bool.eq_iff_iff];simp only[beq_iff_eq];exact⟨λh=>h.symm,λh=>h.symm⟩
  cases (w.Letter==c)with
  | true=>simp[hc]
  | false=>simp
theorem codes_let(l:List ay)(c:Int):decide (((kr l c).length:Int)>0)=l.any λw=>w.Letter==c:=by
 induction l with
 | nil=>rfl
 | cons w l ih =>
  unfold kr at ih ⊢
  rw[zE,←ih,List.filter_cons]
  cases (w.Letter==c)with
  | true=>simp
  | false=>simp
def fewB(b:aa):Prop:=b.Words.length≤1000
variable {b:aa}{c n:Int}
theorem ln(hb:fewB b):lp b c n=some (hasV b c n):=by
 unfold fewB at hb
 (unfold lp aU bq hasV;try delta jB rF)
 have hl:=codesV_len b.Words c
 rw[l9 b c (by omega),ae,aK (by omega),aN,←codes_has]
 have key:∀(l:List Int) (i:Nat),∃z:Ex Int Unit,az (λ(i127:Nat) (e129:Int) (v128:Unit)=>if (n==e129)=true then some (.ret (.ret (i127:Int)))else some (.go ())) (λ(v128:Unit)=>some (.go ())) l i ()=some z∧(match z with | .ret k=>0≤k∧l.any (λk=>n==k)=true | .go _=>l.any (λk=>n==k)=false):=by
  intro l
  induction l with
  | nil=>intro i;exact⟨_,rfl,rfl⟩
  | cons x l ih =>
   intro i
   simp only[az,zE]
   cases h:(n==x)with
   | true=>exact⟨.ret (i:Int),by simp,by omega,rfl⟩
   | false =>
    obtain⟨z,h1,h2⟩:=ih (i+1)
    exact⟨z,by simpa using h1,by simpa using h2⟩
 obtain⟨z,h1,h2⟩:=key (kr b.Words c) 0
 rw[h1]
 cases z with
 | ret k=>simp only[bindX_r,ae,h2.2];simp[h2.1]
 | go u=>simp only[d5,ae,h2];rfl
theorem r43_has_eq(hb:fewB b):nF b c n=some (hasV b c n):=by
 unfold fewB at hb
 (unfold nF hasV;try delta jB rF jV)
 rw[aK (by omega),aN,iQ (p:=λw:ay=>(w.Letter==c)&&(w.Value==n)) (r:=true) _ _ (λi x=>rfl)]
 cases b.Words.any λw=>(w.Letter==c)&&(w.Value==n)<;>rfl
def fxA{α:Type}(p:α→Bool):List α→Nat→Int
 | [],_=>-1
 | x::l,i=>if p x=true then (i:Int)else fxA p l (i+1)
variable {α:Type}
theorem ix_eq{β:Type}{p:α→Bool}{f:α→Option Bool}(k:Int→Option β)(l:List α)(hl:l.length≤9223372036854775807)(hf:∀x∈l,f x=some (p x)) :
  ah (bindX (av (be l) (az (λ(i:Nat) (e:α) (v:Unit)=>ah (f e) λ(y:Bool)=>if y=true then some (.ret (.ret (i:Int)))else some (.go ())) (λ(v:Unit)=>some (.go ())) l 0 ())) λ(_:Unit)=>some (-1)) k=k (fxA p l 0):=by
 rw[aK hl,aN]
 have key:∀(l:List α) (i:Nat),(∀x∈l,f x=some (p x))→bindX (az (λ(i:Nat) (e:α) (v:Unit)=>ah (f e) λ(y:Bool)=>if y=true then some (.ret (.ret (i:Int)))else some (.go ())) (λ(v:Unit)=>some (.go ())) l i ()) (λ(_:Unit)=>some (-1))=some (fxA p l i):=by
  intro l
  induction l with
  | nil=>intro i _;rfl
  | cons x l ih =>
   intro i hf
   simp only[az,hf x (by simp),ae,fxA]
   cases p x with
   | true=>rfl
   | false=>exact ih (i+1) (λy hy=>hf y (by simp[hy]))
 rw[key l 0 hf,ae]
theorem fxA_none{α:Type}{p:α→Bool}:∀(l:List α) (i:Nat),(∀x∈l,p x=false)→fxA p l i=-1
 | [],_,_=>rfl
 | x::l,i,h=>by rw[fxA,h x (by simp),oc (by simp)];exact fxA_none l (i+1) (λy hy=>h y (by simp[hy]))
theorem fxA_app{α:Type}{p:α→Bool}{x:α}{r:List α}(hx:p x=true):∀(l:List α) (i:Nat),(∀y∈l,p y=false)→fxA p (l++x::r) i=((i+l.length:Nat):Int)
 | [],i,_=>by simp[fxA,hx]
 | y::l,i,h=>by
  rw[zM,fxA,h y (by simp),oc (by simp),fxA_app hx l (i+1) (λz hz=>h z (by simp[hz])),zD]
  congr 1;omega
def mkV(b:aa):Bool:=letV b 79||(hasV b 77 30000||hasV b 77 99000)
theorem sp_marked_eq(hb:fewB b):gw b=some (mkV b):=by
 have hb':b.Words.length≤1000000:=by unfold fewB at hb;omega
 (unfold gw mkV;try delta jR)
 simp only[l9 b _ hb',ln hb,ae,codes_let]
 rw[show (b.Words.any λw=>w.Letter==79)=letV b 79 from rfl]
 cases letV b 79<;>cases hasV b 77 30000<;>cases hasV b 77 99000<;>rfl
variable {l r:List α}
theorem cutT_app:cutT (l++r) (l.length:Int)=some l:=by
 unfold cutT
 rw[oc (by simp;omega)];simp
theorem cutF_app:cutF (l++r) (l.length:Int)=some r:=by
 unfold cutF
 rw[oc (by simp;omega)];simp
theorem gt_app{x:α}:gt (l++x::r) (l.length:Int)=some x:=by
 unfold gt
 rw[oc (by omega)];simp
theorem clone_eq{l:List aa}(h:l.length≤100000):bn l=some l:=by unfold bn;rw[aQ (by omega),aN]
theorem split_c1(h:fewB b):fU b=some (hasV b 77 30000):=by unfold fU;rw[ln h,ae]
def plnB(b:aa):Bool:=((b.Words.length:Int)==1)&&(!b.Skip&&(b.Comment==[]))
theorem split_c2(h:fewB b):fT b=some (plnB b&&hasV b 77 99000):=by
 (unfold fT mi;try delta jR jV)
 rw[ae,show ((((b.Words.length:Int)==1)&&(!b.Skip&&(b.Comment==[]))))=plnB b from rfl]
 cases plnB b with
 | true=>simp only[og,ln h,ae,Bool.true_and]
 | false=>rfl
theorem mt(hb:fewB b):fc b c=some (letV b c):=by
 unfold fewB at hb
 unfold fc
 rw[r41_Codes_eq b c (by omega),ae,codes_let];rfl
theorem j0(hb:fewB b):fe b=some (hasV b 77 99000):=by unfold fe;rw[r43_has_eq hb,ae]
theorem fW(hb:fewB b):gU b=some (hasV b 77 30000):=by unfold gU;rw[r43_has_eq hb,ae]
structure okBB (b:aa):Prop where
 few:fewB b
 val:∀w∈b.Words,-9223372036854775808≤w.Value∧w.Value≤9223372036854775807
def whlV(n:Int):Int:=if n % 1000=0∧1000≤n∧n≤9999000 then n / 1000 else 0
theorem r43_whole_eq(h1:-9223372036854775808≤n)(h2:n≤9223372036854775807):ez n=some (whlV n):=by
 (unfold ez whlV;try delta jV)
 rcases (show n<1000∨1000≤n by omega)with h | h
 ·rw[od (by simp;omega),oc (by omega)]
 ·have e1:Int.tmod n 1000=n % 1000:=zZ (by omega)
  have e2:zR n 1000=n / 1000:=zG (by omega)
  rw[e1,e2]
  by_cases q:n % 1000=0∧1000≤n∧n≤9999000
  ·rw[od q,oc (by simp;omega),am (by omega) (by omega)]
  ·rw[oc q,od (by simp;omega)]
theorem sp_whole_eq(h1:-9223372036854775808≤n)(h2:n≤9223372036854775807):∃k,mh n=some (k,decide (whlV n≠0))∧(whlV n≠0→k=whlV n):=by
 (unfold mh whlV;try delta jV)
 have hq:-9223372036854775808≤zR n 1000∧zR n 1000≤9223372036854775807:=by
  rcases (show n<0∨0≤n by omega)with h | h
  ·have:zR n 1000=-((-n) / 1000):=by rw[←Int.neg_neg n,Int.neg_tdiv,zG (by omega),Int.neg_neg]
   omega
  ·rw[zG h];omega
 rw[am hq.1 hq.2]
 rcases (show n<1000∨1000≤n by omega)with h | h
 ·have h3:¬zR n 1000≥1:=by
   rcases (show n<0∨0≤n by omega)with h | h
   ·have:zR n 1000=-((-n) / 1000):=by rw[←Int.neg_neg n,Int.neg_tdiv,zG (by omega),Int.neg_neg]
    omega
   ·rw[zG h];omega
  rw[oc (by omega)]
  exact⟨zR n 1000,by rw[oi h3];simp,λq=>absurd rfl q⟩
 ·have e1:Int.tmod n 1000=n % 1000:=zZ (by omega)
  have e2:zR n 1000=n / 1000:=zG (by omega)
  rw[e1,e2]
  by_cases q:n % 1000=0∧1000≤n∧n≤9999000
  ·rw[od q]
   refine⟨n / 1000,?_,λ_=>rfl⟩
   rw[oh (show n / 1000≥1 by omega),oh (show n / 1000≤9999 by omega),oh (show n / 1000≠0 by omega),q.1];rfl
  ·rw[oc q]
   refine⟨n / 1000,?_,λh=>absurd rfl h⟩
   by_cases q1:n % 1000=0
   ·rw[oh (show n / 1000≥1 by omega),oi (show ¬n / 1000≤9999 by omega)];simp
   ·rw[show (n % 1000==0)=false by simp[q1]];simp
theorem whlV_bd(n:Int):whlV n=0∨(1≤whlV n∧whlV n≤9999):=by
 unfold whlV;split<;>omega
variable {i:Nat}
theorem cj{x:α}(h:l[i]? = some x):l.take (i+1)=l.take i++[x]:=by rw[List.take_add_one,h];rfl
variable {ε:Type}
theorem nC{α ν:Type}{f:Nat→α→ν→Option (Ex ε ν)}{d:ν→Option ε}{r:ε}(g:ν→α→Option ν)(R:Nat→ν→Prop){L:List α}
  (hf:∀i x v,L[i]? = some x→R i v→(∃u,g v x=some u∧f i x v=some (.go u)∧R (i+1) u)∨(g v x=none∧f i x v=some (.ret r))) :
  ∀(l:List α) (i:Nat) (v:ν),L.drop i=l→R i v→az f d l i v=match l.foldlM g v with | some u=>d u | none=>some r:=by
 intro l
 induction l with
 | nil=>intro i v _ _;rfl
 | cons x l ih =>
  intro i v hd hr
  have hx:L[i]? = some x:=by
   have h1:(L.drop i)[0]? = some x:=by rw[hd];rfl
   rwa [List.getElem?_drop,Nat.add_zero]at h1
  have hd2:L.drop (i+1)=l:=by rw[←zY,hd];rfl
  rcases hf i x v hx hr with⟨u,h1,h2,h3⟩|⟨h1,h2⟩
  ·simp only[az,h2,zT,h1]
   exact ih (i+1) u hd2 h3
  ·simp only[az,h2,zT,h1]
   rfl
abbrev CS:=Int×Int×Int×Int×Int×Int
def cs(u:CS)(w:ay):Option CS :=
 if (w.Letter==77)=true then some (u.1,u.2.1,u.2.2.1,u.2.2.2.1,u.2.2.2.2.1+1,u.2.2.2.2.2)
 else if (w.Letter==80)=true then some (whlV w.Value,u.2.1,u.2.2.1+1,u.2.2.2.1,u.2.2.2.2.1,u.2.2.2.2.2)
 else if (w.Letter==76)=true then some (u.1,whlV w.Value,u.2.2.1,u.2.2.2.1+1,u.2.2.2.2.1,u.2.2.2.2.2)
 else if (w.Letter==78)=true then some (u.1,u.2.1,u.2.2.1,u.2.2.2.1,u.2.2.2.2.1,u.2.2.2.2.2+1)
 else none
def badC(u:CS):Bool:=(u.2.2.2.2.1 != 1)||((u.2.2.1 != 1)||((decide (u.2.2.2.1>1))||((decide (u.2.2.2.2.2>1))||((u.1==0)||(u.2.1==0)))))
def eU(b:aa):Int×Int×Bool×Int :=
 if hasV b 77 98000=true then
  match b.Words.foldlM cs (0,1,0,0,0,0)with
  | none=>(0,0,false,1)
  | some u=>if badC u=true then (0,0,false,1)else (u.1,u.2.1,true,0)
 else (0,0,false,0)
def bdC(i:Nat)(u:CS):Prop:=(0≤u.2.2.1∧u.2.2.1≤i)∧(0≤u.2.2.2.1∧u.2.2.2.1≤i)∧(0≤u.2.2.2.2.1∧u.2.2.2.2.1≤i)∧(0≤u.2.2.2.2.2∧u.2.2.2.2.2≤i)∧(0≤u.1∧u.1≤9999)∧0≤u.2.1∧u.2.1≤9999
theorem cs_bd{u v:CS}{w:ay}(h:bdC i u)(hv:cs u w=some v):bdC (i+1) v:=by
 unfold cs at hv
 obtain⟨h1,h2,h3,h4,h5,h6⟩:=h
 have hw:=whlV_bd w.Value
 split at hv
 ·cases hv;exact⟨by simp only;omega,by simp only;omega,by simp only;omega,by simp only;omega,h5,h6⟩
 ·split at hv
  ·cases hv;exact⟨by simp only;omega,by simp only;omega,by simp only;omega,by simp only;omega,by simp only;omega,h6⟩
  ·split at hv
   ·cases hv;exact⟨by simp only;omega,by simp only;omega,by simp only;omega,by simp only;omega,h5,by simp only;omega⟩
   ·split at hv
    ·cases hv;exact⟨by simp only;omega,by simp only;omega,by simp only;omega,by simp only;omega,h5,h6⟩
    ·cases hv
theorem fold_bd:∀(l:List ay) (i:Nat) (u v:CS),bdC i u→l.foldlM cs u=some v→bdC (i+l.length) v
 | [],i,u,v,h,hv=>by cases hv;exact h
 | w::l,i,u,v,h,hv=>by
  rw[zT]at hv
  cases hc:cs u w with
  | none=>rw[hc]at hv;cases hv
  | some x =>
   rw[hc]at hv
   have:=fold_bd l (i+1) x v (cs_bd h hc) hv
   rw[zD]
   rwa [show i+(l.length+1)=i+1+l.length by omega]
theorem n9(b:aa):eU b=(0,0,false,0)∨eU b=(0,0,false,1)∨∃n t,eU b=(n,t,true,0)∧1≤n∧n≤9999∧1≤t∧t≤9999:=by
 unfold eU
 split
 ·cases hf:b.Words.foldlM cs (0,1,0,0,0,0)with
  | none=>exact .inr (.inl rfl)
  | some u =>
   simp only
   split
   ·exact .inr (.inl rfl)
   ·rename_i hb
    obtain⟨_,_,_,_,h5,h6⟩:=fold_bd _ 0 _ _ (by simp[bdC]) hf
    simp[badC]at hb
    exact .inr (.inr ⟨u.1,u.2.1,rfl,by omega,by omega,by omega,by omega⟩)
 ·exact .inl rfl
theorem kH(hb:okBB b):gi b=some (eU b):=by
 have hl:b.Words.length≤1000:=hb.few
 (unfold gi eU;try delta jB rF jV)
 rw[r43_has_eq hb.few,ae]
 cases hh:hasV b 77 98000 with
 | false=>rfl
 | true =>
  simp only[zI,zA,oe,og]
  rw[aK (by omega),aN,nC (L:=b.Words) (r:=Ex.ret (0,0,false,1)) cs (λi u=>bdC i u) ?_ b.Words 0 (0,1,0,0,0,0) rfl (by simp[bdC])]
  ·cases b.Words.foldlM cs (0,1,0,0,0,0)with
   | none=>rfl
   | some u =>
    show (if badC u=true then some ((0:Int),(0:Int),false,(1:Int))else some (u.1,u.2.1,true,0))=some (if badC u=true then (0,0,false,1)else (u.1,u.2.1,true,0))
    cases badC u<;>rfl
  ·intro i w u hw hu
   have hlt:=ak hw
   obtain⟨h1,h2,h3,h4,h5,h6⟩:=id hu
   have hval:=hb.val w (List.mem_of_getElem? hw)
   have hwh:=r43_whole_eq hval.1 hval.2
   have e1:IntKind.i64.wrap (u.2.2.1+1)=u.2.2.1+1:=am (by omega) (by omega)
   have e2:IntKind.i64.wrap (u.2.2.2.1+1)=u.2.2.2.1+1:=am (by omega) (by omega)
   have e3:IntKind.i64.wrap (u.2.2.2.2.1+1)=u.2.2.2.2.1+1:=am (by omega) (by omega)
   have e4:IntKind.i64.wrap (u.2.2.2.2.2+1)=u.2.2.2.2.2+1:=am (by omega) (by omega)
   simp only[e1,e2,e3,e4,hwh,ae]
   cases hc:cs u w with
   | none =>
    right
    refine⟨rfl,?_⟩
    unfold cs at hc
    cases g1:(w.Letter==77)with
    | true=>rw[g1]at hc;cases hc
    | false =>
     cases g2:(w.Letter==80)with
     | true=>rw[g1,g2]at hc;cases hc
     | false =>
      cases g3:(w.Letter==76)with
      | true=>rw[g1,g2,g3]at hc;cases hc
      | false =>
       cases g4:(w.Letter==78)with
       | true=>rw[g1,g2,g3,g4]at hc;cases hc
       | false=>rfl
   | some v =>
    left
    refine⟨v,rfl,?_,cs_bd hu hc⟩
    unfold cs at hc
    cases g1:(w.Letter==77)with
    | true=>rw[g1]at hc;cases hc;rfl
    | false =>
     cases g2:(w.Letter==80)with
     | true=>rw[g1,g2]at hc;cases hc;rfl
     | false =>
      cases g3:(w.Letter==76)with
      | true=>rw[g1,g2,g3]at hc;cases hc;rfl
      | false =>
       cases g4:(w.Letter==78)with
       | true=>rw[g1,g2,g3,g4]at hc;cases hc;rfl
       | false=>rw[g1,g2,g3,g4]at hc;cases hc
def relC(i:Nat)(v:Int×Int×Bool×List (Int×Int))(u:CS):Prop :=
 bdC i u∧(mget v.2.2.2 77).getD 0=u.2.2.2.2.1∧(mget v.2.2.2 80).getD 0=u.2.2.1∧(mget v.2.2.2 76).getD 0=u.2.2.2.1∧(mget v.2.2.2 78).getD 0=u.2.2.2.2.2 ∧
 (v.2.2.1=true→v.1=u.1∧v.2.1=u.2.1∧(1≤u.2.2.1→u.1≠0)∧u.2.1≠0)∧(v.2.2.1=false→2≤u.2.2.1∨2≤u.2.2.2.1∨(1≤u.2.2.1∧u.1=0)∨(1≤u.2.2.2.1∧u.2.1=0))
theorem mj(hb:okBB b):iO b=some (eU b):=by
 have hl:b.Words.length≤1000:=hb.few
 suffices h:Tot (iO b) (λc=>c=eU b) by
  obtain⟨c,h1,h2⟩:=h
  rw[h1,h2]
 (unfold iO eU;try delta jB jC jR rF jV)
 rw[ln hb.few,ae]
 cases hh:hasV b 77 98000 with
 | false=>exact⟨_,rfl,rfl⟩
 | true =>
  simp only[zI,zA,oe,og]
  refine Tot.bind (E:=λv=>match b.Words.foldlM cs (0,1,0,0,0,0)with | none=>v.2.2.1=false | some u=>relC b.Words.length v u) (Tot.guard (aK (by omega)) (Tot.range (λi v=>match (b.Words.take i).foldlM cs (0,1,0,0,0,0)with | none=>v.2.2.1=false | some u=>relC i v u) _ ?_ (λi w v hw hr=>?_) (λv hv=>?_))) (λv hv=>?_)
  ·show relC 0 _ _
   refine⟨by simp[bdC],rfl,rfl,rfl,rfl,λ_=>⟨rfl,rfl,λh=>?_,?_⟩,λh=>by cases h⟩
   ·simp at h
   ·simp
  ·have hlt:=ak hw
   have hval:=hb.val w (List.mem_of_getElem? hw)
   obtain⟨k,hk,hk2⟩:=sp_whole_eq hval.1 hval.2
   have hwb:=whlV_bd w.Value
   refine TotX.of ?_
   rw[hk,ae]
   simp only
   have hcnt:∀c,(mget (mput v.2.2.2 w.Letter (IntKind.i64.wrap (((mget v.2.2.2 w.Letter).getD 0)+1))) c).getD 0=if (c==w.Letter)=true then IntKind.i64.wrap (((mget v.2.2.2 w.Letter).getD 0)+1)else (mget v.2.2.2 c).getD 0:=by
    intro c
    rw[kJ]
    split<;>rfl
   generalize hM:mput v.2.2.2 w.Letter (IntKind.i64.wrap (((mget v.2.2.2 w.Letter).getD 0)+1))=M at *
   rw[cj hw,List.foldlM_append]
   cases hf:(b.Words.take i).foldlM cs (0,1,0,0,0,0)with
   | none =>
    rw[hf]at hr
    simp only at hr
    simp only[hr,Bool.false_and,ite_self,ae]
    cases g2:(w.Letter==80)<;>cases g3:(w.Letter==76)<;>cases g1:(w.Letter==77)<;>cases g4:(w.Letter==78)<;>exact⟨_,rfl,rfl⟩
   | some u =>
    rw[hf]at hr
    simp only at hr
    obtain⟨hbd,c1,c2,c3,c4,c5,c6⟩:=id hr
    obtain⟨b1,b2,b3,b4,b5,b6⟩:=id hbd
    simp only[Option.bind_eq_bind,Option.bind_some,zT,List.foldlM_nil]
    cases hc:cs u w with
    | none =>
     simp only[Option.bind_none]
     unfold cs at hc
     cases g1:(w.Letter==77)with
     | true=>rw[g1]at hc;cases hc
     | false =>
      cases g2:(w.Letter==80)with
      | true=>rw[g1,g2]at hc;cases hc
      | false =>
       cases g3:(w.Letter==76)with
       | true=>rw[g1,g2,g3]at hc;cases hc
       | false =>
        cases g4:(w.Letter==78)with
        | true=>rw[g1,g2,g3,g4]at hc;cases hc
        | false=>exact⟨_,rfl,rfl⟩
    | some x =>
     have hx:=cs_bd hbd hc
     simp only[Option.bind_some,Option.pure_def]
     unfold cs at hc
     cases g1:(w.Letter==77)with
     | true =>
      rw[g1]at hc;cases hc
      have gl:w.Letter=77:=eq_of_beq g1
      rw[gl]at hcnt
      refine⟨_,(by (try simp only[gl]);rfl),(?_:relC (i+1) _ _)⟩
      refine⟨hx,?_,?_,?_,?_,c5,c6⟩
      ·rw[hcnt,od (by decide),c1,am (by omega) (by omega)]
      ·rw[hcnt,oc (by decide),c2]
      ·rw[hcnt,oc (by decide),c3]
      ·rw[hcnt,oc (by decide),c4]
     | false =>
      cases g2:(w.Letter==80)with
      | true =>
       rw[g1,g2]at hc;cases hc
       have gl:w.Letter=80:=eq_of_beq g2
       rw[gl]at hcnt
       refine⟨_,(by (try simp only[gl]);rfl),(?_:relC (i+1) _ _)⟩
       refine⟨hx,?_,?_,?_,?_,?_,?_⟩
       ·rw[hcnt,oc (by decide),c1]
       ·rw[hcnt,od (by decide),c2,am (by omega) (by omega)]
       ·rw[hcnt,oc (by decide),c3]
       ·rw[hcnt,oc (by decide),c4]
       ·intro h
        simp only[zU,oo]at h
        obtain⟨d1,d2,d3,d4⟩:=c5 h.1
        exact⟨hk2 h.2,d2,λ_=>h.2,d4⟩
       ·intro h
        simp only[Bool.and_eq_false_iff,decide_eq_false_iff_not,ne_eq,Decidable.not_not]at h
        simp only
        rcases h with h | h
        ·rcases c6 h with q | q | q | q
         ·omega
         ·omega
         ·omega
         ·omega
        ·omega
      | false =>
       cases g3:(w.Letter==76)with
       | true =>
        rw[g1,g2,g3]at hc;cases hc
        have gl:w.Letter=76:=eq_of_beq g3
        rw[gl]at hcnt
        refine⟨_,(by (try simp only[gl]);rfl),(?_:relC (i+1) _ _)⟩
        refine⟨hx,?_,?_,?_,?_,?_,?_⟩
        ·rw[hcnt,oc (by decide),c1]
        ·rw[hcnt,oc (by decide),c2]
        ·rw[hcnt,od (by decide),c3,am (by omega) (by omega)]
        ·rw[hcnt,oc (by decide),c4]
        ·intro h
         simp only[zU,oo]at h
         obtain⟨d1,d2,d3,d4⟩:=c5 h.1
         exact⟨d1,hk2 h.2,d3,h.2⟩
        ·intro h
         simp only[Bool.and_eq_false_iff,decide_eq_false_iff_not,ne_eq,Decidable.not_not]at h
         simp only
         rcases h with h | h
         ·rcases c6 h with q | q | q | q
          ·omega
          ·omega
          ·omega
          ·omega
         ·omega
       | false =>
        cases g4:(w.Letter==78)with
        | true =>
         rw[g1,g2,g3,g4]at hc;cases hc
         have gl:w.Letter=78:=eq_of_beq g4
         rw[gl]at hcnt
         refine⟨_,(by (try simp only[gl]);rfl),(?_:relC (i+1) _ _)⟩
         refine⟨hx,?_,?_,?_,?_,c5,c6⟩
         ·rw[hcnt,oc (by decide),c1]
         ·rw[hcnt,oc (by decide),c2]
         ·rw[hcnt,oc (by decide),c3]
         ·rw[hcnt,od (by decide),c4,am (by omega) (by omega)]
        | false=>rw[g1,g2,g3,g4]at hc;cases hc
  ·rw[List.take_length]at hv
   exact⟨_,rfl,hv⟩
  ·cases hf:b.Words.foldlM cs (0,1,0,0,0,0)with
   | none =>
    rw[hf]at hv
    simp only at hv
    rw[hv]
    exact⟨_,rfl,rfl⟩
   | some u =>
    rw[hf]at hv
    simp only at hv
    obtain⟨hbd,c1,c2,c3,c4,c5,c6⟩:=hv
    rw[c1,c2,c3,c4]
    simp only
    cases ho:v.2.2.1 with
    | false =>
     have hbad:badC u=true:=by
      have:=c6 ho
      obtain⟨b1,b2,b3,b4,b5,b6⟩:=hbd
      simp only[badC,Bool.or_eq_true,bne_iff_ne,ne_eq,oo,beq_iff_eq]
      omega
     rw[hbad]
     exact⟨_,rfl,rfl⟩
    | true =>
     obtain⟨d1,d2,d3,d4⟩:=c5 ho
     have hbad:badC u=((u.2.2.2.2.1 != 1)||((u.2.2.1 != 1)||((decide (u.2.2.2.1>1))||decide (u.2.2.2.2.2>1)))):=by
      unfold badC
      cases q1:(u.2.2.2.2.1 != 1)with
      | true=>rfl
      | false =>
       cases q2:(u.2.2.1 != 1)with
       | true=>rfl
       | false =>
        have e2:u.2.2.1=1:=by simpa using q2
        have e3:=d3 (by omega)
        rw[show (u.1==0)=false by simpa using e3,show (u.2.1==0)=false by simpa using d4]
        simp
     rw[hbad,d1,d2]
     cases (u.2.2.2.2.1 != 1)with
     | true=>exact⟨_,rfl,rfl⟩
     | false =>
      cases (u.2.2.1 != 1)with
      | true=>exact⟨_,rfl,rfl⟩
      | false =>
       cases decide (u.2.2.2.1>1)with
       | true=>exact⟨_,rfl,rfl⟩
       | false=>cases decide (u.2.2.2.2.2>1)<;>exact⟨_,rfl,rfl⟩
abbrev retV(b:aa):Bool:=hasV b 77 99000
abbrev endV(b:aa):Bool:=hasV b 77 30000
abbrev oV(b:aa):Bool:=letV b 79
def begV(b:aa):Option Int:=match b.Words with
 | [w]=>if ((w.Letter==79)&&(!b.Skip&&(b.Comment==[])))=true then (if whlV w.Value≠0 then some (whlV w.Value)else none)else none
 | _=>none
theorem plnB_one{w:ay}(h:b.Words=[w]):plnB b=(!b.Skip&&(b.Comment==[])):=by unfold plnB;rw[h];rfl
theorem plnB_no(h:b.Words.length≠1):plnB b=false:=by
 unfold plnB
 rw[show ((b.Words.length:Int)==1)=false by simp;omega];rfl
theorem begin_eq(hb:okBB b):∃k,gz b=some (k,(begV b).isSome)∧∀n,begV b=some n→k=n:=by
 (unfold gz mi;try delta jR jV)
 rw[ae,show ((((b.Words.length:Int)==1)&&(!b.Skip&&(b.Comment==[]))))=plnB b from rfl]
 cases hw:b.Words with
 | nil=>rw[plnB_no (by rw[hw];simp)];exact⟨0,by simp[begV,hw],λn h=>by simp[begV,hw]at h⟩
 | cons w r =>
  cases r with
  | cons x r=>rw[plnB_no (by rw[hw];simp)];exact⟨0,by simp[begV,hw],λn h=>by simp[begV,hw]at h⟩
  | nil =>
   have hval:=hb.val w (by rw[hw];simp)
   obtain⟨k,hk,hk2⟩:=sp_whole_eq hval.1 hval.2
   rw[plnB_one hw]
   have hg:gt [w] 0=some w:=rfl
   unfold begV
   rw[hw]
   cases hp:(!b.Skip&&(b.Comment==[]))with
   | false=>exact⟨0,by simp,λn h=>by simp at h⟩
   | true =>
    simp only[og,hg,ae,bne]
    cases hl:(w.Letter==79)with
    | false=>exact⟨0,by simp,λn h=>by simp at h⟩
    | true =>
     simp only[zI,zA,oe,hk,ae,Bool.and_self,og]
     by_cases hz:whlV w.Value≠0
     ·rw[od hz]
      exact⟨k,by simp[hz],λn h=>by cases h;exact hk2 hz⟩
     ·rw[oc hz]
      exact⟨k,by simp[hz],λn h=>by cases h⟩
theorem only_eq(b:aa)(c:Int):jt b c=some (match b.Words with | [w]=>(w.Letter==c)&&(!b.Skip&&(b.Comment==[])) | _=>false):=by
 (unfold jt;try delta jR)
 cases hw:b.Words with
 | nil=>rfl
 | cons w r =>
  cases r with
  | cons x r =>
   rw[show (((w::x::r).length:Int)==1)=false by simp;omega];rfl
  | nil =>
   rw[show (([w]:List ay).length:Int)==1 from rfl,show gt [w] 0=some w from rfl]
   simp only[og,ae]
   cases (w.Letter==c)<;>cases b.Skip<;>rfl
theorem only_M(h:retV b=true):jt b 77=some (plnB b):=by
 rw[only_eq]
 cases hw:b.Words with
 | nil=>rw[plnB_no (by rw[hw];simp)]
 | cons w r =>
  cases r with
  | cons x r=>rw[plnB_no (by rw[hw];simp)]
  | nil =>
   rw[plnB_one hw]
   unfold retV hasV at h
   rw[hw]at h
   simp only[zE,List.any_nil,Bool.or_false,zU]at h
   simp[h.1]
theorem beg_no(h:begV b=some n):retV b=false:=by
 unfold begV at h
 split at h
 ·rename_i w hw
  split at h
  ·rename_i q
   simp only[zU]at q
   unfold retV hasV
   rw[hw]
   have:w.Letter=79:=eq_of_beq q.1
   simp[this]
  ·cases h
 ·cases h
def cn(p:aa→Bool):List aa→Option (List aa×aa×List aa)
 | []=>none
 | b::r=>if p b=true then some ([],b,r)else (cn p r).map λx=>(b::x.1,x.2)
theorem db{p:aa→Bool}:∀{l X r:List aa} {e:aa},cn p l=some (X,e,r)→l=X++e::r∧p e=true∧∀b∈X,p b=false
 | [],_,_,_,h=>by cases h
 | b::l,X,r,e,h=>by
  unfold cn at h
  cases hp:p b with
  | true =>
   rw[hp,od rfl]at h
   cases h
   exact⟨rfl,hp,λb hb=>by cases hb⟩
  | false =>
   rw[hp,oc (by simp)]at h
   obtain⟨⟨Y,f,q⟩,h1,h2⟩:=Option.map_eq_some_iff.1 h
   cases h2
   obtain⟨a1,a2,a3⟩:=db h1
   refine⟨by rw[a1];rfl,a2,λc hc=>?_⟩
   rcases List.mem_cons.1 hc with rfl | hc
   ·exact hp
   ·exact a3 c hc
theorem fR{p:aa→Bool}:∀{l:List aa},cn p l=none→∀b∈l,p b=false
 | [],_,b,hb=>by cases hb
 | c::l,h,b,hb=>by
  unfold cn at h
  cases hp:p c with
  | true=>rw[hp,od rfl]at h;cases h
  | false =>
   rw[hp,oc (by simp)]at h
   have h1:cn p l=none:=by
    cases hq:cn p l with
    | none=>rfl
    | some x=>rw[hq]at h;cases h
   rcases List.mem_cons.1 hb with rfl | hb
   ·exact hp
   ·exact fR h1 b hb
abbrev SubL:=List (Int×List aa)
def kg:Nat→List aa→Option SubL
 | _,[]=>some []
 | 0,_::_=>none
 | n+1,b::r=>match begV b with
  | none=>none
  | some k=>match cn (λx=>plnB x&&retV x) r with
   | none=>none
   | some x=>(kg n x.2.2).map ((k,x.1)::·)
def refV:Nat→List aa→Option SubL
 | _,[]=>some []
 | 0,_::_=>none
 | n+1,b::r=>match begV b with
  | none=>none
  | some k=>match cn retV r with
   | none=>none
   | some x=>if (x.1.any (λy=>endV y||oV y)||!plnB x.2.1)=true then none else (refV n x.2.2).map ((k,x.1)::·)
def cleanS(S:SubL):Bool:=S.all λs=>s.2.all λx=>!mkV x
variable {X:List aa}
theorem n7{k:Int}{S:SubL}:cleanS ((k,X)::S)=((X.all λx=>!mkV x)&&cleanS S):=rfl
theorem stop_two:∀{l X r:List aa} {e:aa},cn retV l=some (X,e,r) →
  (plnB e=true→cn (λx=>plnB x&&retV x) l=some (X,e,r))∧(plnB e=false→∀Y f q,cn (λx=>plnB x&&retV x) l=some (Y,f,q)→Y.all (λx=>!mkV x)=false)
 | [],_,_,_,h=>by cases h
 | b::l,X,r,e,h=>by
  unfold cn at h ⊢
  cases hp:retV b with
  | true =>
   rw[hp,od rfl]at h
   cases h
   refine⟨λhq=>by simp[hq,hp],λhq Y f q hy=>?_⟩
   rw[oc (by simp[hq])]at hy
   obtain⟨⟨Z,g,t⟩,h1,h2⟩:=Option.map_eq_some_iff.1 hy
   cases h2
   simp[mkV,show hasV b 77 99000=true from hp]
  | false =>
   rw[hp,oc (by simp)]at h
   obtain⟨⟨Y,f,q⟩,h1,h2⟩:=Option.map_eq_some_iff.1 h
   cases h2
   obtain⟨a1,a2⟩:=stop_two h1
   refine⟨λhq=>by rw[oc (by simp[hp]),a1 hq];rfl,λhq Y' f' q' hy=>?_⟩
   rw[oc (by simp[hp])]at hy
   obtain⟨⟨Z,g,t⟩,h3,h4⟩:=Option.map_eq_some_iff.1 hy
   cases h4
   rw[List.all_cons,a2 hq _ _ _ h3,Bool.and_false]
theorem stop_none:∀{l:List aa},cn retV l=none→cn (λx=>plnB x&&retV x) l=none
 | [],_=>rfl
 | b::l,h=>by
  have h0:=fR h b (by simp)
  unfold cn at h ⊢
  rw[h0,oc (by simp)]at h
  rw[oc (by simp[h0])]
  have h1:cn retV l=none:=by
   cases hq:cn retV l with
   | none=>rfl
   | some x=>rw[hq]at h;cases h
  rw[stop_none h1];rfl
theorem mk_ret(h:∀b∈X,retV b=false):X.all (λx=>!mkV x)=!X.any (λy=>endV y||oV y):=by
 induction X with
 | nil=>rfl
 | cons b l ih =>
  rw[List.all_cons,zE,ih λc hc=>h c (by simp[hc])]
  have:=h b (by simp)
  unfold mkV
  rw[show hasV b 77 99000=false from this]
  show (!(oV b||(endV b||false))&&_)=!((endV b||oV b)||_)
  cases oV b<;>cases endV b<;>simp
theorem ref_prog:∀(n:Nat) (l:List aa),refV n l=match kg n l with | none=>none | some S=>if cleanS S=true then some S else none
 | _,[]=>by unfold refV kg;rfl
 | 0,_::_=>by unfold refV kg;rfl
 | n+1,b::r=>by
  unfold refV kg
  cases hb:begV b with
  | none=>rfl
  | some k =>
   simp only
   cases hs:cn retV r with
   | none=>rw[stop_none hs]
   | some x =>
    obtain⟨X,e,r'⟩:=x
    obtain⟨s1,s2⟩:=stop_two hs
    have hX:=(db hs).2.2
    simp only
    cases hp:plnB e with
    | true =>
     rw[s1 hp]
     simp only[zI,Bool.or_false]
     rw[ref_prog n r']
     have hm:=mk_ret hX
     cases ha:X.any (λy=>endV y||oV y)with
     | true =>
      rw[ha]at hm
      rw[od rfl]
      cases kg n r' with
      | none=>rfl
      | some S=>simp[n7,hm]
     | false =>
      rw[ha]at hm
      rw[oc (by simp)]
      cases kg n r' with
      | none=>rfl
      | some S =>
       simp only[zP,n7,hm,zQ,Bool.true_and]
       cases cleanS S<;>rfl
    | false =>
     simp only[zQ,Bool.or_true,og]
     cases hq:cn (λx=>plnB x&&retV x) r with
     | none=>rfl
     | some y =>
      obtain⟨Y,f,q⟩:=y
      have:=s2 hp _ _ _ hq
      simp only
      cases kg n q with
      | none=>rfl
      | some S=>simp[n7,this]
def dupL:List Int→List Int→Bool
 | _,[]=>false
 | seen,n::r=>seen.contains n||dupL (seen++[n]) r
theorem dup_nodup:∀{ns seen:List Int},dupL seen ns=false→seen.Nodup→(seen++ns).Nodup
 | [],seen,_,h=>by simpa using h
 | n::r,seen,h,hs=>by
  unfold dupL at h
  simp only[Bool.or_eq_false_iff]at h
  have h1:n∉seen:=by simpa using h.1
  have h2:(seen++[n]).Nodup:=by
   rw[List.nodup_append]
   exact⟨hs,by simp,λa ha b hb=>by simp at hb;subst hb;rintro rfl;exact h1 ha⟩
  have:=dup_nodup h.2 h2
  simpa using this
def iK(l:List aa):List aa×SubL×Int :=
 match cn endV l with
 | none=>([],[],1)
 | some x=>if (x.1++[x.2.1]).any (λb=>retV b||oV b)=true then ([],[],1)else
  match refV x.2.2.length x.2.2 with
  | none=>([],[],1)
  | some S=>if dupL [] (S.map (·.1))=true then ([],[],5)else (x.1++[x.2.1],S,0)
def toP(S:SubL):List aH:=S.map λs=>⟨s.1,s.2⟩
def toR(S:SubL):List dg:=S.map λs=>⟨s.1,s.2⟩
theorem fxA_any{α:Type}{p:α→Bool}:∀(l:List α) (i:Nat),decide (fxA p l i≥0)=l.any p
 | [],i=>rfl
 | x::l,i=>by
  rw[fxA,zE]
  cases hp:p x with
  | true=>simp
  | false=>rw[oc (by simp),fxA_any l (i+1)];rfl
theorem clean_b(h:∀b∈X,endV b=false):X.any mkV=X.any λb=>retV b||oV b:=by
 induction X with
 | nil=>rfl
 | cons b l ih =>
  rw[zE,zE,ih λc hc=>h c (by simp[hc])]
  have:=h b (by simp)
  unfold mkV
  rw[show hasV b 77 30000=false from this]
  show ((oV b||(false||retV b))||_)=((retV b||oV b)||_)
  cases oV b<;>cases retV b<;>simp
theorem ordered_c1'{s:aH}(h:∀b∈s.Blocks,fewB b)(hl:s.Blocks.length≤9223372036854775807):d9 s=some (s.Blocks.any mkV):=by
 (unfold d9;try delta jB rF iF)
 rw[ix_eq (p:=mkV) (f:=gw) _ s.Blocks hl (λb hb=>sp_marked_eq (h b hb)),ae,fxA_any]
theorem ordered_val {X : List aa} {E : aa} {S : SubL} (hX : ∀ b ∈ X ++ [E], fewB b) (hXe : ∀ b ∈ X, endV b = false) (hE : endV E = true) (hS : ∀ s ∈ S, s.2.length ≤ 100000 ∧ ∀ b ∈ s.2, fewB b) (hl : X.length ≤ 100000) (hs : S.length ≤ 100000) :
    iw ⟨X++[E],toP S⟩=some (!((X++[E]).any λb=>retV b||oV b)&&cleanS S):=by
  have hw:IntKind.i64.wrap (((X++[E]).length:Int)-1)=(X.length:Int):=by rw[am (by simp only[zH,List.length_singleton];omega) (by simp only[zH,List.length_singleton];omega)];simp
  have hfE:fewB E:=hX E (by simp)
  have hE':E.Words.length≤1000000:=by have:=hfE;unfold fewB at this;omega
  have hco:decide (((kr E.Words 79).length:Int)>0)=oV E:=codes_let _ _
  (unfold iw;try delta jB jR rF iF)
  simp only[hw,oi (show ¬(X.length:Int)<0 by omega),gt_app,ae,ln hfE,show hasV E 77 30000=true from hE,l9 E _ hE',hco,cutT_app,og,zA,oe]
  have hany:((X++[E]).any λb=>retV b||oV b)=((X.any λb=>retV b||oV b)||(retV E||oV E)):=by rw[List.any_append];simp
  rw[hany]
  cases ho:oV E with
  | true=>simp
  | false =>
    simp only[zA,oe,Bool.or_false]
    cases hr:retV E with
    | true=>rw[show hasV E 77 99000=true from hr];simp
    | false =>
      rw[show hasV E 77 99000=false from hr]
      simp only[zA,oe,Bool.or_false]
      rw[ix_eq (p:=mkV) (f:=gw) _ X (by omega) (λb hb=>sp_marked_eq (hX b (by simp[hb])))]
      simp only[ae,fxA_any,clean_b hXe]
      cases hx:(X.any λb=>retV b||oV b)with
      | true=>simp
      | false =>
        simp only[zA,oe,zQ,Bool.true_and]
        rw[ix_eq (p:=λs:aH=>s.Blocks.any mkV) (f:=d9) _ (toP S) (by unfold toP;simp;omega) (λs hs'=>by
          unfold toP at hs'
          obtain⟨t,ht,rfl⟩:=List.mem_map.1 hs'
          obtain⟨q1,q2⟩:=hS t ht
          exact ordered_c1' q2 (by simp only;omega))]
        simp only[ae,fxA_any]
        congr 1
        unfold toP cleanS
        clear hs hS
        induction S with
        | nil=>rfl
        | cons s r ih =>
          rw[List.map_cons,zE,List.all_cons,←ih,Bool.not_or]
          congr 1
          induction s.2 with
          | nil=>rfl
          | cons b l ih2=>simp only[zE,List.all_cons,Bool.not_or,←ih2]
theorem rep_in (n : Int) (l : List aH) (hl : l.length ≤ 100000) : (ah (bindX (av (be l) (
                    az (λ(i2:Nat) (e2:aH) (v2:Unit) =>
                      if (n==e2.Number)=true then
                        some (.ret (.ret (i2:Int)))
                      else
                        some (.go ())) (λ(v2:Unit)=>some (.go ())) l 0 ())) λ(v4:Unit) =>
                some (-1)) λ(v5:Int) =>
            some (decide (v5≥0)))=some (l.any λt=>n==t.Number):=by
  have h:=ix_eq (p:=λt:aH=>n==t.Number) (f:=λt=>some (n==t.Number)) (λv5:Int=>some (decide (v5≥0))) l (by omega) (λx _=>rfl)
  rw[fxA_any]at h
  exact h
theorem repeated_val(S:List aH)(hs:S.length≤100000):fS S=some (dupL [] (S.map (·.Number))):=by
  (unfold fS;try delta jB rF iF)
  rw[aK (by omega),aN]
  have key : ∀ (r : List aH) (i : Nat), S.drop i = r → az (λ(i1 : Nat) (e1 : aH) (v1 : Unit) =>
        ah (cutT S (i1:Int)) λ(s1:(List aH)) =>
        ah (ah (bindX (av (be s1) (
                    az (λ(i2:Nat) (e2:aH) (v2:Unit) =>
                      ah (some ()) λ(v3:Unit) =>
                      if (e1.Number==e2.Number)=true then
                        some (.ret (.ret (i2:Int)))
                      else
                        some (.go ())) (λ(v2:Unit)=>some (.go ())) s1 0 ())) λ(v4:Unit) =>
                some (-1)) λ(v5:Int) =>
            some (decide (v5≥0))) λ(v6:Bool) =>
        if v6=true then
          some (.ret (.ret true))
        else
          some (.go ())) (λ(v1:Unit)=>some (.go ())) r i ()=(if dupL ((S.take i).map (·.Number)) (r.map (·.Number))=true then some (.ret true)else some (.go ()):Option (Ex Bool Unit)):=by
    intro r
    induction r with
    | nil=>intro i _;rfl
    | cons x r ih =>
      intro i hd
      have hx:S[i]? = some x:=by
        have h1:(S.drop i)[0]? = some x:=by rw[hd];rfl
        rwa [List.getElem?_drop,Nat.add_zero]at h1
      have hlt:=ak hx
      have hd2:S.drop (i+1)=r:=by rw[←zY,hd];rfl
      have hc:cutT S (i:Int)=some (S.take i):=by unfold cutT;rw[oc (by omega)];simp
      simp only[az,hc,ae]
      rw[rep_in x.Number (S.take i) (by rw[List.length_take];omega)]
      simp only[ae,List.map_cons,dupL]
      have hany:((S.take i).any λt=>x.Number==t.Number)=((S.take i).map (·.Number)).contains x.Number:=by
        induction S.take i with
        | nil=>rfl
        | cons y l ih2=>rw[zE,ih2,List.map_cons,List.contains_cons]
      rw[hany]
      cases ((S.take i).map (·.Number)).contains x.Number with
      | true=>rfl
      | false =>
        simp only[zA,oe,zN]
        have:=ih (i+1) hd2
        rw[cj hx,List.map_append]at this
        exact this
  rw[key S 0 rfl]
  cases hd:dupL ((S.take 0).map (·.Number)) (S.map (·.Number))with
  | true=>rw[List.take_zero,List.map_nil]at hd;rw[hd];rfl
  | false=>rw[List.take_zero,List.map_nil]at hd;rw[hd];rfl
variable {bad:ε}
theorem loop_prog{f:(List aa)×(List aH)→Option (Ex (Ex ε (List aH)) ((List aa)×(List aH)))}
  (h0:∀subs,f ([],subs)=some (.ret (.go subs)))
  (h1:∀b r subs,subs.length+(r.length+1)≤1000→(∀x∈b::r,okBB x)→f (b::r,subs)=match begV b with | none=>some (.ret (.ret bad)) | some k=>match cn (λx=>plnB x&&retV x) r with | none=>some (.ret (.ret bad)) | some x=>some (.go (x.2.2,subs++[⟨k,x.1⟩]))) :
  ∀(n m:Nat) (rest:List aa) (subs:List aH),rest.length≤n→n<m→subs.length+rest.length≤1000→(∀x∈rest,okBB x)→bt f m (rest,subs)=match kg n rest with | none=>some (.ret bad) | some S=>some (.go (subs++toP S)):=by
 intro n
 induction n with
 | zero =>
  intro m rest subs hr hm hl hb
  obtain⟨m,rfl⟩:∃q,m=q+1:=⟨m-1,by omega⟩
  have:rest=[]:=zK (by omega)
  subst this
  unfold kg
  rw[bt,h0]
  simp[toP]
 | succ n ih =>
  intro m rest subs hr hm hl hb
  obtain⟨m,rfl⟩:∃q,m=q+1:=⟨m-1,by omega⟩
  cases rest with
  | nil =>
   unfold kg
   rw[bt,h0]
   simp[toP]
  | cons b r =>
   rw[bt,h1 b r subs (by simpa using hl) hb]
   unfold kg
   cases begV b with
   | none=>rfl
   | some k =>
    simp only
    cases hs:cn (λx=>plnB x&&retV x) r with
    | none=>rfl
    | some x =>
     obtain⟨X,e,r'⟩:=x
     obtain⟨e1,_,_⟩:=db hs
     simp only
     have hlen:X.length+r'.length+1=r.length:=by rw[e1];simp;omega
     rw[zD]at hr hl
     rw[ih m r' (subs++[aH.mk k X]) (by omega) (by omega) (by simp;omega) (λx hx=>hb x (by rw[e1];simp[hx]))]
     cases kg n r' with
     | none=>rfl
     | some S=>simp[toP]
theorem cut_body{b:α}{X:List α}{e:α}:cutL (b::(X++e::r)) 1 ((1+X.length:Nat):Int)=some X:=by
 unfold cutL
 rw[oc (by simp;omega)]
 simp
 rw[show ((1:Int)+(X.length:Int)).toNat-1=X.length by omega]
 simp
theorem sp_Split_eq{l:List aa}(hl:l.length≤1000)(hb:∀b∈l,okBB b):sp_Split l=some (⟨(iK l).1,toP (iK l).2.1⟩,(iK l).2.2):=by
 (unfold sp_Split;try delta jB rF lF jV gF iF)
 rw[ix_eq (p:=endV) (f:=fU) _ l (by omega) (λb q=>split_c1 (hb b q).few)]
 unfold iK
 cases hs:cn endV l with
 | none =>
  rw[fxA_none _ _ (fR hs)]
  rfl
 | some x =>
  obtain⟨X,E,R⟩:=x
  obtain⟨e1,e2,e3⟩:=db hs
  subst e1
  rw[fxA_app e2 X 0 e3,zW]
  have hlen:X.length+(R.length+1)≤1000:=by simpa using hl
  have hw:IntKind.i64.wrap ((X.length:Int)+1)=((X++[E]).length:Int):=by rw[am (by omega) (by omega)];simp
  have ha:X++E::R=(X++[E])++R:=by simp
  have hbM:∀b∈X++[E],okBB b:=λb q=>hb b (by rw[ha];exact List.mem_append.2 (.inl q))
  have hbR:∀b∈R,okBB b:=λb q=>hb b (by simp[q])
  rw[ha]
  simp only[oi (show ¬(X.length:Int)<0 by omega),zA,oe,hw,cutT_app,cutF_app,ae,clone_eq (show (X++[E]).length≤100000 by simp;omega)]
  rw[loop_prog (bad:=(aD.mk [] [],1)) (λsubs=>rfl) ?_ R.length fuel R [] (zO _) (bK (by omega)) (by simp;omega) hbR]
  ·rw[ref_prog]
   cases hp:kg R.length R with
   | none =>
    simp only[bindX_r]
    split<;>rfl
   | some S =>
    simp only[d5,List.nil_append]
    have hS:∀(n:Nat) (r:List aa) (S:SubL),kg n r=some S→(∀b∈r,okBB b)→S.length≤r.length∧∀s∈S,s.2.length≤r.length∧∀b∈s.2,okBB b:=by
     intro n
     induction n with
     | zero =>
      intro r S h _
      cases r with
      | nil=>unfold kg at h;cases h;exact⟨zO _,λs hs=>by cases hs⟩
      | cons _ _=>unfold kg at h;cases h
     | succ n ih =>
      intro r S h hr
      cases r with
      | nil=>unfold kg at h;cases h;exact⟨zO _,λs hs=>by cases hs⟩
      | cons b r =>
       unfold kg at h
       cases hbg:begV b with
       | none=>rw[hbg]at h;cases h
       | some k =>
        rw[hbg]at h
        simp only at h
        cases hst:cn (λx=>plnB x&&retV x) r with
        | none=>rw[hst]at h;cases h
        | some x =>
         obtain⟨Y,f,q⟩:=x
         rw[hst]at h
         obtain⟨g1,_,_⟩:=db hst
         obtain⟨S',h2,h3⟩:=Option.map_eq_some_iff.1 h
         subst h3
         have hlen2:Y.length+q.length+1=r.length:=by rw[g1];simp;omega
         obtain⟨i1,i2⟩:=ih q S' h2 (λx hx=>hr x (by rw[g1];simp[hx]))
         refine⟨by simp only[zD];omega,λs hs=>?_⟩
         rcases List.mem_cons.1 hs with rfl | hs
         ·exact⟨by simp only[zD];omega,λx hx=>hr x (by rw[g1];simp[hx])⟩
         ·exact⟨by have:=(i2 s hs).1;simp only[zD];omega,(i2 s hs).2⟩
    obtain⟨hS1,hS2⟩:=hS _ _ _ hp hbR
    rw[ordered_val (λb q=>(hbM b q).few) e3 e2 (λs hs=>⟨by have:=(hS2 s hs).1;omega,λb q=>((hS2 s hs).2 b q).few⟩) (by omega) (by omega),ae]
    cases hm:((X++[E]).any λb=>retV b||oV b)with
    | true=>rfl
    | false =>
     cases hc:cleanS S with
     | false=>rfl
     | true =>
      simp only[zQ,Bool.and_self,zI,zA,oe,og]
      rw[repeated_val (toP S) (by unfold toP;simp;omega),ae]
      have hmm:(toP S).map (·.Number)=S.map (·.1):=by unfold toP;simp
      rw[hmm]
      cases dupL [] (S.map (·.1))<;>rfl
  ·intro b r subs hsl hok
   have hokb:=hok b (by simp)
   simp only
   rw[oh (show (((b::r).length:Int)>0) by rw[zD];omega),od rfl,show gt (b::r) 0=some b from rfl,ae]
   obtain⟨k,hk,hk2⟩:=begin_eq hokb
   rw[hk,ae,ix_eq (p:=λb=>plnB b&&hasV b 77 99000) (f:=fT) _ _ (by simp;omega) (λx q=>split_c2 (hok x q).few)]
   cases hbg:begV b with
   | none=>rfl
   | some n =>
    rw[hk2 n hbg]
    have hrb:hasV b 77 99000=false:=beg_no hbg
    rw[show fxA (λb=>plnB b&&hasV b 77 99000) (b::r) 0=fxA (λb=>plnB b&&hasV b 77 99000) r (0+1) from by
     rw[fxA,hrb,Bool.and_false];exact oc (by simp)]
    simp only
    cases hst:cn (λx=>plnB x&&retV x) r with
    | none =>
     rw[fxA_none _ _ (λx hx=>fR hst x hx)]
     rfl
    | some x =>
     obtain⟨Y,f,q⟩:=x
     obtain⟨g1,g2,g3⟩:=db hst
     subst g1
     rw[fxA_app (p:=λb=>plnB b&&hasV b 77 99000) g2 Y (0+1) g3]
     have hlq:subs.length+(Y.length+(q.length+1)+1)≤1000:=by simpa using hsl
     have hcf:cutF (b::(Y++f::q)) (IntKind.i64.wrap (((0+1+Y.length:Nat):Int)+1))=some q:=by
      have h1:IntKind.i64.wrap (((0+1+Y.length:Nat):Int)+1)=((b::(Y++[f])).length:Int):=by
       rw[am (by omega) (by omega)];simp;omega
      rw[h1,show b::(Y++f::q)=(b::(Y++[f]))++q by simp,cutF_app]
     simp only[Option.isSome_some,zI,zN,oi (show ¬(((0+1+Y.length:Nat):Int)<0) by omega),zA,oe]
     rw[zW,cut_body,ae,clone_eq (by omega),ae,aQ (by omega),aN]
     rw[zW]at hcf
     rw[hcf,ae]
def mainL:List aa→Option Nat
 | []=>some 0
 | b::r=>if (retV b||oV b)=true then none else if endV b=true then some 1 else (mainL r).map (·+1)
theorem main_some:∀{l X R:List aa} {E:aa},cn endV l=some (X,E,R)→mainL l=if ((X++[E]).any λb=>retV b||oV b)=true then none else some (X.length+1)
 | [],_,_,_,h=>by cases h
 | b::r,X,R,E,h=>by
  unfold cn at h
  unfold mainL
  cases he:endV b with
  | true =>
   rw[he,od rfl]at h
   cases h
   simp
  | false =>
   rw[he,oc (by simp)]at h
   obtain⟨⟨Y,f,q⟩,h1,h2⟩:=Option.map_eq_some_iff.1 h
   cases h2
   rw[main_some h1,zM,zE]
   cases (retV b||oV b)with
   | true=>simp
   | false =>
    simp only[zA,oe,zN]
    by_cases hz:((Y++[E]).any λb=>retV b||oV b)=true
    ·rw[od hz,od hz];rfl
    ·rw[oc hz,oc hz];rfl
theorem main_none:∀{l:List aa},cn endV l=none→mainL l=none∨mainL l=some l.length
 | [],_=>.inr rfl
 | b::r,h=>by
  have h0:=fR h
  unfold cn at h
  rw[h0 b (by simp),oc (by simp)]at h
  have h1:cn endV r=none:=by
   cases hq:cn endV r with
   | none=>rfl
   | some x=>rw[hq]at h;cases h
  unfold mainL
  rw[h0 b (by simp)]
  cases (retV b||oV b)with
  | true=>exact .inl rfl
  | false =>
   rcases main_none h1 with q | q
   ·left;rw[q];rfl
   ·right;rw[q];rfl
def bodyL:List aa→Option Nat
 | []=>some 0
 | b::r=>if retV b=true then some 0 else if (endV b||oV b)=true then none else (bodyL r).map (·+1)
theorem body_some:∀{l X R:List aa} {e:aa},cn retV l=some (X,e,R)→bodyL l=if (X.any λb=>endV b||oV b)=true then none else some X.length
 | [],_,_,_,h=>by cases h
 | b::r,X,R,e,h=>by
  unfold cn at h
  unfold bodyL
  cases he:retV b with
  | true =>
   rw[he,od rfl]at h
   cases h
   simp
  | false =>
   rw[he,oc (by simp)]at h
   obtain⟨⟨Y,f,q⟩,h1,h2⟩:=Option.map_eq_some_iff.1 h
   cases h2
   rw[body_some h1,zE]
   cases (endV b||oV b)with
   | true=>simp
   | false =>
    simp only[zA,oe,zN]
    by_cases hz:(Y.any λb=>endV b||oV b)=true
    ·rw[od hz,od hz];rfl
    ·rw[oc hz,oc hz];rfl
theorem body_none:∀{l:List aa},cn retV l=none→bodyL l=none∨bodyL l=some l.length
 | [],_=>.inr rfl
 | b::r,h=>by
  have h0:=fR h
  unfold cn at h
  rw[h0 b (by simp),oc (by simp)]at h
  have h1:cn retV r=none:=by
   cases hq:cn retV r with
   | none=>rfl
   | some x=>rw[hq]at h;cases h
  unfold bodyL
  rw[h0 b (by simp)]
  simp only[zA,oe]
  cases (endV b||oV b)with
  | true=>exact .inl rfl
  | false =>
   rcases body_none h1 with q | q
   ·left;rw[q];rfl
   ·right;rw[q];rfl
theorem drop_at{b:α}(h:l.drop i=b::r):l[i]? = some b∧l.drop (i+1)=r∧i<l.length∧l.length=i+(r.length+1):=by
 have h1:(l.drop i)[0]? = some b:=by rw[h];rfl
 rw[List.getElem?_drop,Nat.add_zero]at h1
 have h2:(l.drop i).length=r.length+1:=by rw[h];rfl
 rw[List.length_drop]at h2
 exact⟨h1,by rw[←zY,h];rfl,ak h1,by omega⟩
theorem gt_at'{b:α}(h:l[i]? = some b):gt l (i:Int)=some b:=by
 unfold gt
 rw[oc (by omega),Int.toNat_natCast];exact h
theorem loop_main  {l:List aa} {f:Int × List aa → Option (Ex (Ex ε (Int × List aa)) (Int × List aa))} 
    (hend:∀(i:Nat) acc,(i=l.length∨(0<i∧i<l.length∧∃e,l[i-1]? = some e∧endV e=true))→f ((i:Int),acc)=some (.ret (.go ((i:Int),acc))))
    (hstep:∀(i:Nat) b acc,l[i]? = some b→(i=0∨∃e,l[i-1]? = some e∧endV e=false)→acc.length≤1000→f ((i:Int),acc)=if (retV b||oV b)=true then some (.ret (.ret bad))else some (.go (((i+1:Nat):Int),acc++[b]))) :
    ∀(s:List aa) (i:Nat) acc m,l.drop i=s→i≤l.length→s.length+1<m→acc.length=i→l.length≤1000→(i=0∨∃e,l[i-1]? = some e∧endV e=false)→bt f m ((i:Int),acc)=match mainL s with | none=>some (.ret bad) | some k=>some (.go (((i+k:Nat):Int),acc++s.take k)):=by
  intro s
  induction s with
  | nil =>
    intro i acc m hd hi hm ha hl _
    obtain⟨m,rfl⟩:∃q,m=q+1:=⟨m-1,by omega⟩
    have:i=l.length:=by have:=List.drop_eq_nil_iff.1 hd;omega
    rw[bt,hend i acc (.inl this)]
    simp[mainL]
  | cons b r ih =>
    intro i acc m hd hi hm ha hl hp
    obtain⟨m,rfl⟩:∃q,m=q+1:=⟨m-1,by omega⟩
    obtain⟨h1,h2,h3,h4⟩:=drop_at hd
    rw[bt,hstep i b acc h1 hp (by omega)]
    unfold mainL
    cases hx:(retV b||oV b)with
    | true=>rfl
    | false =>
      simp only[zA,oe]
      cases he:endV b with
      | true =>
        obtain⟨m,rfl⟩:∃q,m=q+1:=⟨m-1,by simp only[zD]at hm;omega⟩
        have:f (((i+1:Nat):Int),acc++[b])=some (.ret (.go (((i+1:Nat):Int),acc++[b]))):=hend (i+1) _ (by
          by_cases q:i+1=l.length
          · exact .inl q
          · exact .inr ⟨by omega,by omega,b,by simpa using h1,he⟩)
        rw[bt,this]
        simp
      | false =>
        simp only[zA,oe]
        rw[ih (i+1) (acc++[b]) m h2 (by omega) (by simp only[zD]at hm;omega) (by simp[ha]) hl (.inr ⟨b,by simpa using h1,he⟩)]
        cases mainL r with
        | none=>rfl
        | some k=>simp only[zP,List.take_succ_cons,zL,List.singleton_append];rw[show i+1+k=i+(k+1) by omega]
theorem loop_body{l:List aa}{f:Int×List aa→Option (Ex (Ex ε (Int×List aa)) (Int×List aa))}
  (hend:∀(i:Nat) acc,(i=l.length∨∃e,l[i]? = some e∧retV e=true)→f ((i:Int),acc)=some (.ret (.go ((i:Int),acc))))
  (hstep:∀(i:Nat) b acc,l[i]? = some b→retV b=false→acc.length≤1000→f ((i:Int),acc)=if (endV b||oV b)=true then some (.ret (.ret bad))else some (.go (((i+1:Nat):Int),acc++[b]))) :
  ∀(s:List aa) (i:Nat) acc m,l.drop i=s→i≤l.length→s.length<m→acc.length≤i→l.length≤1000→bt f m ((i:Int),acc)=match bodyL s with | none=>some (.ret bad) | some k=>some (.go (((i+k:Nat):Int),acc++s.take k)):=by
 intro s
 induction s with
 | nil =>
  intro i acc m hd hi hm ha hl
  obtain⟨m,rfl⟩:∃q,m=q+1:=⟨m-1,by omega⟩
  have:i=l.length:=by have:=List.drop_eq_nil_iff.1 hd;omega
  rw[bt,hend i acc (.inl this)]
  simp[bodyL]
 | cons b r ih =>
  intro i acc m hd hi hm ha hl
  obtain⟨m,rfl⟩:∃q,m=q+1:=⟨m-1,by omega⟩
  obtain⟨h1,h2,h3,h4⟩:=drop_at hd
  unfold bodyL
  cases hr:retV b with
  | true =>
   rw[bt,hend i acc (.inr ⟨b,h1,hr⟩)]
   simp
  | false =>
   rw[bt,hstep i b acc h1 hr (by omega)]
   simp only[zA,oe]
   cases (endV b||oV b)with
   | true=>rfl
   | false =>
    simp only[zA,oe]
    rw[ih (i+1) (acc++[b]) m h2 (by omega) (by simp only[zD]at hm;omega) (by simp;omega) hl]
    cases bodyL r with
    | none=>rfl
    | some k=>simp only[zP,List.take_succ_cons,zL,List.singleton_append];rw[show i+1+k=i+(k+1) by omega]
theorem loop_ref{l:List aa}{f:Int×Bool×List dg→Option (Ex (Ex ε (Bool×List dg)) (Int×Bool×List dg))}
  (h0:∀tw subs,f ((l.length:Int),tw,subs)=some (.ret (.go (tw,subs))))
  (h1:∀(i:Nat) b r tw (subs:List dg),l.drop i=b::r→subs.length≤1000→f ((i:Int),tw,subs)=match begV b with | none=>some (.ret (.ret bad)) | some k=>match cn retV r with | none=>some (.ret (.ret bad)) | some x=>if (x.1.any (λy=>endV y||oV y)||!plnB x.2.1)=true then some (.ret (.ret bad))else some (.go (((i+1+x.1.length+1:Nat):Int),tw||(subs.map (·.Number)).contains k,subs++[⟨k,x.1⟩]))) :
  ∀(n m:Nat) (s:List aa) (i:Nat) tw (subs:List dg),l.drop i=s→i≤l.length→s.length≤n→n<m→subs.length≤i→l.length≤1000→bt f m ((i:Int),tw,subs)=match refV n s with | none=>some (.ret bad) | some S=>some (.go (tw||dupL (subs.map (·.Number)) (S.map (·.1)),subs++toR S)):=by
 intro n
 induction n with
 | zero =>
  intro m s i tw subs hd hi hs hm hsu hl
  obtain⟨m,rfl⟩:∃q,m=q+1:=⟨m-1,by omega⟩
  have:s=[]:=zK (by omega)
  subst this
  have:i=l.length:=by have:=List.drop_eq_nil_iff.1 hd;omega
  subst this
  unfold refV
  rw[bt,h0]
  simp[toR,dupL]
 | succ n ih =>
  intro m s i tw subs hd hi hs hm hsu hl
  obtain⟨m,rfl⟩:∃q,m=q+1:=⟨m-1,by omega⟩
  cases s with
  | nil =>
   have:i=l.length:=by have:=List.drop_eq_nil_iff.1 hd;omega
   subst this
   unfold refV
   rw[bt,h0]
   simp[toR,dupL]
  | cons b r =>
   obtain⟨g1,g2,g3,g4⟩:=drop_at hd
   rw[bt,h1 i b r tw subs hd (by omega)]
   unfold refV
   cases begV b with
   | none=>rfl
   | some k =>
    simp only
    cases hst:cn retV r with
    | none=>rfl
    | some x =>
     obtain⟨X,e,r'⟩:=x
     obtain⟨e1,_,_⟩:=db hst
     simp only
     cases hbd:(X.any (λy=>endV y||oV y)||!plnB e)with
     | true=>rfl
     | false =>
      simp only[zA,oe]
      have hlen:X.length+r'.length+1=r.length:=by rw[e1];simp;omega
      have hd2:l.drop (i+1+X.length+1)=r':=by
       rw[show i+1+X.length+1=(i+1)+(X.length+1) by omega,←zY,g2,e1]
       simp
      rw[ih m r' (i+1+X.length+1) (tw||(subs.map (·.Number)).contains k) (subs++[dg.mk k X]) hd2 (by omega) (by simp only[zD]at hs;omega) (by omega) (by simp;omega) hl]
      cases refV n r' with
      | none=>rfl
      | some S=>simp[toR,dupL,Bool.or_assoc]
theorem find_eq(M:List aa)(S:List dg)(n:Int)(hs:S.length≤100000):dl ⟨M,S⟩ n=some (fxA (λs:dg=>s.Number==n) S 0):=by
  (unfold dl;try delta jB rF)
  rw[aK (by simp only;omega),aN]
  have key : ∀ (l : List dg) (i : Nat), bindX (az (λ(i1 : Nat) (e1 : dg) (v1 : Unit) =>
        if (e1.Number==n)=true then
          some (.ret (.ret (i1:Int)))
        else
          some (.go ())) (λ(v1:Unit)=>some (.go ())) l i ()) (λ(v2:Unit)=>some (-1))=some (fxA (λs:dg=>s.Number==n) l i):=by
    intro l
    induction l with
    | nil=>intro i;rfl
    | cons x l ih =>
      intro i
      simp only[az,fxA]
      by_cases hz:(x.Number==n)=true
      · rw[od hz,od hz];rfl
      · rw[oc hz,oc hz];exact ih (i+1)
  exact key S 0
theorem any_con(S:List dg)(n:Int):(S.any λs=>s.Number==n)=(S.map (·.Number)).contains n:=by
 induction S with
 | nil=>rfl
 | cons y l ih =>
  rw[zE,ih,List.map_cons,List.contains_cons]
  congr 1
  rw[Bool.eq_iff_iff];simp only[beq_iff_eq];exact⟨λh=>h.symm,λh=>h.symm⟩
theorem beg_r43(hb:okBB b):(ah (jt b 79) λ(y5:Bool)=>if y5=true then ah (gt b.Words 0) λ(e6:ay)=>ah (ez e6.Value) λ(y6:Int)=>some (y6==0)else some true)=some (begV b).isNone ∧
  ∀k,begV b=some k→∃w,gt b.Words 0=some w∧ez w.Value=some k:=by
 rw[only_eq,ae]
 unfold begV
 cases hw:b.Words with
 | nil=>exact⟨rfl,λk h=>by cases h⟩
 | cons w r =>
  cases r with
  | cons x r=>exact⟨rfl,λk h=>by cases h⟩
  | nil =>
   have hval:=hb.val w (by rw[hw];simp)
   have hwh:=r43_whole_eq hval.1 hval.2
   simp only
   by_cases hc:((w.Letter==79)&&(!b.Skip&&(b.Comment==[])))=true
   ·rw[od hc,od hc]
    rw[show gt [w] 0=some w from rfl,ae,hwh,ae]
    by_cases hz:whlV w.Value≠0
    ·rw[od hz]
     exact⟨by simp[hz],λk h=>by cases h;exact⟨w,rfl,hwh⟩⟩
    ·rw[oc hz]
     exact⟨by simpa using hz,λk h=>by cases h⟩
   ·rw[oc hc,oc hc];exact⟨rfl,λk h=>by cases h⟩
theorem r43_Split_eq{l:List aa}(hl:l.length≤1000)(hb:∀b∈l,okBB b):lB l=some (⟨(iK l).1,toR (iK l).2.1⟩,(iK l).2.2):=by
 have hat:∀{i:Nat} {b:aa},l[i]? = some b→gt l (i:Int)=some b∧okBB b∧i<l.length:=λh=>⟨gt_at' h,hb _ (List.mem_of_getElem? h),ak h⟩
 have hpr:∀{i:Nat},0<i→i≤l.length→IntKind.i64.wrap ((i:Int)-1)=((i-1:Nat):Int):=λh1 h2=>by rw[am (by omega) (by omega)];omega
 have hnx:∀{i:Nat},i≤l.length→IntKind.i64.wrap ((i:Int)+1)=((i+1:Nat):Int):=λh2=>by rw[am (by omega) (by omega)];omega
 (unfold lB;try delta jB jR lF gF)
 rw[show ((0:Int),([]:List aa))=(((0:Nat):Int),[]) from rfl]
 rw[loop_main (l:=l) (bad:=(aZ.mk [] [],1)) ?_ ?_ l 0 [] fuel rfl (Nat.zero_le _) (bK (by omega)) rfl hl (.inl rfl)]
 ·unfold iK
  cases hs:cn endV l with
  | none =>
   rcases main_none hs with q | q
   ·rw[q];rfl
   ·rw[q]
    simp only[d5,zW]
    have:(ah (if ((l.length:Int)==0)=true then some true else ah (gt l (IntKind.i64.wrap ((l.length:Int)-1))) λ(e4:aa)=>ah (gU e4) λ(y4:Bool)=>some (!y4)) λ(v5:Bool)=>if v5=true then some (aZ.mk [] [],(1:Int))else (none:Option (aZ×Int)))=some (aZ.mk [] [],1):=by
     by_cases hz:l.length=0
     ·rw[hz];rfl
     ·rw[show ((l.length:Int)==0)=false by rw[beq_eq_false_iff_ne];omega]
      obtain⟨e,he⟩:∃e,l[l.length-1]? = some e:=⟨_,List.getElem?_eq_getElem (by omega)⟩
      obtain⟨g1,g2,_⟩:=hat he
      rw[hpr (by omega) (zO _),g1]
      simp only[zA,oe,ae,fW g2.few]
      rw[show hasV e 77 30000=false from fR hs e (List.mem_of_getElem? he)]
      rfl
    generalize hq:(if ((l.length:Int)==0)=true then some true else ah (gt l (IntKind.i64.wrap ((l.length:Int)-1))) λ(e4:aa)=>ah (gU e4) λ(y4:Bool)=>some (!y4))=Q at *
    obtain⟨c,rfl⟩:∃c,Q=some c:=by
     cases Q with
     | none=>cases this
     | some c=>exact⟨c,rfl⟩
    rw[ae]at this ⊢
    cases c with
    | true=>rfl
    | false=>cases this
  | some x =>
   obtain⟨X,E,R⟩:=x
   obtain⟨e1,e2,e3⟩:=db hs
   rw[main_some hs]
   simp only
   cases hm:((X++[E]).any λb=>retV b||oV b)with
   | true=>rfl
   | false =>
    simp only[zA,oe,d5,zW,List.nil_append]
    have hE:l[X.length+1-1]? = some E:=by rw[e1];simp
    obtain⟨g1,g2,g3⟩:=hat hE
    have htk:l.take (X.length+1)=X++[E]:=by rw[e1,show X++E::R=(X++[E])++R by simp];exact List.take_left' (by simp)
    have hdr:l.drop (X.length+1)=R:=by rw[e1];simp
    have hlen:l.length=X.length+1+R.length:=by rw[e1];simp;omega
    rw[show (((X.length+1:Nat):Int)==0)=false by rw[beq_eq_false_iff_ne];omega,hpr (by omega) (by omega),g1]
    simp only[zA,oe,ae,fW g2.few,show hasV E 77 30000=true from e2,zI]
    rw[loop_ref (l:=l) (bad:=(aZ.mk [] [],1)) ?_ ?_ R.length fuel R (X.length+1) false [] hdr (by omega) (zO _) (bK (by omega)) (Nat.zero_le _) hl]
    ·cases refV R.length R with
     | none=>rfl
     | some S =>
      simp only[d5,htk,List.map_nil,zN,List.nil_append]
      cases dupL [] (S.map (·.1))<;>rfl
    ·intro tw subs
     simp only
     rw[oi (by omega)];rfl
    ·intro i b r tw subs hd hsu
     obtain⟨a1,a2,a3,a4⟩:=drop_at hd
     obtain⟨b1,b2,b3⟩:=hat a1
     obtain⟨c1,c2⟩:=beg_r43 b2
     simp only
     rw[oh (by omega),od rfl,b1]
     simp only[ae]
     rw[c1,ae]
     cases hbg:begV b with
     | none=>rfl
     | some k =>
      obtain⟨w,d1,d2⟩:=c2 k hbg
      simp only[Option.isNone_some,zA,oe,d1,d2,ae]
      have htw:(if tw=true then some true else ah (dl (aZ.mk (l.take (X.length+1)) subs) k) λ(y8:Int)=>some (decide (y8≥0)))=some (tw||(subs.map (·.Number)).contains k):=by
       rw[find_eq _ _ _ (by omega),ae,fxA_any,any_con]
       cases tw<;>rfl
      rw[htw,ae,hnx (by omega)]
      rw[loop_body (l:=l) (bad:=Ex.ret (Ex.ret (aZ.mk [] [],1))) ?_ ?_ r (i+1) [] fuel a2 (by omega) (bK (by omega)) (Nat.zero_le _) hl]
      ·cases hst:cn retV r with
       | none =>
        rcases body_none hst with q | q
        ·rw[q];rfl
        ·rw[q]
         simp only[d5]
         rw[show (((i+1+r.length:Nat):Int)==(l.length:Int))=true by simp;omega]
         rfl
       | some x =>
        obtain⟨Y,e,q⟩:=x
        obtain⟨f1,f2,f3⟩:=db hst
        rw[body_some hst]
        simp only
        cases hbd:Y.any (λy=>endV y||oV y)with
        | true=>rfl
        | false =>
         have hrl:r.length=Y.length+(q.length+1):=by rw[f1];simp
         have he:l[i+1+Y.length]? = some e:=by
          have:(l.drop (i+1))[Y.length]? = some e:=by rw[a2,f1];simp
          rwa [List.getElem?_drop]at this
         obtain⟨k1,k2,k3⟩:=hat he
         simp only[zA,oe,d5,zN]
         rw[show (((i+1+Y.length:Nat):Int)==(l.length:Int))=false by simp;omega,k1]
         simp only[zA,oe,ae,only_M f2]
         cases plnB e with
         | false=>rfl
         | true =>
          simp only[zI,zA,oe]
          rw[aQ (by omega),aN,hnx (by omega)]
          have:r.take Y.length=Y:=by rw[f1];simp
          rw[this];rfl
      ·intro j acc hj
       simp only
       rcases hj with rfl | ⟨e,h1,h2⟩
       ·rw[oi (by omega)];rfl
       ·obtain⟨k1,k2,k3⟩:=hat h1
        rw[oh (by omega),od rfl,k1]
        simp only[ae,j0 k2.few,show hasV e 77 99000=true from h2]
        rfl
      ·intro j c acc h1 h2 hac
       obtain⟨k1,k2,k3⟩:=hat h1
       simp only
       rw[oh (by omega),od rfl,k1]
       simp only[ae,j0 k2.few,show hasV c 77 99000=false from h2,fW k2.few,mt k2.few,zQ,og]
       show ah (if hasV c 77 30000=true then some true else some (letV c 79)) _=if (hasV c 77 30000||letV c 79)=true then _ else _
       cases hasV c 77 30000 with
       | true=>rfl
       | false =>
        cases letV c 79 with
        | true=>rfl
        | false =>
         simp only[zA,oe,ae,Bool.or_self]
         rw[aQ (by omega),aN,hnx (by omega)]
 ·intro i acc hi
  simp only
  rcases hi with rfl | ⟨h0,h1,e,h2,h3⟩
  ·rw[oi (by omega)];rfl
  ·obtain⟨k1,k2,k3⟩:=hat h2
   rw[oh (by omega),od rfl,show ((i:Int)==0)=false by rw[beq_eq_false_iff_ne];omega,hpr h0 (by omega),k1]
   simp only[zA,oe,ae,fW k2.few,show hasV e 77 30000=true from h3]
   rfl
 ·intro i b acc h1 hp hac
  obtain⟨k1,k2,k3⟩:=hat h1
  simp only
  have hv2:(if ((i:Int)==0)=true then some true else ah (gt l (IntKind.i64.wrap ((i:Int)-1))) λ(e1:aa)=>ah (gU e1) λ(y1:Bool)=>some (!y1))=some true:=by
   rcases hp with rfl | ⟨e,h2,h3⟩
   ·rfl
   ·by_cases hz:i=0
    ·subst hz;rfl
    ·obtain⟨q1,q2,q3⟩:=hat h2
     rw[show ((i:Int)==0)=false by rw[beq_eq_false_iff_ne];omega,hpr (by omega) (by omega),q1]
     simp only[zA,oe,ae,fW q2.few,show hasV e 77 30000=false from h3]
     rfl
  rw[oh (by omega),od rfl,hv2,ae,od rfl,k1]
  simp only[ae,j0 k2.few,mt k2.few]
  show ah (if hasV b 77 99000=true then some true else some (letV b 79)) _=if (hasV b 77 99000||letV b 79)=true then _ else _
  cases hasV b 77 99000 with
  | true=>rfl
  | false =>
   cases letV b 79 with
   | true=>rfl
   | false =>
    simp only[zA,oe,ae,Bool.or_self]
    rw[aQ (by omega),aN,hnx (by omega)]
end Go.Proofs.YtjemmjpdmbenkaaGreatDoor
