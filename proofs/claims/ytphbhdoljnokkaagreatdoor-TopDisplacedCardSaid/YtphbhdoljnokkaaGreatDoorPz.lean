/-
  Pa, Pe in one text.
-/
import Derived.Test.YtphbhdoljnokkaaGreatDoorG1
namespace Go.Proofs.YtphbhdoljnokkaaGreatDoor
open Go.RowKit
variable {α β:Type}
@[simp] theorem aa{f:α→Option β}{x:α}:ac (some x) f=f x:=rfl
variable {ν ε:Type}{f:ν→Option ε}
@[simp] theorem bindX_r{r:ε}:bindX (some (.ret r)) f=some r:=rfl
@[simp] theorem bindX_g{v:ν}:bindX (some (.go v)) f=f v:=rfl
@[simp] theorem aX{e:Option β}:aA true e=e:=rfl
variable {l:List α}
theorem bn(h:l.length≤9223372036854775807):dN l=true:=Nat.ble_eq_true_of_le h
theorem rangeX_go{α ε ν:Type}{f:Nat→α→ν→Option (Ex ε ν)}{d:ν→Option ε}(h:ν→α→ν):∀(l:List α) (i:Nat) (v:ν),(∀i x v,x∈l→f i x v=some (.go (h v x)))→aM f d l i v=d (l.foldl h v)
 | [],_,_,_=>rfl
 | x::l,i,v,hf=>by
  simp only[aM,hf i x v (by simp),List.foldl_cons]
  exact rangeX_go h l (i+1) (h v x) λi x v hx=>hf i x v (by simp[hx])
theorem rangeX_inv{α ε ν:Type}{f:Nat→α→ν→Option (Ex ε ν)}{d:ν→Option ε}(R:Nat→ν→Prop)(E:ε→Prop)(L:List α)
  (hf:∀i x v,L[i]? = some x→R i v→(∃e,f i x v=some (.ret e)∧E e)∨(∃u,f i x v=some (.go u)∧R (i+1) u))
  (hd:∀v,R L.length v→∃e,d v=some e∧E e):∀(l:List α) (i:Nat) (v:ν),L.drop i=l→i≤L.length→R i v→∃e,aM f d l i v=some e∧E e
 | [],i,v,hl,hi,hr=>by
  have:i=L.length:=by
   (simp_all;omega)
  subst this
  exact hd v hr
 | x::l,i,v,hl,hi,hr=>by
  have hx:L[i]? = some x:=by
   have:(L.drop i)[0]? = some x:=by rw[hl];rfl
   grind
  have hlt:i<L.length:=aF hx
  have hrest:L.drop (i+1)=l:=by rw[←List.drop_drop,hl];rfl
  rcases hf i x v hx hr with⟨e,h1,h3⟩|⟨u,h1,h3⟩
  simp_all[aM]
  ·simp only[aM,h1]
   exact rangeX_inv R E L hf hd l (i+1) u hrest (by omega) h3
theorem loopX_inv{ε ν:Type}{f:ν→Option (Ex ε ν)}(R:Nat→ν→Prop)(E:ε→Prop)(hf:∀m v,R m v→(∃e,f v=some (.ret e)∧E e)∨(∃u m',f v=some (.go u)∧R m' u∧m'<m)):∀(n m:Nat) (v:ν),R m v→m<n→∃e,dR f n v=some e∧E e
 | 0,m,v,_,h=>by omega
 | n+1,m,v,hr,h=>by
  rcases hf m v hr with⟨e,h1,h2⟩|⟨u,m',h1,h2,h3⟩
  simp_all[dR]
  ·simp only[dR,h1]
   exact loopX_inv R E hf n m' u h2 (by omega)
theorem gy{n:Nat}(h:n≤9223372036854775807):n<fuel:=by grind[fuel]
theorem mget_put{β:Type}{n k:Int}{v:β}:∀{l:List (Int×β)},mget (mput l n v) k=if k==n then some v else mget l k
 | []=>by simp[mput,mget]
 | (a,u)::r=>by
  simp only[mput]
  by_cases h:n=a
  simp_all[mget]
  ·have:(n==a)=false:=by simpa using h
   simp only[this,Bool.false_eq_true,qW,mget]
   rw[mget_put]
   grind
def Tot{α:Type}(m:Option α)(E:α→Prop):Prop:=∃e,m=some e∧E e
def TotX{ε ν:Type}(m:Option (Ex ε ν))(F:ε→Prop)(E:ν→Prop):Prop:=(∃e,m=some (.ret e)∧F e)∨∃v,m=some (.go v)∧E v
section
variable {α β ε ν : Type}
theorem Tot.ok{x:α}{E:α→Prop}(h:E x):Tot (some x) E:=⟨x,rfl,h⟩
theorem Tot.mono{m:Option α}{E F:α→Prop}(h:Tot m E)(hi:∀x,E x→F x):Tot m F:=by obtain⟨e,h1,h2⟩:=h;exact⟨e,h1,hi _ h2⟩
theorem Tot.eq{m:Option α}{x:α}{E:α→Prop}(h:m=Option.some x)(hE:E x):Tot m E:=⟨x,h,hE⟩
theorem Tot.bind{m:Option α}{f:α→Option β}{E:α→Prop}{F:β→Prop}(h:Tot m E)(hf:∀x,E x→Tot (f x) F):Tot (ac m f) F:=by
 obtain⟨e,h1,h2⟩:=h;simp_all
theorem Tot.guard{b:Bool}{m:Option α}{E:α→Prop}(hb:b=true)(h:Tot m E):Tot (aA b m) E:=by simp_all
theorem Tot.ite{b:Bool}{x y:Option α}{E:α→Prop}(h1:b=true→Tot x E)(h2:b=false→Tot y E):Tot (if b=true then x else y) E:=by
 grind
theorem Tot.bindX{m:Option (Ex β α)}{f:α→Option β}{E:α→Prop}{F:β→Prop}(h:TotX m F E)(hf:∀x,E x→Tot (f x) F):Tot (bindX m f) F:=by
 rcases h with⟨e,h1,h2⟩|⟨v,h1,h2⟩
 ·rw[h1];exact⟨e,rfl,h2⟩
 simp_all
theorem TotX.ret{e:ε}{F:ε→Prop}{E:ν→Prop}(h:F e):TotX (Option.some (Ex.ret e)) F E:=.inl ⟨e,rfl,h⟩
theorem TotX.go{v:ν}{F:ε→Prop}{E:ν→Prop}(h:E v):TotX (Option.some (Ex.go v)) F E:=.inr ⟨v,rfl,h⟩
theorem TotX.mono{m:Option (Ex ε ν)}{F F':ε→Prop}{E E':ν→Prop}(h:TotX m F E)(h1:∀x,F x→F' x)(h2:∀x,E x→E' x):TotX m F' E':=by
 rcases h with⟨e,a,b⟩|⟨v,a,b⟩
 ·exact .inl ⟨e,a,h1 _ b⟩
 ·exact .inr ⟨v,a,h2 _ b⟩
theorem TotX.bind{m:Option α}{f:α→Option (Ex ε ν)}{E:α→Prop}{F:ε→Prop}{G:ν→Prop}(h:Tot m E)(hf:∀x,E x→TotX (f x) F G):TotX (ac m f) F G:=by
 obtain⟨e,h1,h2⟩:=h;simp_all
theorem TotX.guard{b:Bool}{m:Option (Ex ε ν)}{F:ε→Prop}{E:ν→Prop}(hb:b=true)(h:TotX m F E):TotX (aA b m) F E:=by simp_all
theorem TotX.ite{b:Bool}{x y:Option (Ex ε ν)}{F:ε→Prop}{E:ν→Prop}(h1:b=true→TotX x F E)(h2:b=false→TotX y F E):TotX (if b=true then x else y) F E:=by
 grind
theorem TotX.bindX{α:Type}{m:Option (Ex (Ex ε ν) α)}{f:α→Option (Ex ε ν)}{E:α→Prop}{F:ε→Prop}{G:ν→Prop}(h:TotX m (λx=>match x with | .ret e=>F e | .go v=>G v) E)(hf:∀x,E x→TotX (f x) F G):TotX (Go.Proofs.YtphbhdoljnokkaaGreatDoor.bindX m f) F G:=by
 rcases h with⟨e,h1,h2⟩|⟨v,h1,h2⟩
 ·rw[h1]
  cases e<;>simp_all[ret,go]
 simp_all
theorem TotX.of{m:Option (Ex ε ν)}{F:ε→Prop}{E:ν→Prop}(h:Tot m (λx=>match x with | .ret e=>F e | .go v=>E v)):TotX m F E:=by
 obtain⟨x,h1,h2⟩:=h
 grind[ret,go]
theorem Tot.range{f:Nat→α→ν→Option (Ex ε ν)}{d:ν→Option ε}(R:Nat→ν→Prop)(E:ε→Prop){L:List α}{v:ν}(h0:R 0 v)(hf:∀i x v,L[i]? = Option.some x→R i v→TotX (f i x v) E (R (i+1)))(hd:∀v,R L.length v→Tot (d v) E):Tot (aM f d L 0 v) E :=
 rangeX_inv R E L (λi x v hx hr=>(hf i x v hx hr).elim (λ⟨e,a,b⟩=>.inl ⟨e,a,b⟩) (λ⟨u,a,b⟩=>.inr ⟨u,a,b⟩)) hd L 0 v rfl (Nat.zero_le _) h0
theorem Tot.loop{f:ν→Option (Ex ε ν)}(R:Nat→ν→Prop)(E:ε→Prop){v:ν}(n:Nat)(hn:n<fuel)(h0:R n v)(hf:∀m v,R m v→TotX (f v) E (λu=>∃m',m'<m∧R m' u)):Tot (dR f fuel v) E :=
 loopX_inv R E (λm v hr=>(hf m v hr).elim (λ⟨e,a,b⟩=>.inl ⟨e,a,b⟩) (λ⟨u,a,m',b,c⟩=>.inr ⟨u,m',a,c,b⟩)) fuel n v h0 hn
end
theorem range_any{α ε:Type}{f:Nat→α→Unit→Option (Ex (Ex ε Unit) Unit)}{p:α→Bool}{r:ε}:∀(l:List α) (i:Nat),(∀i x,f i x ()=if p x=true then some (.ret (.ret r))else some (.go ()))→aM f (λ_=>some (.go ())) l i ()=some (if l.any p=true then .ret r else .go ())
 | [],_,_=>rfl
 | x::l,i,hf=>by
  simp only[aM,hf i x,List.any_cons]
  by_cases h:p x=true
  ·simp[h]
  ·have h':p x=false:=by simpa using h
   simpa [h'] using range_any l (i+1) hf
theorem range_find{α ε:Type}{f:Nat→α→Unit→Option (Ex (Ex ε Unit) Unit)}{p:α→Bool}{e:α→ε}:∀(l:List α) (i:Nat),(∀i x,f i x ()=if p x=true then some (.ret (.ret (e x)))else some (.go ()))→aM f (λ_=>some (.go ())) l i ()=some (match l.find? p with | some x=>.ret (e x) | none=>.go ())
 | [],_,_=>rfl
 | x::l,i,hf=>by
  simp only[aM,hf i x,List.find?_cons]
  by_cases h:p x=true
  ·simp[h]
  ·have h':p x=false:=by simpa using h
   simpa [h'] using range_find l (i+1) hf
theorem kO{α ε ν:Type}{f:Nat→α→ν→Option (Ex ε ν)}{d:ν→Option ε}(g:ν→α→ν)(R:Nat→ν→Prop){L:List α}(hf:∀i x v,L[i]? = some x→R i v→f i x v=some (.go (g v x))∧R (i+1) (g v x)):∀(l:List α) (i:Nat) (v:ν),L.drop i=l→R i v→aM f d l i v=d (l.foldl g v)
 | [],_,_,_,_=>rfl
 | x::l,i,v,hd,hr=>by
  have hx:L[i]? = some x:=by
   have:(L.drop i)[0]? = some x:=by rw[hd];rfl
   grind
  have hrest:L.drop (i+1)=l:=by rw[←List.drop_drop,hd];rfl
  obtain⟨h1,h2⟩:=hf i x v hx hr
  simp only[aM,h1,List.foldl_cons]
  exact kO g R hf l (i+1) _ hrest h2
theorem gt_ok'{i:Int}(h0:0≤i)(h:i<(l.length:Int)):∃x,gt l i=some x∧l[i.toNat]? = some x:=by
 simp_all[gt]
end Go.Proofs.YtphbhdoljnokkaaGreatDoor
