import Derived.Test.YtphbhdoljnokkaaGreatDoorG1
open And renaming intro → zA
namespace Go.Proofs.YtphbhdoljnokkaaGreatDoor
set_option linter.defProp false
open Go.RowKit
set_option linter.unusedVariables false
section
variable {P : Program} {g : Pg P} {fr : Fr} {s : Sg} {ε ν : Type} {Φ : ε → SQ}
def jB(id:Nat)(F:Fr)(S:Sg)(m:Option ε):Option ε:=m
def jC(F:Fr)(S:Sg)(m:Option ε):Option ε:=m
def jR(id:Nat)(F:Fr)(S:Sg)(m:Option ε):Option ε:=m
def rF(F:Fr)(S:Sg)(m:Option ε):Option ε:=m
def lF(F:Fr)(S:Sg)(m:Option ε):Option ε:=m
def jV(id:Nat)(F:Fr)(S:Sg)(m:Option ε):Option ε:=m
def gF(gh:List Gh)(m:Option ε):Option ε:=m
theorem Mir.jXB{id:Nat}{x:Code}{F:ν→Fr}{S:ν→Sg}{m1:Option (Ex ε ν)}{f:ν→Option ε}(ho:∀v,okF s (F v) (S v)=true)(hx:Mir g (.block id x) fr s m1 (JQ F S Φ))(hy:∀v e,f v=some e→Φ e .normal (F v) (S v)):Mir g (.block id x) fr s (bindX m1 λv=>jB id (F v) (S v) (f v)) Φ:=Mir.join F S ho hx hy
theorem Mir.jXC{o:Operand}{x y:Code}{F:ν→Fr}{S:ν→Sg}{m1:Option (Ex ε ν)}{f:ν→Option ε}(ho:∀v,okF s (F v) (S v)=true)(hx:Mir g (.cond o x y) fr s m1 (JQ F S Φ))(hy:∀v e,f v=some e→Φ e .normal (F v) (S v)):Mir g (.cond o x y) fr s (bindX m1 λv=>jC (F v) (S v) (f v)) Φ:=Mir.join F S ho hx hy
theorem Mir.jOB{id:Nat}{x:Code}{F:ν→Fr}{S:ν→Sg}{m1:Option ν}{f:ν→Option ε}(ho:∀v,okF s (F v) (S v)=true)(hx:Mir g (.block id x) fr s m1 (JO F S))(hy:∀v e,f v=some e→Φ e .normal (F v) (S v)):Mir g (.block id x) fr s (ac m1 λv=>jB id (F v) (S v) (f v)) Φ:=Mir.joinO F S ho hx hy
theorem Mir.jOC{o:Operand}{x y:Code}{F:ν→Fr}{S:ν→Sg}{m1:Option ν}{f:ν→Option ε}(ho:∀v,okF s (F v) (S v)=true)(hx:Mir g (.cond o x y) fr s m1 (JO F S))(hy:∀v e,f v=some e→Φ e .normal (F v) (S v)):Mir g (.cond o x y) fr s (ac m1 λv=>jC (F v) (S v) (f v)) Φ:=Mir.joinO F S ho hx hy
theorem Mir.jOR{id:Nat}{ops:Array Oper}{dr:Bool}{F:ν→Fr}{S:ν→Sg}{m1:Option ν}{f:ν→Option ε}(ho:∀v,okF s (F v) (S v)=true)(hx:Mir g (.region id ops dr) fr s m1 (JO F S))(hy:∀v e,f v=some e→Φ e .normal (F v) (S v)):Mir g (.region id ops dr) fr s (ac m1 λv=>jR id (F v) (S v) (f v)) Φ:=Mir.joinO F S ho hx hy
theorem Mir.isC{c:Code}{F:ν→Fr}{S:ν→Sg}{m1:Option ν}{f:ν→Option ε}(h:Mir g c fr s (ac m1 λv=>jC (F v) (S v) (f v)) Φ):Mir g c fr s (ac m1 λv=>jC (F v) (S v) (f v)) Φ:=h
theorem Mir.isB{c:Code}{id:Nat}{F:ν→Fr}{S:ν→Sg}{m1:Option ν}{f:ν→Option ε}(h:Mir g c fr s (ac m1 λv=>jB id (F v) (S v) (f v)) Φ):Mir g c fr s (ac m1 λv=>jB id (F v) (S v) (f v)) Φ:=h
theorem Mir.isR{c:Code}{id:Nat}{F:ν→Fr}{S:ν→Sg}{m1:Option ν}{f:ν→Option ε}(h:Mir g c fr s (ac m1 λv=>jR id (F v) (S v) (f v)) Φ):Mir g c fr s (ac m1 λv=>jR id (F v) (S v) (f v)) Φ:=h
theorem Mir.jV{id:Nat}{ops:Array Oper}{dr:Bool}{F:Fr}{S:Sg}{m:Option ε}(ho:okF s F S=true)(hx:SWs g (.region id ops dr) (λe fr s=>e=.normal∧leL fr F∧leS s S) fr s)(hy:∀e,m=some e→Φ e .normal F S):Mir g (.region id ops dr) fr s (jV id F S m) Φ:=Mir.joinV F S ho hx hy
theorem Mir.gF{c:Code}{m:Option ε}{gh:List Gh}{fr0:Fr}{s0:Sg}(hgh:ghS gh fr s=some (fr0,s0))(h:Mir g c fr0 s0 m Φ):Mir g c fr s (gF gh m) Φ:=Mir.gh gh hgh h
theorem Mir.rG{α:Type}{c:Code}{l:List α}{F:Nat→ν→Fr}{S:Nat→ν→Sg}{f:Nat→α→ν→Option (Ex ε ν)}{d:ν→Option ε}{v0:ν}(hl:dN l=true)(ho:∀i v,okF s (F i v) (S i v)=true)(h0:leL fr (F 0 v0))(h1:leS s (S 0 v0))
  (hc:∀(i:Nat) (x:α) (v:ν),l[i]? = some x→decide ((i:Int)<(l.length:Int))=true→IntKind.i64.wrap ((i:Int)+1)=((i+1:Nat):Int)→((i:Int)<0)=False→(i:Int).toNat=i→Mir g c (F i v) (S i v) (f i x v) (JQ (F (i+1)) (S (i+1)) Φ))
  (hd:∀v,decide ((l.length:Int)<(l.length:Int))=false→Mir g c (F l.length v) (S l.length v) (d v) (DQ Φ)):Mir g (.loop c) fr s (aM (λi x v=>rF (F i v) (S i v) (f i x v)) d l 0 v0) Φ:=Mir.range F S hl ho h0 h1 (λi x v q=>hc i x v q.1 q.2.1 q.2.2.1 q.2.2.2.1 q.2.2.2.2) hd
theorem Mir.rF{α:Type}{c:Code}{l:List α}{F:Nat→ν→Fr}{S:Nat→ν→Sg}{f:Nat→α→ν→Option (Ex ε ν)}{d:ν→Option ε}{v0:ν}(hl:dN l=true)(ho:∀i v,okF s (F i v) (S i v)=true)(h0:leL fr (F 0 v0))(h1:leS s (S 0 v0))
  (hc:∀(i:Nat) (x:α) (v:ν),(l[i]? = some x∧decide ((i:Int)<(l.length:Int))=true∧IntKind.i64.wrap ((i:Int)+1)=((i+1:Nat):Int)∧((i:Int)<0)=False∧(i:Int).toNat=i)→Mir g c (F i v) (S i v) (f i x v) (JQ (F (i+1)) (S (i+1)) Φ))
  (hd:∀v,decide ((l.length:Int)<(l.length:Int))=false→Mir g c (F l.length v) (S l.length v) (d v) (DQ Φ)):Mir g (.loop c) fr s (aM (λi x v=>rF (F i v) (S i v) (f i x v)) d l 0 v0) Φ:=Mir.range F S hl ho h0 h1 hc hd
theorem Mir.lF{c:Code}{F:ν→Fr}{S:ν→Sg}{f:ν→Option (Ex ε ν)}{n:Nat}{v0:ν}(ho:∀v,okF s (F v) (S v)=true)(h0:leL fr (F v0))(h1:leS s (S v0))(hc:∀v,Mir g c (F v) (S v) (f v) (JQ F S Φ)):Mir g (.loop c) fr s (dR (λv=>lF (F v) (S v) (f v)) n v0) Φ:=Mir.loop F S ho h0 h1 hc
end
class Sp (f:FuncId) (p:outParam Prop):Prop where
 h:p
variable {P:Program}{R:V→Sg→Prop}{args:List V}{f:FuncId}{g:Pg P}{p:Prop}{s:Sg}
theorem bf.byJ[i:Sp f p](k:p→bf g f args s R):bf g f args s R:=k i.h
variable {c:Code}{fr:Fr}{α:Type}{l:List α}{ε:Type}{Φ:ε→SQ}
theorem Mir.bindG{i:Int}{f:α→Option ε}(h:∀y,(((i<0)=False)∧l[i.toNat]? = some y)→Mir g c fr s (f y) Φ):Mir g c fr s (ac (gt l i) f) Φ:=Mir.bind λy q=>h y (gq q)
variable {b:Bool}{q:Prop}
theorem ifB(h1:b=true→p)(h2:b=false→q):if b=true then p else q:=by simp_all
variable {ν:Type}{S:ν→Sg}{id:Nat}{m1:Option ν}{ops:Array Oper}
theorem Mir.iteR{F:ν→Fr}{dr:Bool}{m2:Option ν}(h1:b=true→Mir g (.region id ops dr) fr s m1 (JO F S))(h2:b=false→Mir g (.region id ops dr) fr s m2 (JO F S)):Mir g (.region id ops dr) fr s (if b=true then m1 else m2) (JO F S):=Mir.ite h1 h2
def Hm{ε:Type}(m:Option ε)(e:ε):Prop:=m=some e
variable {m:Option ε}
theorem Mir.rg(h:∀e,Hm m e→regS g false ops ops.toList fr s (Φ e .normal)):Mir g (.region id ops false) fr s m Φ:=Mir.region h
theorem Mir.rgD{fr:Fr}{s:Sg}(L:List (Tmp×Tmp))(hL:(gu ops,seps ops)=(true,L))(h:∀e,Hm m e→regS g true ops ops.toList fr s (λfr' s'=>sepL L fr'=true∧Φ e .normal fr' s')):Mir g (.region id ops true) fr s m Φ:=Mir.regionD L hL h
theorem mUH(e:ε)(h:Mir g c fr s m Φ)(hm:Hm m e):SWs g c (Φ e) fr s:=h e hm
variable {d:Decidable (some (b==false)=some true)}
theorem ifNt(hb:b=true)(h1:q):@ite Prop (some (b==false)=some true) d p q:=by
 simp_all
theorem ifNf{q:Prop}(hb:b=false)(h1:p):@ite Prop (some (b==false)=some true) d p q:=by
 simp_all
theorem ifTt{q:Prop}{d:Decidable (some (b==true)=some true)}(hb:b=true)(h1:p):@ite Prop (some (b==true)=some true) d p q:=by
 simp_all
theorem ifTf{d:Decidable (some (b==true)=some true)}(hb:b=false)(h1:q):@ite Prop (some (b==true)=some true) d p q:=by
 simp_all
theorem bX(h1:b=true)(h2:b=false):False:=by simp_all
theorem bY(h2:b=false)(h1:b=true):False:=bX h1 h2
variable {o:Operand}{x y:Code}
theorem Mir.condTA(hb:aN fr o=.d (.bool b))(h:b=true)(hx:Mir g x fr s m Φ):Mir g (.cond o x y) fr s m Φ:=Mir.condT (by rw[hb,h]) hx
theorem Mir.condFA(hb:aN fr o=.d (.bool b))(h:b=false)(hy:Mir g y fr s m Φ):Mir g (.cond o x y) fr s m Φ:=Mir.condF (by rw[hb,h]) hy
theorem Mir.isM(h:Mir g c fr s m Φ):Mir g c fr s m Φ:=h
theorem ifN(h1:b=true→q)(h2:b=false→p):@ite Prop (some (b==false)=some true) d p q:=by
 simp_all
theorem ifT{d:Decidable (some (b==true)=some true)}(h1:b=true→p)(h2:b=false→q):@ite Prop (some (b==true)=some true) d p q:=by
 simp_all
theorem Mir.useNH{n:Nat}{e:ε}(h:Mir g c fr s m (nQ g c n Φ))(hm:Hm m e):nQ g c (n+1) Φ e .normal fr s:=h e hm
theorem bZ(h1:(!b)=false)(h2:b=false):False:=by simp_all
theorem bW(h1:(!b)=true)(h2:b=true):False:=by simp_all
theorem wrL{n:Nat}(h:n<9223372036854775808):IntKind.i64.wrap (no_index (@OfNat.ofNat Int n (@instOfNat n)))=@OfNat.ofNat Int n (@instOfNat n):=by
 exact IntWalk.i64_in (n:Int) (by omega)
theorem okLl{n:Nat}(h:n≤16777216):cd n=true:=br h
theorem Spec.byJ{K:V→Prop}[i:Sp f p](k:p→callD g f args K):callD g f args K:=k i.h
theorem isIf{c:Prop}{d:Decidable c}(h:@ite Prop c d p q):@ite Prop c d p q:=h
theorem isOpt{x:Option α}{f:α→Prop}(h:optK x f):optK x f:=h
variable {a:Int}
theorem optNZ{x:α}{f:α→Prop}(h:(!(a==0))=true)(k:optK (some x) f):optK (if a=0 then none else some x) f:=by
 simp_all
theorem Mir.bindCL{b:Int}{f:List α→Option ε}(h:∀y,((a<0)=False∧(b<0)=False∧(a.toNat≤b.toNat)=True∧(b.toNat≤l.length)=True∧(l.drop a.toNat).take (b.toNat-a.toNat)=y)→Mir g c fr s (f y) Φ):Mir g c fr s (ac (cutL l a b) f) Φ:=Mir.bind λy q=>h y (cutL_ok q)
theorem Mir.bindCF{f:List α→Option ε}(h:∀y,((a<0)=False∧(a.toNat≤l.length)=True∧(l.drop a.toNat).take (l.length-a.toNat)=y)→Mir g c fr s (f y) Φ):Mir g c fr s (ac (cutF l a) f) Φ:=Mir.bind λy q=>h y (cutF_ok q)
theorem Mir.bindCT{b:Int}{f:List α→Option ε}(h:∀y,((b<0)=False∧(b.toNat≤l.length)=True∧(0≤b.toNat)=True∧l.take b.toNat=y∧b.toNat-0=b.toNat)→Mir g c fr s (f y) Φ):Mir g c fr s (ac (cutT l b) f) Φ:=Mir.bind λy q=>h y (cutT_ok q)
theorem Mir.guardS{a b:List UInt8}(h:(a.length+b.length≤9223372036854775807)=True→Mir g c fr s m Φ):Mir g c fr s (aA (okStr a b) m) Φ:=Mir.guard λq=>h (okStr_ok q)
theorem Mir.condN{m1 m2:Option ε}(hb:aN fr o=.d (.bool (!b)))(hx:b=false→Mir g x fr s m1 Φ)(hy:b=true→Mir g y fr s m2 Φ):Mir g (.cond o x y) fr s (if (!b)=true then m1 else m2) Φ:=Mir.cond hb (λh=>hx (by simp_all)) (λh=>hy (by simp_all))
theorem ifNn{d:Decidable (some ((!b)==false)=some true)}(h1:b=false→q)(h2:b=true→p):@ite Prop (some ((!b)==false)=some true) d p q:=ifN (λh=>h1 (by simp_all)) (λh=>h2 (by simp_all))
theorem ifTn{d:Decidable (some ((!b)==true)=some true)}(h1:b=false→p)(h2:b=true→q):@ite Prop (some ((!b)==true)=some true) d p q:=ifT (λh=>h1 (by simp_all)) (λh=>h2 (by simp_all))
class Fnc {P:Program} (g:Pg P) (f:FuncId) (fn:outParam Func):Prop where
 h:P.funcs[f]? = some fn
def iF{ν:Type}(f:Nat)(Y:ν→V)(S:ν→Sg)(m:Option ν):Option ν:=m
theorem SWs.regionQ{fr F:Fr}{s S:Sg}(h:regS g false ops ops.toList fr s (λfr s=>Exit.normal=Exit.normal∧leL fr F∧leS s S)):SWs g (.region id ops false) (λe fr s=>e=.normal∧leL fr F∧leS s S) fr s:=SWs.region h
theorem bf.inlH{Y:ν→V}{v:ν}(hm:iF f Y S m1=some v)(k:iF f Y S m1=some v→bf g f args s R):bf g f args s R:=k hm
def auN:=zA @jB.eq_1<|zA @jC.eq_1<|zA @jR.eq_1<|zA @rF.eq_1<|zA @lF.eq_1<|zA @jV.eq_1<|zA @gF.eq_1<|@iF.eq_1
end Go.Proofs.YtphbhdoljnokkaaGreatDoor
