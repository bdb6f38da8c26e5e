/-
  Gab, Gc, Gx in one text.
-/
import Derived.Test.YtphbhdoljnokkaaGreatDoorS3
import Derived.Test.YtphbhdoljnokkaaGreatDoorS4
open And renaming intro → zA
open List renaming map → zB,replicate → zD
namespace Go.Proofs.YtphbhdoljnokkaaGreatDoor
set_option linter.defProp false
open Go.RowKit
inductive Ex (ε ν:Type) where
 | ret (e:ε)
 | go (v:ν)
def fuel:Nat:=1000000000000000000000000000000
def gt{α:Type}(l:List α)(i:Int):Option α:=if i<0 then none else l[i.toNat]?
variable {α:Type}{e:α}{i:Int}{l:List α}
theorem gt_nn(h:gt l i=some e):(i<0)=False:=by
 simp_all[gt]
theorem gt_at(h:gt l i=some e):l[i.toNat]? = some e:=by
 simp_all[gt]
theorem gq(h:gt l i=some e):((i<0)=False)∧l[i.toNat]? = some e:=⟨gt_nn h,gt_at h⟩
def cutL{α:Type}(l:List α)(a b:Int):Option (List α):=if a<0∨b<a∨(l.length:Int)<b then none else some ((l.drop a.toNat).take (b.toNat-a.toNat))
variable {a b:Int}{r:List α}
theorem cutL_ok(h:cutL l a b=some r):(a<0)=False∧(b<0)=False∧(a.toNat≤b.toNat)=True∧(b.toNat≤l.length)=True∧(l.drop a.toNat).take (b.toNat-a.toNat)=r:=by
 grind[cutL]
def cutF{α:Type}(l:List α)(a:Int):Option (List α):=if a<0∨(l.length:Int)<a then none else some (l.drop a.toNat)
theorem cutF_ok(h:cutF l a=some r):(a<0)=False∧(a.toNat≤l.length)=True∧(l.drop a.toNat).take (l.length-a.toNat)=r:=by
 grind[cutF,List.take_of_length_le]
def cutT{α:Type}(l:List α)(b:Int):Option (List α):=if b<0∨(l.length:Int)<b then none else some (l.take b.toNat)
theorem cutT_ok(h:cutT l b=some r):(b<0)=False∧(b.toNat≤l.length)=True∧(0≤b.toNat)=True∧l.take b.toNat=r∧b.toNat-0=b.toNat:=by
 grind[cutT]
def ac{α β:Type}(e:Option α)(f:α→Option β):Option β:=match e with | none=>none | some x=>f x
variable {β:Type}
theorem bindO_some{e:Option α}{f:α→Option β}{y:β}(h:ac e f=some y):∃x,e=some x∧f x=some y:=by
 cases e with
 | none=>cases h
 | some x=>exact⟨x,rfl,h⟩
def aA{β:Type}(c:Bool)(e:Option β):Option β:=match c with | true=>e | false=>none
theorem gi{c:Bool}{e:Option β}{y:β}(h:aA c e=some y):c=true∧e=some y:=by
 cases c with
 | false=>cases h
 | true=>exact⟨rfl,h⟩
def bindX{ε ν:Type}(e:Option (Ex ε ν))(f:ν→Option ε):Option ε:=match e with | none=>none | some (.ret r)=>some r | some (.go v)=>f v
def dR{ε ν:Type}(f:ν→Option (Ex ε ν)):Nat→ν→Option ε
 | 0,_=>none
 | n+1,v=>match f v with | none=>none | some (.ret e)=>some e | some (.go v')=>dR f n v'
def V.noMap:V→Bool
 | .mapc _ _=>false
 | .rowc _ _ _=>false
 | _=>true
inductive V.le:V→V→Prop
 | refl (x:V):V.le x x
 | undef (x:V) (h:x.noMap=true):V.le x .undef
 | nil:V.le .nil (.d (.list []))
 | own (t:Nat) (es:List (List D)):V.le (.own t es) (.d (.list es))
 | full (es:List (List D)):V.le (.full es) (.d (.list es))
 | agg (cs ds:List V) (hl:cs.length=ds.length) (h:∀(i:Nat) (x y:V),cs[i]? = some x→ds[i]? = some y→V.le x y):V.le (.agg cs) (.agg ds)
 | tuple (cs ds:List V) (hl:cs.length=ds.length) (h:∀(i:Nat) (x y:V),cs[i]? = some x→ds[i]? = some y→V.le x y):V.le (.tuple cs) (.tuple ds)
theorem V.le.rel{x y:V}(h:V.le x y):∀{G:Cx} {v:Value},rel G x v→rel G y v:=by
 induction h with
 | refl x=>exact id
 | undef x _=>intro G v _;exact .undef v
 | nil=>intro G v r;cases r;exact .d (.nil _ _)
 | own t es=>intro G v r;cases r with | own _ _ _ q=>exact .d q
 | full es=>intro G v r;cases r with | full _ _ q=>exact .d q
 | agg cs ds hl _ ih =>
  intro G v r
  cases r with
  | agg _ vs hl2 hr =>
   refine .agg ds vs (hl▸hl2) λi y u h1 h2=>?_
   grind
 | tuple cs ds hl _ ih =>
  intro G v r
  cases r with
  | tuple _ vs hl2 hr =>
   refine .tuple ds vs (hl▸hl2) λi y u h1 h2=>?_
   grind
def leL:List V→List V→Prop
 | [],[]=>True
 | x::xs,y::ys=>V.le x y∧leL xs ys
 | _,_=>False
theorem qF:∀{xs ys:List V},leL xs ys→xs.length=ys.length
 | [],[],_=>rfl
 | _::xs,_::ys,h=>by simp[qF h.2]
theorem leL_at:∀{xs ys:List V} {i:Nat} {x y:V},leL xs ys→xs[i]? = some x→ys[i]? = some y→V.le x y
 | [],[],i,x,y,_,h,_=>by simp at h
 | a::xs,b::ys,i,x,y,h,h1,h2=>by
  cases i with
  | zero=>simp at h1 h2;subst h1;subst h2;exact h.1
  | succ i=>simp at h1 h2;exact leL_at h.2 h1 h2
variable {G:Cx}{ys:List V}
theorem leL_rels{xs:List V}{vs:List Value}(h:leL xs ys)(r:rels G xs vs):rels G ys vs:=by
 refine⟨by rw[←qF h];exact r.1,λi y v h1 h2=>?_⟩
 have hi:i<xs.length:=by grind[qF]
 exact (leL_at h (List.getElem?_eq_getElem hi) h1).rel (r.2 i xs[i] v (List.getElem?_eq_getElem hi) h2)
theorem leL_refl:∀xs:List V,leL xs xs
 | []=>trivial
 | x::xs=>⟨.refl x,leL_refl xs⟩
def leO:List (List V)→List (List V)→Prop
 | _,[]=>True
 | x::xs,y::ys=>leL x y∧leO xs ys
 | [],_::_=>False
theorem leO_at:∀{xs ys:List (List V)} {i:Nat} {y:List V},leO xs ys→ys[i]? = some y→∃x,xs[i]? = some x∧leL x y
 | [],[],i,y,_,h=>by simp at h
 | _::_,[],i,y,_,h=>by simp at h
 | a::xs,b::ys,i,y,h,h2=>by
  cases i with
  | zero=>simp at h2;subst h2;exact⟨a,by simp,h.1⟩
  | succ i=>simp at h2;obtain⟨x,h3,h4⟩:=leO_at h.2 h2;simp_all
theorem leL_mapc{ik:IntKind}{kvs:List (Int×D)}(h:leL [.mapc ik kvs] ys):ys=[.mapc ik kvs]:=by
 match ys,h with
 | [y],h =>
  have h1:=h.1
  cases h1 with
  | refl=>rfl
  | undef _ q=>cases q
theorem leL_rowc{e:TypeId}{ver:Nat}{es:List (List D)}(h:leL [.rowc e ver es] ys):ys=[.rowc e ver es]:=by
 match ys,h with
 | [y],h =>
  have h1:=h.1
  cases h1 with
  | refl=>rfl
  | undef _ q=>cases q
def leS(s t:Sg):Prop:=leO s.obs t.obs∧t.lns=s.lns.take t.lns.length
def okF(s0:Sg)(fr:Fr)(s:Sg):Bool:=V.unders s.obs.length s.lns.length fr&&jp s.obs.length s.lns.length s.obs&&decide (s0.obs.length≤s.obs.length)&&decide (s0.lns.length≤s.lns.length)
theorem allUnder_at{n m:Nat}:∀{l:List (List V)} {k:Nat} {cs:List V},jp n m l=true→l[k]? = some cs→V.unders n m cs=true
 | [],k,cs,_,h=>by simp at h
 | c::l,k,cs,ha,h=>by
  simp only[jp,Bool.and_eq_true]at ha
  cases k with
  | zero=>simp_all
  | succ k=>simp at h;exact allUnder_at ha.2 h
variable {fr:Fr}
theorem FR_le{F:Fr}{a:Act}(h:FR G fr a)(hl:leL fr F):FR G F a:=by
 refine⟨by rw[←qF hl];exact h.1,λt=>?_⟩
 have h2:=h.2 t
 rw[List.getD_eq_getElem?_getD]at h2 ⊢
 cases hF:F[t]? with
 | none=>exact .undef _
 | some y =>
  have hi:t<fr.length:=by grind[qF]
  rw[List.getElem?_eq_getElem hi]at h2
  exact (leL_at hl (List.getElem?_eq_getElem hi) hF).rel h2
variable {m n:Nat}
theorem FR_unders{a:Act}(h:FR G fr a)(hu:V.unders n m fr=true):FR (G.restr n m) fr a:=by
 refine⟨h.1,λt=>ox (h.2 t) ?_⟩
 rw[List.getD_eq_getElem?_getD]
 cases hx:fr[t]? with
 | none=>rfl
 | some x=>grind[kX]
variable {P:Program}{s:Sg}{w0:World}
theorem HR_le{w:World}{S:Sg}(h:HR P w0 w G s)(hl:leS s S)(hu:jp S.obs.length S.lns.length S.obs=true):HR P w0 w (G.restr S.obs.length S.lns.length) S:=by
 have ho:∀k b,(G.restr S.obs.length S.lns.length).ob k=some b→k<S.obs.length∧G.ob k=some b:=by
  simp_all[Cx.restr]
 have hv:∀t L',(G.restr S.obs.length S.lns.length).lv t=some L'→t<S.lns.length∧G.lv t=some L':=by
  simp_all[Cx.restr]
 have hm:∀k b,(G.restr S.obs.length S.lns.length).mp k=some b→k<S.obs.length∧G.mp k=some b:=by
  simp_all[Cx.restr]
 have hrv:∀k L',(G.restr S.obs.length S.lns.length).rv k=some L'→k<S.obs.length∧G.rv k=some L':=by
  grind[Cx.restr]
 refine⟨h.kp,h.fs,h.fb,?_,?_,?_,?_,?_,?_,h.gb,λk b q=>?_,λk b q=>?_,λk k' b q q'=>h.mpi k k' b (hm k b q).2 (hm k' b q').2,λk b q=>?_,λk L q=>?_,λk k' L L' b q q'=>h.rvi k k' L L' b (hrv k L q).2 (hrv k' L' q').2,h.tgs⟩
 simp_all
 ·intro k cs q hmk hrk
  have q':S.obs[k]? = some cs:=q
  have hkn:k<S.obs.length:=aF q'
  obtain⟨cs0,hx,hle⟩:=leO_at hl.1 q'
  obtain⟨b,vs,t,h1,h2,h3,h4,h5⟩:=h.obl k cs0 hx (by grind[Cx.restr]) (by grind[Cx.restr])
  have h4':=leL_rels hle h4
  refine⟨b,vs,t,by grind[Cx.restr],h2,h3,⟨h4'.1,λi x v a1 a2=>ox (h4'.2 i x v a1 a2) (kX (allUnder_at hu q') a1)⟩,h5⟩
 ·intro k k' b q q'
  exact h.obi k k' b (ho k b q).2 (ho k' b q').2
 simp_all
 ·intro t e n' q
  have q':S.lns[t]? = some (e,n'):=q
  have htm:t<S.lns.length:=aF q'
  rw[hl.2,List.getElem?_take,qV htm]at q'
  obtain⟨v,xs,h1,h2,h3⟩:=h.lvl t e n' q'
  exact⟨v,xs,by grind[Cx.restr],h2,λb hb=>⟨λk q=>(h3 b hb).1 k (ho k b q).2,(h3 b hb).2⟩⟩
 ·intro t t' L1 L2 b q q' h1 h2
  exact h.lvi t t' L1 L2 b (hv t L1 q).2 (hv t' L2 q').2 h1 h2
 ·obtain⟨q1,q2⟩:=ho k b q
  simp[Cx.restr,h.obm k b q2]
 ·obtain⟨q1,q2⟩:=hm k b q
  obtain⟨h1,es,c,ik,kvs,h2,h3,h4⟩:=h.mpl k b q2
  obtain⟨cs0,hx,hle⟩:=leO_at hl.1 (List.getElem?_eq_getElem q1)
  have h2':s.obs[k]? = some [.mapc ik kvs]:=h2
  rw[hx]at h2';injection h2' with h2';subst h2'
  refine⟨h1,es,c,ik,kvs,?_,h3,h4⟩
  show S.obs[k]? = _
  rw[List.getElem?_eq_getElem q1]
  exact congrArg some (leL_mapc hle)
 ·obtain⟨q1,q2⟩:=ho k b q
  simp[Cx.restr,h.obr k b q2]
 ·obtain⟨q1,q2⟩:=hrv k L q
  obtain⟨e,es,xs,h1,h2,h3,h4,h5,h6⟩:=h.rvl k L q2
  obtain⟨cs0,hx,hle⟩:=leO_at hl.1 (List.getElem?_eq_getElem q1)
  have h1':s.obs[k]? = some [.rowc e L.n es]:=h1
  rw[hx]at h1';injection h1' with h1';subst h1'
  refine⟨e,es,xs,?_,h2,h3,h4,h5,λb hb=>⟨λj q=>(h6 b hb).1 j (ho j b q).2,(h6 b hb).2.1,λt L' q=>(h6 b hb).2.2 t L' (hv t L' q).2⟩⟩
  show S.obs[k]? = _
  rw[List.getElem?_eq_getElem q1]
  exact congrArg some (leL_rowc hle)
theorem le_restr2{w:World}{G':Cx}(h:HR P w0 w G s)(hle:G.le G')(hn:s.obs.length≤n)(hm:s.lns.length≤m):G.le (G'.restr n m):=by
 refine⟨hle.base,hle.F,λk b q=>?_,λt L q=>?_,λk b q=>?_,λk L q=>?_,hle.tg⟩
 ·have:=h.obd k b q
  have hk:k<n:=by
   grind
  simp only[Cx.restr,qV hk]
  exact hle.ob k b q
 ·have:=h.lvd t L q
  have hk:t<m:=by
   grind
  simp only[Cx.restr,qV hk]
  exact hle.lv t L q
 ·obtain⟨_,es,c,ik,kvs,h2,_⟩:=h.mpl k b q
  have hk:k<n:=Nat.lt_of_lt_of_le (aF h2) hn
  simp only[Cx.restr,qV hk]
  exact hle.mp k b q
 ·obtain⟨e,es,xs,h2,_⟩:=h.rvl k L q
  have hk:k<n:=Nat.lt_of_lt_of_le (aF h2) hn
  simp only[Cx.restr,qV hk]
  exact hle.rv k L q
theorem okF_ok{s0:Sg}(h:okF s0 fr s=true):V.unders s.obs.length s.lns.length fr=true∧jp s.obs.length s.lns.length s.obs=true∧s0.obs.length≤s.obs.length∧s0.lns.length≤s.lns.length:=by
 simp_all[okF]
section
variable {P : Program} {g : Pg P} {Q : SQ} {fr : Fr} {s : Sg}
theorem SWs.weak{x:Code}(h:SWs g x (λe fr' s'=>match e with | .normal=>∃F S,okF s F S=true∧leL fr' F∧leS s' S∧Q .normal F S | e=>Q e fr' s') fr s):SWs g x Q fr s:=by
 intro hdr w0 G0 G a w h0 hH hfr hd
 refine Code.wp_mono ?_ (h hdr w0 G G a w (Cx.le.refl G) hH hfr hd)
 rintro e a w ⟨G',fr',s',q1,q2,q3,q4,q5⟩
 cases e with
 | normal =>
  obtain⟨F,S,ho,q6,q7,q8⟩:=q5
  obtain⟨o1,o2,o3,o4⟩:=okF_ok ho
  exact⟨_,F,S,h0.trans (le_restr2 hH q1 o3 o4),HR_le q2 q7 o2,FR_unders (FR_le q3 q6) o1,q4,q8⟩
 | _=>exact⟨G',fr',s',h0.trans q1,q2,q3,q4,q5⟩
def SWr{P:Program}(g:Pg P)(c:Code)(Q:SQ):Nat→Fr→Sg→Prop
 | 0,_,_=>False
 | n+1,fr,s=>SWs g c (seqQ (SWr g c Q n) Q) fr s
theorem SWs.rounds{c:Code}(n:Nat)(h:SWr g c Q n fr s):SWs g (.loop c) Q fr s:=by
 intro hdr w0 G0 G a w hG hH hfr hd
 refine nf (λm a w=>∃G' fr1 s1,G0.le G'∧HR P w0 w G' s1∧FR G' fr1 a∧a.defers=[]∧SWr g c Q m fr1 s1) (n:=n) ⟨G,fr,s,hG,hH,hfr,hd,h⟩ ?_
 rintro m a w ⟨G',fr1,s1,k1,k2,k3,k4,k5⟩
 cases m with
 | zero=>exact k5.elim
 | succ m =>
  refine Code.wp_mono ?_ (k5 hdr w0 G0 G' a w k1 k2 k3 k4)
  intro e a w q
  obtain⟨G2,fr2,s2,q1,q2,q3,q4,q5⟩:=q
  cases e with
  | normal=>exact⟨m,Nat.lt_succ_self m,G2,fr2,s2,q1,q2,q3,q4,q5⟩
  | _=>exact⟨G2,fr2,s2,q1,q2,q3,q4,q5⟩
theorem SWs.loop2{c:Code}(I:Nat→Fr→Sg→Prop)(n:Nat)(hI:∀m fr1 s1,I m fr1 s1→okF s fr1 s1=true)(h0:∃F S,okF s F S=true∧leL fr F∧leS s S∧I n F S)
  (hr:∀m fr1 s1,I m fr1 s1→SWs g c (seqQ (λfr' s'=>∃m' F S,m'<m∧leL fr' F∧leS s' S∧I m' F S) Q) fr1 s1):SWs g (.loop c) Q fr s:=by
 intro hdr w0 G0 G a w hG hH hfr hd
 obtain⟨F,S,ho,hf,hs,hi⟩:=h0
 obtain⟨o1,o2,o3,o4⟩:=okF_ok ho
 refine nf (λm a w=>∃G' fr1 s1,G.le G'∧HR P w0 w G' s1∧FR G' fr1 a∧a.defers=[]∧I m fr1 s1) (n:=n) ⟨_,F,S,le_restr2 hH (Cx.le.refl G) o3 o4,HR_le hH hs o2,FR_unders (FR_le hfr hf) o1,hd,hi⟩ ?_
 rintro m a w ⟨G',fr1,s1,k1,k2,k3,k4,k5⟩
 refine Code.wp_mono ?_ (hr m fr1 s1 k5 hdr w0 G G' a w k1 k2 k3 k4)
 intro e a w q
 obtain⟨G2,fr2,s2,q1,q2,q3,q4,q5⟩:=q
 cases e with
 | normal =>
  obtain⟨m',F',S',q6,q7,q8,q9⟩:=q5
  obtain⟨p1,p2,p3,p4⟩:=okF_ok (hI _ _ _ q9)
  exact⟨m',q6,G2.restr S'.obs.length S'.lns.length,F',S',le_restr2 hH q1 p3 p4,HR_le q2 q8 p2,FR_unders (FR_le q3 q7) p1,q4,q9⟩
 | _=>exact⟨G2,fr2,s2,hG.trans q1,q2,q3,q4,q5⟩
end
abbrev U:V:=.undef
section
variable {P : Program} {g : Pg P} {fr : Fr} {s : Sg} {ε ν : Type} {Φ : ε → SQ} {m : Option ε}
def Mir{P:Program}(g:Pg P)(c:Code)(fr:Fr)(s:Sg){ε:Type}(m:Option ε)(Φ:ε→SQ):Prop:=∀e,m=some e→SWs g c (Φ e) fr s
theorem Mir.use{c:Code}{e:ε}(h:Mir g c fr s m Φ)(hm:m=some e):SWs g c (Φ e) fr s:=h e hm
theorem Mir.bind{α:Type}{c:Code}{x:Option α}{f:α→Option ε}(h:∀y,x=some y→Mir g c fr s (f y) Φ):Mir g c fr s (ac x f) Φ:=by
 intro e he
 obtain⟨y,h1,h2⟩:=bindO_some he
 exact h y h1 e h2
theorem Mir.guard{c:Code}{b:Bool}(h:b=true→Mir g c fr s m Φ):Mir g c fr s (aA b m) Φ:=by
 intro e he
 obtain⟨h1,h2⟩:=gi he
 exact h h1 e h2
theorem Mir.ite{c:Code}{b:Bool}{m1 m2:Option ε}(h1:b=true→Mir g c fr s m1 Φ)(h2:b=false→Mir g c fr s m2 Φ):Mir g c fr s (if b=true then m1 else m2) Φ:=by
 grind
theorem Mir.skip(h:∀e,m=some e→Φ e .normal fr s):Mir g .skip fr s m Φ:=λe he=>SWs.skip (h e he)
theorem Mir.ret(h:∀e,m=some e→Φ e .ret fr s):Mir g .ret fr s m Φ:=λe he=>SWs.ret (h e he)
theorem Mir.exit{id:Nat}(h:∀e,m=some e→Φ e (.exit id) fr s):Mir g (.exit id) fr s m Φ:=λe he=>SWs.exit (h e he)
theorem Mir.region{id:Nat}{ops:Array Oper}(h:∀e,m=some e→regS g false ops ops.toList fr s (Φ e .normal)):Mir g (.region id ops false) fr s m Φ:=λe he=>SWs.region (h e he)
theorem Mir.regionD{id:Nat}{ops:Array Oper}(L:List (Tmp×Tmp))(hL:(gu ops,seps ops)=(true,L))(h:∀e,m=some e→regS g true ops ops.toList fr s (λfr' s'=>sepL L fr'=true∧Φ e .normal fr' s')):Mir g (.region id ops true) fr s m Φ:=λe he=>SWs.regionD hL (h e he)
theorem sepL_nil{fr:Fr}:sepL [] fr=true:=rfl
theorem sepL_cons{a b:Tmp}{r:List (Tmp×Tmp)}{fr:Fr}:sepL ((a,b)::r) fr=(sepV (fr.getD a .undef) (fr.getD b .undef)&&sepL r fr):=nr rfl
theorem sepV_ne{k k' o o':Nat}(h:(k==k')=false):sepV (.ptr k o) (.ptr k' o')=true:=by simp_all[sepV]
theorem sepV_d{d:D}{y:V}:sepV (.d d) y=true:=nr rfl
theorem sepV_i{cs:List D}{o:Nat}{y:V}:sepV (.iptr cs o) y=true:=nr rfl
def kQ{P:Program}(g:Pg P)(y:Code)(Φ:ε→SQ)(e:ε):SQ:=seqQ (SWs g y (Φ e)) (Φ e)
def bQ(id:Nat)(Φ:ε→SQ)(e:ε):SQ:=blockQ id (Φ e)
theorem Mir.seqK{x y:Code}(h:Mir g x fr s m (kQ g y Φ)):Mir g (.seq x y) fr s m Φ:=λe he=>SWs.seq (h e he)
theorem Mir.block{id:Nat}{c:Code}(h:Mir g c fr s m (bQ id Φ)):Mir g (.block id c) fr s m Φ:=λe he=>SWs.block (h e he)
theorem Mir.cond{o:Operand}{x y:Code}{b:Bool}{m1 m2:Option ε}(hb:aN fr o=.d (.bool b))(hx:b=true→Mir g x fr s m1 Φ)(hy:b=false→Mir g y fr s m2 Φ):Mir g (.cond o x y) fr s (if b=true then m1 else m2) Φ:=by
 intro e he
 refine SWs.cond hb (λh=>?_) (λh=>?_)
 ·rw[qV h]at he;exact hx h e he
 ·rw[qU (by simp_all)]at he;exact hy h e he
theorem Mir.condT{o:Operand}{x y:Code}(hb:aN fr o=.d (.bool true))(hx:Mir g x fr s m Φ):Mir g (.cond o x y) fr s m Φ :=
 λe he=>SWs.cond hb (λ_=>hx e he) (λh=>by cases h)
theorem Mir.condF{o:Operand}{x y:Code}(hb:aN fr o=.d (.bool false))(hy:Mir g y fr s m Φ):Mir g (.cond o x y) fr s m Φ :=
 λe he=>SWs.cond hb (λh=>by cases h) (λ_=>hy e he)
theorem Mir.gh{c:Code}(gh:List Gh){fr0:Fr}{s0:Sg}(hgh:ghS gh fr s=some (fr0,s0))(h:Mir g c fr0 s0 m Φ):Mir g c fr s m Φ:=λe he=>SWs.gh gh hgh (h e he)
def JQ(F:ν→Fr)(S:ν→Sg)(Φ:ε→SQ):Ex ε ν→SQ
 | .ret e=>seqQ (λ_ _=>False) (Φ e)
 | .go v=>λx fr s=>x=.normal∧leL fr (F v)∧leS s (S v)
def JO(F:ν→Fr)(S:ν→Sg)(v:ν):SQ:=λx fr s=>x=.normal∧leL fr (F v)∧leS s (S v)
theorem Mir.join{x:Code}(F:ν→Fr)(S:ν→Sg){m1:Option (Ex ε ν)}{f:ν→Option ε}(ho:∀v,okF s (F v) (S v)=true)
  (hx:Mir g x fr s m1 (JQ F S Φ)) (hy:∀v e,f v=some e→Φ e .normal (F v) (S v)):Mir g x fr s (bindX m1 f) Φ:=by
 intro e he
 cases m1 with
 | none=>cases he
 | some z =>
  cases z with
  | ret r =>
   have:r=e:=Option.some.inj he
   subst this
   refine (hx _ rfl).mono ?_
   intro x fr s q
   cases x with
   | normal=>exact q.elim
   | _=>exact q
  | go v =>
   refine SWs.weak ((hx _ rfl).mono ?_)
   rintro x fr s ⟨rfl,q1,q2⟩
   exact⟨F v,S v,ho v,q1,q2,hy v e he⟩
theorem Mir.joinO{x:Code}(F:ν→Fr)(S:ν→Sg){m1:Option ν}{f:ν→Option ε}(ho:∀v,okF s (F v) (S v)=true)
  (hx:Mir g x fr s m1 (JO F S)) (hy:∀v e,f v=some e→Φ e .normal (F v) (S v)):Mir g x fr s (ac m1 f) Φ:=by
 intro e he
 obtain⟨v,h1,h2⟩:=bindO_some he
 refine SWs.weak ((hx _ h1).mono ?_)
 rintro x fr s ⟨rfl,q1,q2⟩
 grind
theorem Mir.joinV{x:Code}(F:Fr)(S:Sg)(ho:okF s F S=true)(hx:SWs g x (λe fr s=>e=.normal∧leL fr F∧leS s S) fr s)(hy:∀e,m=some e→Φ e .normal F S):Mir g x fr s m Φ:=by
 intro e he
 refine SWs.weak (hx.mono ?_)
 grind
def nQ{P:Program}(g:Pg P)(c:Code)(n:Nat)(Φ:ε→SQ)(e:ε):SQ:=seqQ (SWr g c (Φ e) n) (Φ e)
theorem Mir.loopR{c:Code}(n:Nat)(h:Mir g c fr s m (nQ g c n Φ)):Mir g (.loop c) fr s m Φ:=λe he=>SWs.rounds (n+1) (h e he)
theorem Mir.toN{c:Code}{n:Nat}(h:Mir g c fr s m (nQ g c n Φ)):∀e,m=some e→nQ g c (n+1) Φ e .normal fr s:=h
def aM{α ε ν:Type}(f:Nat→α→ν→Option (Ex ε ν))(d:ν→Option ε):List α→Nat→ν→Option ε
 | [],_,v=>d v
 | x::l,i,v=>match f i x v with | none=>none | some (.ret e)=>some e | some (.go v')=>aM f d l (i+1) v'
def dN{α:Type}(l:List α):Bool:=Nat.ble l.length 9223372036854775807
def DQ(Φ:ε→SQ)(e:ε):SQ:=seqQ (λ_ _=>False) (Φ e)
theorem wrap_next{n:Nat}(h:n<9223372036854775807):IntKind.i64.wrap ((n:Int)+1)=((n+1:Nat):Int):=by
 simp_all
theorem Mir.range{α:Type}{c:Code}{l:List α}(F:Nat→ν→Fr)(S:Nat→ν→Sg){f:Nat→α→ν→Option (Ex ε ν)}{d:ν→Option ε}{v0:ν}(hl:dN l=true)(ho:∀i v,okF s (F i v) (S i v)=true)(h0:leL fr (F 0 v0))(h1:leS s (S 0 v0))
  (hc:∀(i:Nat) (x:α) (v:ν),(l[i]? = some x∧decide ((i:Int)<(l.length:Int))=true∧IntKind.i64.wrap ((i:Int)+1)=((i+1:Nat):Int)∧((i:Int)<0)=False∧(i:Int).toNat=i)→Mir g c (F i v) (S i v) (f i x v) (JQ (F (i+1)) (S (i+1)) Φ))
  (hd:∀v,decide ((l.length:Int)<(l.length:Int))=false→Mir g c (F l.length v) (S l.length v) (d v) (DQ Φ)):Mir g (.loop c) fr s (aM f d l 0 v0) Φ:=by
 intro e he
 have hl':l.length≤9223372036854775807:=Nat.le_of_ble_eq_true hl
 refine SWs.loop2 (λk fr s=>∃i v,(k+i=l.length+1∧i≤l.length)∧fr=F i v∧s=S i v∧aM f d (l.drop i) i v=some e) (l.length+1) ?_ ⟨F 0 v0,S 0 v0,ho 0 v0,h0,h1,0,v0,⟨rfl,Nat.zero_le _⟩,rfl,rfl,he⟩ ?_
 simp_all
 rintro k fr1 s1 ⟨i,v,hk,rfl,rfl,hv⟩
 rcases Nat.lt_or_ge i l.length with hi | hi
 ·have hx:=List.getElem?_eq_getElem hi
  rw[List.drop_eq_getElem_cons hi]at hv
  simp only[aM]at hv
  have hcc:=hc i l[i] v ⟨hx,qY (by omega),wrap_next (by omega),eq_false (by omega),by simp⟩
  cases hf:f i l[i] v with
  | none=>simp_all
  | some z =>
   refine (hcc z hf).mono ?_
   rw[hf]at hv
   cases z with
   | ret r =>
    have:r=e:=Option.some.inj hv
    subst this
    intro x fr s q
    cases x with
    | normal=>exact q.elim
    | _=>exact q
   | go v' =>
    rintro x fr s ⟨rfl,q2,q3⟩
    exact⟨k-1,F (i+1) v',S (i+1) v',by omega,q2,q3,i+1,v',by omega,rfl,rfl,hv⟩
 ·have:i=l.length:=by omega
  subst this
  rw[List.drop_length]at hv
  simp only[aM]at hv
  refine (hd v (qZ (by omega)) e hv).mono ?_
  intro x fr s q
  cases x with
  | normal=>exact q.elim
  | _=>exact q
theorem Mir.loop{c:Code}(F:ν→Fr)(S:ν→Sg){f:ν→Option (Ex ε ν)}{n:Nat}{v0:ν}(ho:∀v,okF s (F v) (S v)=true)(h0:leL fr (F v0))(h1:leS s (S v0))
  (hc:∀v,Mir g c (F v) (S v) (f v) (JQ F S Φ)):Mir g (.loop c) fr s (dR f n v0) Φ:=by
 intro e he
 refine SWs.loop2 (λk fr s=>∃v,fr=F v∧s=S v∧dR f k v=some e) n ?_ ⟨F v0,S v0,ho v0,h0,h1,v0,rfl,rfl,he⟩ ?_
 simp_all
 rintro k fr1 s1 ⟨v,rfl,rfl,hv⟩
 cases k with
 | zero=>cases hv
 | succ k =>
  cases hf:f v with
  | none=>simp_all[dR]
  | some z =>
   refine (hc v z hf).mono ?_
   rw[dR,hf]at hv
   cases z with
   | ret r =>
    have:r=e:=Option.some.inj hv
    subst this
    intro x fr s q
    cases x with
    | normal=>exact q.elim
    | _=>exact q
   | go v' =>
    rintro x fr s ⟨rfl,q2,q3⟩
    exact⟨k,F v',S v',Nat.lt_succ_self k,q2,q3,v',rfl,rfl,hv⟩
def inQ{P:Program}(g:Pg P)(rs:List ResultVar)(Y:ν→V)(S:ν→Sg)(v:ν):SQ:=retQ g rs (λy s'=>V.le y (Y v)∧leS s' (S v))
theorem bf.inl{f:FuncId}{fn:Func}{c:Code}(hf:P.funcs[f]? = some fn)(hb:fn.body=some c)(he:cm P f=true)(hdr:fg c=true){args:List V}{R:V→Sg→Prop}(Y:ν→V)(S:ν→Sg){m1:Option ν}{v:ν}
  (hm:m1=some v) (ho:okF s [Y v] (S v)=true) (h:Mir g c (args++zD (fn.ntmps-args.length) .undef) s m1 (inQ g fn.results.toList Y S)) (hR:R (Y v) (S v)):bf g f args s R:=by
 have hs:=nt hf hb he hdr (h v hm)
 obtain⟨o1,o2,o3,o4⟩:=okF_ok ho
 simp only[V.unders,Bool.and_eq_true]at o1
 refine⟨he,λw0 w G vs hH hr=>(hs.2 w0 w G vs hH hr).mono ?_⟩
 rintro e w' ⟨u,y,s',G',q1,q2,q3,q4,q5,q6⟩
 exact⟨u,Y v,S v,_,q1,le_restr2 hH q2 o3 o4,HR_le q3 q6 o2,ox (q5.rel q4) o1.1,hR⟩
theorem Mir.toK{y:Code}(h:Mir g y fr s m Φ):∀e,m=some e→kQ g y Φ e .normal fr s:=h
theorem Mir.toB{id:Nat}(h:∀e,m=some e→Φ e .normal fr s):∀e,m=some e→bQ id Φ e .normal fr s:=h
def fnQ{P:Program}(g:Pg P)(rs:List ResultVar){ρ:Type}(en:ρ→V)(r:ρ):SQ:=retQ g rs (λy _=>y.clean=en r)
theorem lU{f:FuncId}{fn:Func}{c:Code}(hf:P.funcs[f]? = some fn)(hb:fn.body=some c)(he:cm P f=true)(hdr:fg c=true){args:List V}{ρ:Type}(en:ρ→V){m:Option ρ}
  (h:Mir g c (args++zD (fn.ntmps-args.length) .undef) ⟨[],[]⟩ m (fnQ g fn.results.toList en)) {y:ρ} (hy:m=some y):Spec g f args (en y):=spec_by hf hb he hdr (h y hy)
def fnF{P:Program}(g:Pg P)(rs:List ResultVar){ρ:Type}(en:ρ→V)(r:ρ):SQ:=retQ g rs (λy _=>y.cleanF=en r)
theorem specF_mir{f:FuncId}{fn:Func}{c:Code}(hf:P.funcs[f]? = some fn)(hb:fn.body=some c)(he:cm P f=true)(hdr:fg c=true){args:List V}{ρ:Type}(en:ρ→V){m:Option ρ}
  (h:Mir g c (args++zD (fn.ntmps-args.length) .undef) ⟨[],[]⟩ m (fnF g fn.results.toList en)) {y:ρ} (hy:m=some y):Spec g f args (en y):=specF_by hf hb he hdr (h y hy)
end
set_option linter.unusedVariables false
def optK{α:Type}(x:Option α)(f:α→Prop):Prop:=match x with | some v=>f v | none=>False
def nZ(F:Fr→Sg→(Fr→Sg→Prop)→Prop)(K:Fr→Sg→Prop)(fr:Fr)(dst:Option Tmp)(s:Sg)(v:V):Prop:=F (putF fr dst v) s K
def contE(F:Fr→Sg→(Fr→Sg→Prop)→Prop)(K:Fr→Sg→Prop)(fr:Fr)(dst:Option Tmp)(s:Sg)(p:V×Ef):Prop:=F (putF fr dst p.1) (p.2.sg s) K
def kS{P:Program}(g:Pg P)(s:Sg)(R:V→Sg→Prop)(fid:FuncId)(xs:List V):Prop:=bf g fid xs s R
def kD{P:Program}(g:Pg P)(R:V→Prop)(fid:FuncId)(xs:List V):Prop:=callD g fid (xs.map V.cleanF) R
def callF(f:V)(xs:List V)(c:FuncId→List V→Prop):Prop:=match f with | .fn fid caps=>c fid (xs++caps) | _=>False
def pickV(c a b:V):Option V:=match c with | .d (.bool t)=>some (if t then a else b) | _=>none
def nilV(x:V):Option V:=match x with | .ptr k off=>some (.ptr k off) | .iptr cs off=>some (.iptr cs off) | _=>none
def allocV(z:Option V)(k:Nat):Option (V×Ef):=match z with | some z=>(match z.cells? with | some cs=>some (.ptr k 0,.alloc cs) | none=>none) | none=>none
def loadV(P:Program)(s:Sg)(ty:TypeId)(a:V):Option V:=match a with
  | .ptr j off=>match s.obs[j]? with | some cs=>jv P ty cs off | none=>none
  | .iptr cs off=>jv P ty (gM cs) off
  | .d (.other (.pointer (some ⟨b,off,none⟩)))=>match glT b with | some cs=>jv P ty (gM cs) off | none=>none
  | _=>none
def storeV(P:Program)(s:Sg)(ty:TypeId)(a x:V):Option (V×Ef):=match a with
  | .ptr j off=>match s.obs[j]?,x.cells?,bs P ty with
   | some cs,some xs,some n=>if xs.length=n∧off+n≤cs.length∧xs.all V.one=true then some (.undef,.store j (lS cs off xs))else none
   | _,_,_=>none
  | _=>none
def aggEq(k:Option (List SK))(x y:Option (List D))(eq:Bool):Option V:=match k,x,y with
  | some ks,some ds,some es=>if ds.map D.kind? = ks.map some∧es.map D.kind? = ks.map some then some (.d (.bool (if eq then eqAll ds es else !(eqAll ds es))))else none
  | _,_,_=>none
def convB(b:Bool)(x:Option V):Option V:=if b=true then x else none
def binW{P:Program}(g:Pg P)(op:BinOp)(t:TypeId)(x y:V):Option V :=
 match (if sliceT P t=true then
   match y,op with
   | .nil,.eql=>match nilB x with | some b=>some (.d (.bool b)) | none=>none
   | .nil,.neq=>match nilB x with | some b=>some (.d (.bool (!b))) | none=>none
   | _,_=>none
  else none)with
 | some z=>some z
 | none=>binV g op t x y
def binX{P:Program}(g:Pg P)(op:BinOp)(t:TypeId)(yo:Operand)(x y:V):Option V :=
 match (if sliceT P t=true then
   match y,op with
   | .nil,.eql=>match nilB x with | some b=>some (.d (.bool b)) | none=>none
   | .nil,.neq=>match nilB x with | some b=>some (.d (.bool (!b))) | none=>none
   | _,_=>none
  else if ifaceT P t=true∧isNilC yo=true then binN op x else none)with
 | some z=>some z
 | none=>binV g op t x y
def convW(P:Program)(a b:TypeId)(x:V):Option V :=
 match (match x with
  | .d (.str s)=>if bytesT P b=true∧(P.underlying a).isSome=true then some (.d (.list (s.map λb=>[.int .u8 b.toNat])))else none
  | .d (.int _ n)=>if strT P b=true∧(P.underlying a).isSome=true then some (.d (.str (Utf8.encode n).data.toList))else none
  | _=>none)with
 | some z=>some z
 | none=>convB (P.underlying a).isSome (convV P b x)
def toE(x:Option V):Option (V×Ef):=match x with | some y=>some (y,.none) | none=>none
section
variable {P : Program} {g : Pg P} {dr : Bool} {ops : Array Oper} {rest : List Oper} {fr : Fr} {s : Sg} {K : Fr → Sg → Prop} {d : Option Tmp} {ty : TypeId} {p : String} {af : Array Edge}
theorem iw{F:Fr→Sg→(Fr→Sg→Prop)→Prop}(x:Option V):(match toE x with | some (y,f)=>F (putF fr d y) (f.sg s) K | none=>False)=optK x (nZ F K fr d s):=by cases x<;>rfl
theorem optK_E{F:Fr→Sg→(Fr→Sg→Prop)→Prop}(x:Option (V×Ef)):(match x with | some (y,f)=>F (putF fr d y) (f.sg s) K | none=>False)=optK x (contE F K fr d s):=by rcases x with _ | ⟨y,f⟩<;>rfl
theorem optK_W{F:Fr→Sg→(Fr→Sg→Prop)→Prop}(e z:Option V):(match (match e with | some y=>some (y,Ef.none) | none=>toE z)with | some (y,f)=>F (putF fr d y) (f.sg s) K | none=>False)=optK (match e with | some y=>some y | none=>z) (nZ F K fr d s):=by cases e<;>cases z<;>rfl
theorem r_move{x:Operand}:regS g dr ops (⟨d,.move x,ty,p,af,none⟩::rest) fr s K=regS g dr ops rest (putF fr d (aN fr x)) s K:=nr rfl
theorem r_assign{x:Operand}:regS g dr ops (⟨d,.assign x,ty,p,af,none⟩::rest) fr s K=regS g dr ops rest (putF fr d (aN fr x)) s K:=nr rfl
theorem r_pick{c a b:Operand}:regS g dr ops (⟨d,.pick c a b,ty,p,af,none⟩::rest) fr s K=optK (pickV (aN fr c) (aN fr a) (aN fr b)) (nZ (regS g dr ops rest) K fr d s):=iw _
theorem r_build{t:TypeId}{parts:Array (Nat×Operand)}:regS g dr ops (⟨d,.build t parts,ty,p,af,none⟩::rest) fr s K=optK (buildV P t (parts.toList.map λq=>(q.1,aN fr q.2))) (nZ (regS g dr ops rest) K fr d s):=iw _
theorem r_nilCheck{x:Operand}:regS g dr ops (⟨d,.nilCheck x,ty,p,af,none⟩::rest) fr s K=optK (nilV (aN fr x)) (nZ (regS g dr ops rest) K fr d s):=iw _
theorem r_binOp{o:BinOp}{t t':TypeId}{x y:Operand}:regS g dr ops (⟨d,.binOp o t x y t',ty,p,af,none⟩::rest) fr s K=optK (binX g o t y (aN fr x) (aN fr y)) (nZ (regS g dr ops rest) K fr d s):=optK_W _ _
theorem r_unOp{o:UnOp}{t:TypeId}{x:Operand}:regS g dr ops (⟨d,.unOp o t x,ty,p,af,none⟩::rest) fr s K=optK (unV o (aN fr x)) (nZ (regS g dr ops rest) K fr d s):=iw _
theorem r_convert{a b:TypeId}{x:Operand}:regS g dr ops (⟨d,.convert a b x,ty,p,af,none⟩::rest) fr s K=optK (convW P a b (aN fr x)) (nZ (regS g dr ops rest) K fr d s):=optK_W _ _
theorem r_makeFunc{f:FuncId}{cap:Array Operand}:regS g dr ops (⟨d,.makeFunc (.func f) #[] cap,ty,p,af,none⟩::rest) fr s K=regS g dr ops rest (putF fr d (.fn f (cap.toList.map (aN fr)))) s K:=nr rfl
theorem r_slice{t:TypeId}{x:Operand}{lo hi mx:Option Operand}:regS g dr ops (⟨d,.slice t x lo hi mx,ty,p,af,none⟩::rest) fr s K=optK (sliceV P t (aN fr x) (lo.map (aN fr)) (hi.map (aN fr)) (mx.map (aN fr))) (nZ (regS g dr ops rest) K fr d s):=iw _
theorem r_fieldAddr{t:TypeId}{x:Operand}{f:Nat}:regS g dr ops (⟨d,.fieldAddr t x f,ty,p,af,none⟩::rest) fr s K=optK (gw P t (aN fr x) f) (nZ (regS g dr ops rest) K fr d s):=iw _
theorem r_field{t:TypeId}{x:Operand}{f:Nat}:regS g dr ops (⟨d,.field t x f,ty,p,af,none⟩::rest) fr s K=optK (fieldV P t (aN fr x) f) (nZ (regS g dr ops rest) K fr d s):=iw _
theorem r_indexAddr{t:TypeId}{x i:Operand}:regS g dr ops (⟨d,.indexAddr t x i,ty,p,af,none⟩::rest) fr s K=optK (mZ P t (aN fr x) (aN fr i)) (nZ (regS g dr ops rest) K fr d s):=iw _
theorem r_index{t:TypeId}{x i:Operand}:regS g dr ops (⟨d,.index t x i,ty,p,af,none⟩::rest) fr s K=optK (indexV P t (aN fr x) (aN fr i)) (nZ (regS g dr ops rest) K fr d s):=iw _
theorem r_extract{x:Operand}{i:Nat}:regS g dr ops (⟨d,.extract x i,ty,p,af,none⟩::rest) fr s K=optK (extractV (aN fr x) i) (nZ (regS g dr ops rest) K fr d s):=iw _
theorem r_alloc{e:TypeId}:regS g dr ops (⟨d,.alloc e,ty,p,af,none⟩::rest) fr s K=optK (allocV (eT P e) s.obs.length) (contE (regS g dr ops rest) K fr d s):=optK_E _
theorem r_box{e:TypeId}{x:Operand}:regS g dr ops (⟨d,.box e x,ty,p,af,none⟩::rest) fr s K=optK (allocV (some (aN fr x)) s.obs.length) (contE (regS g dr ops rest) K fr d s):=optK_E _
theorem step_load{t:TypeId}{a:Operand}:il g (λk=>s.obs[k]?) (λt=>s.lns[t]?) s.obs.length s.lns.length ⟨d,.load t a,ty,p,af,none⟩ (aN fr)=toE (loadV P s t (aN fr a)):=by
 simp only[il,extS,fJ,loadV]
 grind[toE]
theorem r_load{t:TypeId}{a:Operand}:regS g dr ops (⟨d,.load t a,ty,p,af,none⟩::rest) fr s K=optK (loadV P s t (aN fr a)) (nZ (regS g dr ops rest) K fr d s):=by
 refine Eq.trans ?_ (iw _)
 rw[←step_load (g:=g) (d:=d) (ty:=ty) (p:=p) (af:=af)]
 rfl
theorem r_store{t:TypeId}{a x:Operand}:regS g dr ops (⟨d,.store t a x,ty,p,af,none⟩::rest) fr s K=optK (storeV P s t (aN fr a) (aN fr x)) (contE (regS g dr ops rest) K fr d s):=optK_E _
theorem r_buildSlice{t:TypeId}{n:Nat}{parts:Array (Nat×Operand)}:regS g dr ops (⟨d,.buildSlice t n parts,ty,p,af,none⟩::rest) fr s K=optK (rowV P t n s.obs.length (parts.toList.map λq=>(q.1,aN fr q.2))) (contE (regS g dr ops rest) K fr d s):=optK_E _
theorem r_append{x y:Operand}{t:TypeId}:regS g dr ops (⟨d,.call ⟨.builtin .append,#[x,y],#[t,t]⟩,ty,p,af,none⟩::rest) fr s K=optK (match extA P [t,t] [aN fr x,aN fr y]with | some v=>some (v,Ef.none) | none=>appV P (λt=>s.lns[t]?) s.lns.length t (aN fr x) (aN fr y)) (contE (regS g dr ops rest) K fr d s):=by
 refine Eq.trans ?_ (optK_E _)
 show (match (match extA P [t,t] [aN fr x,aN fr y]with | some v=>some (v,Ef.none) | none=>if t=t then appV P (λt=>s.lns[t]?) s.lns.length t (aN fr x) (aN fr y)else none)with | some (y,f)=>_ | none=>False)=_
 simp_all
theorem r_len{x:Operand}{t:TypeId}:regS g dr ops (⟨d,.call ⟨.builtin .len,#[x],#[t]⟩,ty,p,af,none⟩::rest) fr s K=optK (lenV P t (aN fr x)) (nZ (regS g dr ops rest) K fr d s):=iw _
theorem r_max{args:Array Operand}{tys:Array TypeId}:regS g dr ops (⟨d,.call ⟨.builtin .max,args,tys⟩,ty,p,af,none⟩::rest) fr s K=optK (mmV true (args.toList.map (aN fr))) (nZ (regS g dr ops rest) K fr d s):=by
 refine Eq.trans ?_ ((optK_W (F:=regS g dr ops rest) (mmV true (args.toList.map (aN fr))) none).trans (by cases mmV true (args.toList.map (aN fr))<;>rfl))
 rfl
theorem r_min{args:Array Operand}{tys:Array TypeId}:regS g dr ops (⟨d,.call ⟨.builtin .min,args,tys⟩,ty,p,af,none⟩::rest) fr s K=optK (mmV false (args.toList.map (aN fr))) (nZ (regS g dr ops rest) K fr d s):=by
 refine Eq.trans ?_ ((optK_W (F:=regS g dr ops rest) (mmV false (args.toList.map (aN fr))) none).trans (by cases mmV false (args.toList.map (aN fr))<;>rfl))
 rfl
theorem r_call{f:Operand}{args:Array Operand}{tys:Array TypeId}:regS g false ops (⟨d,.call ⟨.value f,args,tys⟩,ty,p,af,none⟩::rest) fr s K=callF (aN fr f) (args.toList.map (aN fr)) (kS g s (contK (regS g false ops rest) K fr d)):=by
 show (match callS fr ⟨.value f,args,tys⟩with | some (fid,xs)=>_ | none=>False)=_
 grind[callS,callF,kS]
theorem r_callD{f:Operand}{args:Array Operand}{tys:Array TypeId}:regS g true ops (⟨d,.call ⟨.value f,args,tys⟩,ty,p,af,none⟩::rest) fr s K=callF (aN fr f) (args.toList.map (aN fr)) (kD g (contD (regS g true ops rest) K fr d s)):=by
 show (match callS fr ⟨.value f,args,tys⟩with | some (fid,xs)=>_ | none=>False)=_
 grind[callS,callF,kD]
theorem r_guard{o:Op}{j:Nat}{w:Bool}:regS g dr ops (⟨d,o,ty,p,af,some (j,w)⟩::rest) fr s K =
  (if bo ops fr ⟨d,o,ty,p,af,some (j,w)⟩=some true then regS g dr ops (⟨d,o,ty,p,af,none⟩::rest) fr s K else if bo ops fr ⟨d,o,ty,p,af,some (j,w)⟩=some false then regS g dr ops rest (putF fr d .skip) s K else False):=by
 simp only[regS]
 generalize bo ops fr ⟨d,o,ty,p,af,some (j,w)⟩=z
 rcases z with _ | _ | _
 ·simp
 ·simp
 ·simp[bo];rfl
theorem w_guard{o:Op}{j:Nat}{w:Bool}:bo ops fr ⟨d,o,ty,p,af,some (j,w)⟩=(match (ops.toList[j]?).bind (·.dst)with | some t=>(match fr.getD t .undef with | .d (.bool b)=>some (b==w) | .skip=>some false | _=>none) | none=>some false):=by
 grind[bo]
end
def andI(k:IntKind)(a b:Int):Int:=k.wrap (BitVec.ofInt k.bits a &&& BitVec.ofInt k.bits b).toNat
def orI(k:IntKind)(a b:Int):Int:=k.wrap (BitVec.ofInt k.bits a ||| BitVec.ofInt k.bits b).toNat
def xorI(k:IntKind)(a b:Int):Int:=k.wrap (BitVec.ofInt k.bits a ^^^ BitVec.ofInt k.bits b).toNat
def shrI(k:IntKind)(a b:Int):Int:=a.fdiv (2 ^ (min b.toNat k.bits))
def shlI(k:IntKind)(a b:Int):Int:=k.wrap (a*2 ^ (min b.toNat k.bits))
section
variable {P : Program} {g : Pg P} {fr : Fr} {s : Sg}
theorem e_tmp{t:Tmp}:aN fr (.tmp t)=fr.getD t .undef:=nr rfl
theorem e_const{v:Value}:aN fr (.const v)=lit v:=nr rfl
theorem e_global{b:Nat}:aN fr (.global b)=.d (.other (.pointer (some ⟨b,0,none⟩))):=nr rfl
theorem e_func{f:FuncId}:aN fr (.func f)=.fn f []:=nr rfl
theorem l_int{k:IntKind}{n:Int}:lit (.int k n)=.d (.int k n):=nr rfl
theorem l_bool{b:Bool}:lit (.bool b)=.d (.bool b):=nr rfl
theorem l_str{l:List UInt8}:lit (.string ⟨⟨l⟩⟩)=.d (.str l):=nr rfl
theorem l_strT{l:List UInt8}:lit (.string ⟨l.toArray⟩)=.d (.str l):=nr rfl
theorem lc_strT{l:List UInt8}:litC (.string ⟨l.toArray⟩)=.d (.str l):=nr rfl
theorem l_aggT{l:List Value}:lit (.agg l.toArray)=.agg (l.map litC):=nr rfl
theorem l_nil:lit (.slice none 0 0)=.nil:=nr rfl
theorem l_agg{l:List Value}:lit (.agg ⟨l⟩)=.agg (l.map litC):=nr rfl
theorem lc_int{k:IntKind}{n:Int}:litC (.int k n)=.d (.int k n):=nr rfl
theorem lc_bool{b:Bool}:litC (.bool b)=.d (.bool b):=nr rfl
theorem lc_str{l:List UInt8}:litC (.string ⟨⟨l⟩⟩)=.d (.str l):=nr rfl
theorem lc_nil:litC (.slice none 0 0)=.nil:=nr rfl
theorem p_some{t:Tmp}{x:V}:putF fr (some t) x=fr.set t x:=nr rfl
theorem p_none{x:V}:putF fr none x=fr:=nr rfl
theorem optK_some{α:Type}{v:α}{f:α→Prop}:optK (some v) f=f v:=nr rfl
theorem optK_none{α:Type}{f:α→Prop}:optK none f=False:=nr rfl
theorem contV_eq{F:Fr→Sg→(Fr→Sg→Prop)→Prop}{K:Fr→Sg→Prop}{d:Option Tmp}{v:V}:nZ F K fr d s v=F (putF fr d v) s K:=nr rfl
theorem contE_eq{F:Fr→Sg→(Fr→Sg→Prop)→Prop}{K:Fr→Sg→Prop}{d:Option Tmp}{v:V}{f:Ef}:contE F K fr d s (v,f)=F (putF fr d v) (f.sg s) K:=nr rfl
theorem callF_fn{fid:FuncId}{caps xs:List V}{c:FuncId→List V→Prop}:callF (.fn fid caps) xs c=c fid (xs++caps):=nr rfl
theorem sg_none:Ef.sg .none s=s:=nr rfl
theorem sg_alloc{cs:List V}{o:List (List V)}{l:List (TypeId×Nat)}:Ef.sg (.alloc cs) ⟨o,l⟩=⟨o++[cs],l⟩:=nr rfl
theorem sg_store{j:Nat}{cs:List V}{o:List (List V)}{l:List (TypeId×Nat)}:Ef.sg (.store j cs) ⟨o,l⟩=⟨o.set j cs,l⟩:=nr rfl
theorem sg_app{t:Nat}{e:TypeId}{n:Nat}{o:List (List V)}{l:List (TypeId×Nat)}:Ef.sg (.app t e n) ⟨o,l⟩=if t<l.length then ⟨o,l.set t (e,n)⟩else ⟨o,l++[(e,n)]⟩:=nr rfl
theorem pick_t{a b:V}:pickV (.d (.bool true)) a b=some a:=nr rfl
theorem pick_f{a b:V}:pickV (.d (.bool false)) a b=some b:=nr rfl
theorem nil_ptr{k off:Nat}:nilV (.ptr k off)=some (.ptr k off):=nr rfl
theorem nil_iptr{cs:List D}{off:Nat}:nilV (.iptr cs off)=some (.iptr cs off):=nr rfl
theorem c_agg{cs:List V}:V.cells? (.agg cs)=some cs:=nr rfl
theorem c_d{x:D}:V.cells? (.d x)=some [.d x]:=nr rfl
theorem c_ptr{k off:Nat}:V.cells? (.ptr k off)=some [.ptr k off]:=nr rfl
theorem c_iptr{cs:List D}{off:Nat}:V.cells? (.iptr cs off)=some [.iptr cs off]:=nr rfl
theorem c_own{t:Nat}{es:List (List D)}:V.cells? (.own t es)=some [.own t es]:=nr rfl
theorem c_full{es:List (List D)}:V.cells? (.full es)=some [.full es]:=nr rfl
theorem c_nil:V.cells? .nil=some [.nil]:=nr rfl
theorem c_fn{f:FuncId}{cs:List V}:V.cells? (.fn f cs)=some [.fn f cs]:=nr rfl
theorem c_sl{a b c d:Nat}:V.cells? (.sl a b c d)=some [.sl a b c d]:=nr rfl
theorem c_mp{k:Nat}:V.cells? (.mp k)=some [.mp k]:=nr rfl
theorem c_gr{k n:Nat}:V.cells? (.gr k n)=some [.gr k n]:=nr rfl
theorem on_gr{k n:Nat}:V.one (.gr k n)=true:=nr rfl
theorem on_adr{k:Nat}:V.one (.adr k)=true:=nr rfl
theorem on_mp{k:Nat}:V.one (.mp k)=true:=nr rfl
theorem al_agg{k:Nat}{cs:List V}:allocV (some (.agg cs)) k=some (.ptr k 0,.alloc cs):=nr rfl
theorem al_d{k:Nat}{x:D}:allocV (some (.d x)) k=some (.ptr k 0,.alloc [.d x]):=nr rfl
theorem al_nil{k:Nat}:allocV (some .nil) k=some (.ptr k 0,.alloc [.nil]):=nr rfl
theorem al_own{k t:Nat}{es:List (List D)}:allocV (some (.own t es)) k=some (.ptr k 0,.alloc [.own t es]):=nr rfl
theorem al_full{k:Nat}{es:List (List D)}:allocV (some (.full es)) k=some (.ptr k 0,.alloc [.full es]):=nr rfl
theorem al_fn{k:Nat}{f:FuncId}{cs:List V}:allocV (some (.fn f cs)) k=some (.ptr k 0,.alloc [.fn f cs]):=nr rfl
theorem al_ptr{k a b:Nat}:allocV (some (.ptr a b)) k=some (.ptr k 0,.alloc [.ptr a b]):=nr rfl
theorem ld_ptr{j off:Nat}{ty:TypeId}{o:List (List V)}{l:List (TypeId×Nat)}:loadV P ⟨o,l⟩ ty (.ptr j off)=(match o[j]? with | some cs=>jv P ty cs off | none=>none):=nr rfl
theorem ld_iptr{cs:List D}{off:Nat}{ty:TypeId}:loadV P s ty (.iptr cs off)=jv P ty (gM cs) off:=nr rfl
theorem ld_glob{b off:Nat}{ty:TypeId}:loadV P s ty (.d (.other (.pointer (some ⟨b,off,none⟩))))=(match glT b with | some cs=>jv P ty (gM cs) off | none=>none):=nr rfl
theorem st_ptr {j off : Nat} {ty : TypeId} {x : V} {o : List (List V)} {l : List (TypeId × Nat)} : storeV P ⟨o, l⟩ ty (.ptr j off) x = (match o[j]?, x.cells?, bs P ty with
      | some cs,some xs,some n=>if xs.length=n∧off+n≤cs.length∧xs.all V.one=true then some (.undef,.store j (lS cs off xs))else none
      | _,_,_=>none):=nr rfl
theorem mo{t:TypeId}{cs:List V}{off:Nat}:jv P t cs off=(match aggT P t with
 | some true=>match bs P t with
  | some n=>if off+n≤cs.length then some (.agg ((cs.drop off).take n))else none
  | none=>none
 | some false=>cs[off]?
 | none=>none):=nr rfl
theorem iS:gM []=[]:=nr rfl
theorem fR{x:D}{cs:List D}:gM (x::cs)=.d x::gM cs:=nr rfl
theorem on_d{x:D}:V.one (.d x)=true:=nr rfl
theorem on_ptr{k off:Nat}:V.one (.ptr k off)=true:=nr rfl
theorem on_iptr{cs:List D}{off:Nat}:V.one (.iptr cs off)=true:=nr rfl
theorem on_own{t:Nat}{es:List (List D)}:V.one (.own t es)=true:=nr rfl
theorem on_full{es:List (List D)}:V.one (.full es)=true:=nr rfl
theorem on_nil:V.one .nil=true:=nr rfl
theorem on_fn{f:FuncId}{cs:List V}:V.one (.fn f cs)=true:=nr rfl
theorem on_sl{a b c d:Nat}:V.one (.sl a b c d)=true:=nr rfl
theorem sp_eq{cs xs:List V}{off:Nat}:lS cs off xs=cs.take off++xs++cs.drop (off+xs.length):=nr rfl
theorem fa_eq{t:TypeId}{x:V}{f:Nat}:gw P t x f=(match aJ P t f with
 | none=>none
 | some (fo,ty)=>match bs P ty with
  | none=>none
  | some n=>if n=0 then none else match x with
   | .ptr k off=>some (.ptr k (off+fo))
   | .iptr cs off=>some (.iptr cs (off+fo))
   | _=>none):=nr rfl
theorem fd_eq{t:TypeId}{cs:List V}{f:Nat}:fieldV P t (.agg cs) f=(match aJ P t f with | some (fo,ty)=>jv P ty cs fo | none=>none):=by
 simp only[fieldV]
 grind
theorem ex_eq{vs:List V}{i:Nat}:extractV (.tuple vs) i=vs[i]?:=nr rfl
theorem un_neg{k:IntKind}{n:Int}:unV .neg (.d (.int k n))=some (.d (.int k (k.wrap (0-n)))):=nr rfl
theorem un_not{b:Bool}:unV .not (.d (.bool b))=some (.d (.bool (!b))):=nr rfl
theorem cv_int{k:IntKind}{n:Int}{t:TypeId}:convV P t (.d (.int k n))=(match P.underlying t with | some (.int k)=>some (.d (.int k (k.wrap n))) | _=>none):=nr rfl
theorem cv_str{l:List UInt8}{t:TypeId}:convV P t (.d (.str l))=(match P.underlying t with | some .string=>some (.d (.str l)) | _=>none):=nr rfl
theorem cb_t{x:Option V}:convB true x=x:=nr rfl
theorem bw_d{op:BinOp}{t:TypeId}{x:V}{y:D}:binW g op t x (.d y)=binV g op t x (.d y):=by
 simp_all[binW]
theorem bw_a{op:BinOp}{t:TypeId}{x:V}{y:List V}:binW g op t x (.agg y)=binV g op t x (.agg y):=by
 simp_all[binW]
theorem bx_w{op:BinOp}{t:TypeId}{yo:Operand}{x y:V}(h:isNilC yo=false):binX g op t yo x y=binW g op t x y:=by
 unfold binX binW
 simp_all
theorem bx_t{op:BinOp}{t:TypeId}{n:Nat}{x y:V}:binX g op t (.tmp n) x y=binW g op t x y:=bx_w rfl
theorem bx_i{op:BinOp}{t:TypeId}{k:IntKind}{n:Int}{x y:V}:binX g op t (.const (.int k n)) x y=binW g op t x y:=bx_w rfl
theorem bx_b{op:BinOp}{t:TypeId}{b:Bool}{x y:V}:binX g op t (.const (.bool b)) x y=binW g op t x y:=bx_w rfl
theorem bx_s{op:BinOp}{t:TypeId}{b:ByteArray}{x y:V}:binX g op t (.const (.string b)) x y=binW g op t x y:=bx_w rfl
theorem bx_l{op:BinOp}{t:TypeId}{a:Option Addr}{n c:Nat}{x y:V}:binX g op t (.const (.slice a n c)) x y=binW g op t x y:=bx_w rfl
theorem bx_a{op:BinOp}{t:TypeId}{cs:Array Value}{x y:V}:binX g op t (.const (.agg cs)) x y=binW g op t x y:=bx_w rfl
theorem bw_ne{t:TypeId}{x:V}{b:Bool}(h:sliceT P t=true)(hb:nilB x=some b):binW g .eql t x .nil=some (.d (.bool b)):=by grind[binW]
theorem bw_nn{t:TypeId}{x:V}{b:Bool}(h:sliceT P t=true)(hb:nilB x=some b):binW g .neq t x .nil=some (.d (.bool (!b))):=by grind[binW]
theorem cw_str{a b:TypeId}{l:List UInt8}(h:bytesT P b=false):convW P a b (.d (.str l))=convB (P.underlying a).isSome (convV P b (.d (.str l))):=by simp[convW,h]
theorem cw_int{a b:TypeId}{k:IntKind}{n:Int}(h:strT P b=false):convW P a b (.d (.int k n))=convB (P.underlying a).isSome (convV P b (.d (.int k n))):=by simp[convW,h]
theorem cw_by{a b:TypeId}{l:List UInt8}(h:bytesT P b=true)(ha:(P.underlying a).isSome=true):convW P a b (.d (.str l))=some (.d (.list (l.map λb=>[.int .u8 b.toNat]))):=by grind[convW]
theorem cw_ru{a b:TypeId}{k:IntKind}{n:Int}(h:strT P b=true)(ha:(P.underlying a).isSome=true):convW P a b (.d (.int k n))=some (.d (.str (Utf8.encode n).data.toList)):=by grind[convW]
theorem by_df{t:TypeId}:bytesT P t=(match P.underlying t with | some (.slice e)=>(match P.underlying e with | some (.int .u8)=>true | _=>false) | _=>false):=nr rfl
theorem st_df{t:TypeId}:strT P t=(match P.underlying t with | some .string=>true | _=>false):=nr rfl
theorem sc_df{t:TypeId}:sliceT P t=(match P.underlying t with | some (.slice _)=>true | _=>false):=nr rfl
theorem mm_c{mx:Bool}{k:IntKind}{a:Int}{r:List V}:mmV mx (.d (.int k a)::r)=mmF mx k a r:=nr rfl
theorem mf_n{mx:Bool}{k:IntKind}{a:Int}:mmF mx k a []=some (.d (.int k a)):=nr rfl
theorem mf_c{mx:Bool}{k k':IntKind}{a b:Int}{r:List V}:mmF mx k a (.d (.int k' b)::r)=mmF mx k (mmI mx a b) r:=nr rfl
theorem nb_nil:nilB .nil=some true:=nr rfl
theorem nb_oth{A:Option Addr}{n c:Nat}:nilB (.d (.other (.slice A n c)))=some A.isNone:=nr rfl
theorem nb_con{e:List D}{es:List (List D)}:nilB (.d (.list (e::es)))=some false:=nr rfl
theorem nb_own{t:Nat}{e:List D}{es:List (List D)}:nilB (.own t (e::es))=some false:=nr rfl
theorem nb_ful{e:List D}{es:List (List D)}:nilB (.full (e::es))=some false:=nr rfl
theorem li_oth{A:Option Addr}{c:Nat}:V.list? (.d (.other (.slice A 0 c)))=some []:=nr rfl
theorem in1:Option.isNone (none:Option Addr)=true:=nr rfl
theorem in2{p:Addr}:Option.isNone (some p)=false:=nr rfl
theorem b_add{t:TypeId}{k:IntKind}{a b:Int}:binV g .add t (.d (.int k a)) (.d (.int k b))=some (.d (.int k (k.wrap (a+b)))):=by simp[binV,binD,ky]
theorem b_sub{t:TypeId}{k:IntKind}{a b:Int}:binV g .sub t (.d (.int k a)) (.d (.int k b))=some (.d (.int k (k.wrap (a-b)))):=by simp[binV,binD,ky]
theorem b_mul{t:TypeId}{k:IntKind}{a b:Int}:binV g .mul t (.d (.int k a)) (.d (.int k b))=some (.d (.int k (k.wrap (a*b)))):=by simp[binV,binD,ky]
theorem b_quo{t:TypeId}{k:IntKind}{a b:Int}:binV g .quo t (.d (.int k a)) (.d (.int k b))=if b=0 then none else some (.d (.int k (k.wrap (a.tdiv b)))):=by grind[binV,binD,ky]
theorem b_rem{t:TypeId}{k:IntKind}{a b:Int}:binV g .rem t (.d (.int k a)) (.d (.int k b))=if b=0 then none else some (.d (.int k (a.tmod b))):=by grind[binV,binD,ky]
theorem b_eql{t:TypeId}{k:IntKind}{a b:Int}:binV g .eql t (.d (.int k a)) (.d (.int k b))=some (.d (.bool (a==b))):=by simp[binV,binD,ky]
theorem b_neq{t:TypeId}{k:IntKind}{a b:Int}:binV g .neq t (.d (.int k a)) (.d (.int k b))=some (.d (.bool (a != b))):=by simp[binV,binD,ky]
theorem b_lss{t:TypeId}{k:IntKind}{a b:Int}:binV g .lss t (.d (.int k a)) (.d (.int k b))=some (.d (.bool (decide (a<b)))):=by simp[binV,binD,ky]
theorem b_leq{t:TypeId}{k:IntKind}{a b:Int}:binV g .leq t (.d (.int k a)) (.d (.int k b))=some (.d (.bool (decide (a≤b)))):=by simp[binV,binD,ky]
theorem b_gtr{t:TypeId}{k:IntKind}{a b:Int}:binV g .gtr t (.d (.int k a)) (.d (.int k b))=some (.d (.bool (decide (a>b)))):=by simp[binV,binD,ky]
theorem b_geq{t:TypeId}{k:IntKind}{a b:Int}:binV g .geq t (.d (.int k a)) (.d (.int k b))=some (.d (.bool (decide (a≥b)))):=by simp[binV,binD,ky]
theorem b_and{t:TypeId}{k:IntKind}{a b:Int}:binV g .and t (.d (.int k a)) (.d (.int k b))=some (.d (.int k (andI k a b))):=by simp[binV,binD,ky,andI]
theorem b_or{t:TypeId}{k:IntKind}{a b:Int}:binV g .or t (.d (.int k a)) (.d (.int k b))=some (.d (.int k (orI k a b))):=by simp[binV,binD,ky,orI]
theorem b_xor{t:TypeId}{k:IntKind}{a b:Int}:binV g .xor t (.d (.int k a)) (.d (.int k b))=some (.d (.int k (xorI k a b))):=by simp[binV,binD,ky,xorI]
theorem b_shr{t:TypeId}{k k':IntKind}{a b:Int}:binV g .shr t (.d (.int k a)) (.d (.int k' b))=if b<0 then none else some (.d (.int k (shrI k a b))):=by grind[binV,binD,pC,shrI]
theorem b_shl{t:TypeId}{k k':IntKind}{a b:Int}:binV g .shl t (.d (.int k a)) (.d (.int k' b))=if b<0 then none else some (.d (.int k (shlI k a b))):=by grind[binV,binD,pC,shlI]
theorem b_seql{t:TypeId}{a b:List UInt8}:binV g .eql t (.d (.str a)) (.d (.str b))=some (.d (.bool (a==b))):=nr rfl
theorem b_sneq{t:TypeId}{a b:List UInt8}:binV g .neq t (.d (.str a)) (.d (.str b))=some (.d (.bool (!(a==b)))):=nr rfl
theorem b_sadd{t:TypeId}{a b:List UInt8}:binV g .add t (.d (.str a)) (.d (.str b))=if a.length+b.length≤9223372036854775807 then some (.d (.str (a++b)))else none:=by simp_all[binV,binD,strBin]
theorem b_slss{t:TypeId}{a b:List UInt8}:binV g .lss t (.d (.str a)) (.d (.str b))=some (.d (.bool (Op.bytesLess a b))):=nr rfl
theorem b_beql{t:TypeId}{a b:Bool}:binV g .eql t (.d (.bool a)) (.d (.bool b))=(match P.underlying t with | some .bool=>some (.d (.bool (a==b))) | _=>none):=nr rfl
theorem b_bneq{t:TypeId}{a b:Bool}:binV g .neq t (.d (.bool a)) (.d (.bool b))=(match P.underlying t with | some .bool=>some (.d (.bool (!(a==b)))) | _=>none):=nr rfl
theorem b_aeql{t:TypeId}{xs ys:List V}:binV g .eql t (.agg xs) (.agg ys)=aggEq (g.E t) (ip xs) (ip ys) true:=by
 grind[binV,aggEq]
theorem b_aneq{t:TypeId}{xs ys:List V}:binV g .neq t (.agg xs) (.agg ys)=aggEq (g.E t) (ip xs) (ip ys) false:=by
 grind[binV,aggEq]
theorem ae_t{ks:List SK}{ds es:List D}:aggEq (some ks) (some ds) (some es) true=if ds.map D.kind? = ks.map some∧es.map D.kind? = ks.map some then some (.d (.bool (eqAll ds es)))else none:=nr rfl
theorem ae_f{ks:List SK}{ds es:List D}:aggEq (some ks) (some ds) (some es) false=if ds.map D.kind? = ks.map some∧es.map D.kind? = ks.map some then some (.d (.bool (!(eqAll ds es))))else none:=nr rfl
theorem da_nil:ip []=some []:=nr rfl
theorem da_cons{x:D}{xs:List V}:ip (.d x::xs)=(match ip xs with | some b=>some (x::b) | none=>none):=by grind[ip,V.data?]
theorem da_cnil{xs:List V}:ip (.nil::xs)=(match ip xs with | some b=>some (.list []::b) | none=>none):=by grind[ip,V.data?]
theorem da_cown{t:Nat}{es:List (List D)}{xs:List V}:ip (.own t es::xs)=(match ip xs with | some b=>some (.list es::b) | none=>none):=by grind[ip,V.data?]
theorem da_cfull{es:List (List D)}{xs:List V}:ip (.full es::xs)=(match ip xs with | some b=>some (.list es::b) | none=>none):=by grind[ip,V.data?]
theorem da_cptr{k off:Nat}{xs:List V}:ip (.ptr k off::xs)=none:=nr rfl
theorem dk_int{k:IntKind}{n:Int}:D.kind? (.int k n)=some (.int k):=nr rfl
theorem dk_bool{b:Bool}:D.kind? (.bool b)=some .bool:=nr rfl
theorem dk_str{l:List UInt8}:D.kind? (.str l)=some .str:=nr rfl
theorem ea_nil:eqAll [] []=true:=nr rfl
theorem ea_cons{x y:D}{xs ys:List D}:eqAll (x::xs) (y::ys)=(eqD x y&&eqAll xs ys):=nr rfl
theorem ed_int{k k':IntKind}{a b:Int}:eqD (.int k a) (.int k' b)=(a==b):=nr rfl
theorem ed_bool{a b:Bool}:eqD (.bool a) (.bool b)=(a==b):=nr rfl
theorem ed_str{a b:List UInt8}:eqD (.str a) (.str b)=(a==b):=nr rfl
theorem li_list{es:List (List D)}:V.list? (.d (.list es))=some es:=nr rfl
theorem li_own{t:Nat}{es:List (List D)}:V.list? (.own t es)=some es:=nr rfl
theorem li_full{es:List (List D)}:V.list? (.full es)=some es:=nr rfl
theorem li_nil:V.list? .nil=some []:=nr rfl
theorem ln_eq{t:TypeId}{x:V}:lenV P t x=(match P.underlying t with
 | some .string=>match x with | .d (.str s)=>some (.d (.int .i64 s.length)) | _=>none
 | some (.slice _)=>match x with
  | .sl _ _ len _=>some (.d (.int .i64 len))
  | _=>match x.list? with | some es=>some (.d (.int .i64 es.length)) | none=>none
 | some (.array n _)=>some (.d (.int .i64 n))
 | _=>none):=nr rfl
theorem ia_eq{t:TypeId}{x:V}{k:IntKind}{n:Int}:mZ P t x (.d (.int k n))=if n<0 then none else (match P.underlying t with
  | some (.slice e)=>match bs P e with
   | none=>none
   | some sz=>match x with
    | .sl k off len _=>if n.toNat<len then some (.ptr k (off+n.toNat*sz))else none
    | _=>match x.list? with
     | some es=>match es[n.toNat]? with
      | some c=>if c.length=sz then some (.iptr c 0)else none
      | none=>none
     | none=>none
  | some (.array len e)=>match bs P e with
   | none=>none
   | some sz=>if n.toNat<len then match x with
     | .ptr k off=>some (.ptr k (off+n.toNat*sz))
     | .iptr cs off=>some (.iptr cs (off+n.toNat*sz))
     | x=>globA x (n.toNat*sz)
    else none
  | _=>none):=nr rfl
theorem ga_eq{b off k:Nat}:globA (.d (.other (.pointer (some ⟨b,off,none⟩)))) k=some (.d (.other (.pointer (some ⟨b,off+k,none⟩)))):=nr rfl
theorem ix_agg {t : TypeId} {cs : List V} {k : IntKind} {n : Int} : indexV P t (.agg cs) (.d (.int k n)) = if n < 0 then none else (match P.underlying t with
      | some (.array len e)=>match bs P e with
        | some sz=>if n.toNat<len then jv P e cs (n.toNat*sz)else none
        | none=>none
      | _=>none):=nr rfl
theorem ix_str {t : TypeId} {l : List UInt8} {k : IntKind} {n : Int} : indexV P t (.d (.str l)) (.d (.int k n)) = if n < 0 then none else (match P.underlying t with
      | some .string=>match l[n.toNat]? with
        | some b=>some (.d (.int .u8 b.toNat))
        | none=>none
      | _=>none):=nr rfl
theorem bd_none{d:Nat}:bnd d none=some d:=nr rfl
theorem bd_some{d:Nat}{k:IntKind}{n:Int}:bnd d (some (.d (.int k n)))=if n<0 then none else some n.toNat:=nr rfl
theorem sl_eq{t:TypeId}{x:V}{lo hi:Option V}:sliceV P t x lo hi none=(match P.underlying t with
 | some .string=>match x with
  | .d (.str s)=>match bnd 0 lo,bnd s.length hi with
   | some l,some h=>if l≤h∧h≤s.length then some (.d (.str ((s.drop l).take (h-l))))else none
   | _,_=>none
  | _=>none
 | some (.slice e)=>match bs P e with
  | none=>none
  | some sz=>match x with
   | .sl k off len cap=>match bnd 0 lo,bnd len hi,some cap with
    | some l,some h,some m=>if l≤h∧h≤m∧m≤cap then some (.sl k (if m=l then off else off+l*sz) (h-l) (m-l))else none
    | _,_,_=>none
   | _=>match x.list? with
    | some es=>match bnd 0 lo,bnd es.length hi with
      | some l,some h=>if l≤h∧h≤es.length∧es.all (·.length==sz)then some (.d (.list ((es.drop l).take (h-l))))else none
      | _,_=>none
    | none=>none
 | some (.array n e)=>match bs P e with
  | none=>none
  | some sz=>match x with
   | .ptr k off=>match bnd 0 lo,bnd n hi,some n with
    | some l,some h,some m=>if l≤h∧h≤m∧m≤n then some (.sl k (if m=l then off else off+l*sz) (h-l) (m-l))else none
    | _,_,_=>none
   | _=>none
 | _=>none):=by simp[sliceV,bnd];rfl
theorem sl_mx{t:TypeId}{es:List (List D)}{lo:Option V}{k:IntKind}{n:Int}:sliceV P t (.d (.list es)) lo (some (.d (.int k n))) (some (.d (.int k n)))=(match P.underlying t with
 | some (.slice e)=>match bs P e with
  | none=>none
  | some sz=>match bnd 0 lo,bnd es.length (some (.d (.int k n)))with
   | some l,some h=>if l≤h∧h≤es.length∧es.all (·.length==sz)then some (.full ((es.drop l).take (h-l)))else none
   | _,_=>none
 | _=>none):=by
 unfold sliceV
 cases P.underlying t with
 | none=>rfl
 | some u =>
  cases u with
  | slice e =>
   dsimp only
   cases bs P e with
   | none=>rfl
   | some sz =>
    dsimp only [V.list?,V.data?]
    simp only[bd_some]
    grind
  | array n e =>
   grind
  | string=>rfl
  | _=>rfl
theorem bl_eq{t:TypeId}{parts:List (Nat×V)}:buildV P t parts=(match eT P t with
 | none=>none
 | some z=>match z.cells? with
  | none=>none
  | some zs=>match dG P t with
   | some (.struct l)=>(nV (λi=>l[i]?) zs parts).map .agg
   | some (.array sz)=>(nV (λi=>some (i*sz,sz)) zs parts).map .agg
   | none=>none):=nr rfl
theorem fv_nil{place:Nat→Option (Nat×Nat)}{cells:List V}:nV place cells []=some cells:=nr rfl
theorem fv_cons{place:Nat→Option (Nat×Nat)}{cells:List V}{i:Nat}{x:V}{rest:List (Nat×V)}:nV place cells ((i,x)::rest)=(match place i,x.cells? with
  | some (off,size),some cs=>if cs.length=size∧off+cs.length≤cells.length then nV place (lS cells off cs) rest else none
  | _,_=>none):=nr rfl
theorem rw_eq{t:TypeId}{len k:Nat}{parts:List (Nat×V)}:rowV P t len k parts=(match P.underlying t with
 | some (.slice e)=>match bs P e,eT P e with
  | some sz,some z=>match z.cells? with
   | some zs =>
    if zs.length=sz∧cd (len*sz)=true then
     match nV (λi=>some (i*sz,sz)) (reps len zs) parts with
     | some out=>match ip out with
      | some ds=>some (.full (lN sz len ds),.none)
      | none=>some (.sl k 0 len len,.alloc out)
     | none=>none
    else none
   | none=>none
  | _,_=>none
 | _=>none):=nr rfl
theorem rp_z{zs:List V}:reps 0 zs=[]:=nr rfl
theorem rp_s{n:Nat}{zs:List V}:reps (n+1) zs=zs++reps n zs:=nr rfl
theorem ch_z{sz:Nat}{ds:List D}:lN sz 0 ds=[]:=nr rfl
theorem ch_s{sz n:Nat}{ds:List D}:lN sz (n+1) ds=ds.take sz::lN sz n (ds.drop sz):=nr rfl
theorem ap_eq{lns:Nat→Option (TypeId×Nat)}{t:Nat}{tt:TypeId}{x y:V}:appV P lns t tt x y=(match appT P tt,y.list? with
 | some (e,sz),some ys =>
  if ys.all (·.length==sz)then
   match x with
   | .nil=>if cd ys.length=true then some (.own t ys,.app t e ys.length)else none
   | .own j es=>match lns j with
    | some (e',n)=>if e'=e∧n=es.length∧cd (es.length+ys.length)=true then some (.own j (es++ys),.app j e (es.length+ys.length))else none
    | none=>none
   | .full es=>if 0<ys.length∧cd (es.length+ys.length)=true∧es.all (·.length==sz)=true then some (.own t (es++ys),.app t e (es.length+ys.length))else if ys.length=0 then some (.full es,.none)else none
   | _=>none
  else none
 | _,_=>none):=nr rfl
theorem re_tmp{t:Tmp}:resOne g fr s (.tmp t)=some (fr.getD t .undef):=nr rfl
theorem re_cell{a:Tmp}{ty:TypeId}:resOne g fr s (.cell a ty)=(match fr.getD a .undef with | .ptr k off=>(match s.obs[k]? with | some cs=>jv P ty cs off | none=>none) | _=>none):=nr rfl
theorem ra_nil:qi g fr s []=some []:=nr rfl
theorem ra_cons{r:ResultVar}{rs:List ResultVar}:qi g fr s (r::rs)=(match resOne g fr s r,qi g fr s rs with | some x,some xs=>some (x::xs) | _,_=>none):=nr rfl
theorem rv_eq{rs:List ResultVar}:resV g rs fr s=(match qi g fr s rs with
 | some [x]=>some x
 | some xs=>some (.tuple xs)
 | none=>none):=nr rfl
theorem rq_ret{rs:List ResultVar}{R:V→Sg→Prop}:retQ g rs R .ret fr s=(match resV g rs fr s with | some y=>R y s | none=>False):=nr rfl
theorem rq_nor{rs:List ResultVar}{R:V→Sg→Prop}:retQ g rs R .normal fr s=(match resV g rs fr s with | some y=>R y s | none=>False):=nr rfl
theorem kS_eq{R:V→Sg→Prop}{fid:FuncId}{xs:List V}:kS g s R fid xs=bf g fid xs s R:=nr rfl
theorem kD_eq{R:V→Prop}{fid:FuncId}{xs:List V}:kD g R fid xs=callD g fid (xs.map V.cleanF) R:=nr rfl
theorem cl_d{x:D}:V.clean (.d x)=.d x:=nr rfl
theorem cl_own{t:Nat}{es:List (List D)}:V.clean (.own t es)=.d (.list es):=nr rfl
theorem cl_full{es:List (List D)}:V.clean (.full es)=.d (.list es):=nr rfl
theorem cl_nil:V.clean .nil=.d (.list []):=nr rfl
theorem cl_agg{cs:List V}:V.clean (.agg cs)=.agg (V.cleans cs):=by grind[V.clean]
theorem cl_tuple{cs:List V}:V.clean (.tuple cs)=.tuple (V.cleans cs):=by grind[V.clean]
theorem cl_fn{f:FuncId}{cs:List V}:V.clean (.fn f cs)=.fn f (V.cleans cs):=by grind[V.clean]
theorem cl_undef:V.clean .undef=.undef:=nr rfl
theorem cl_ptr{k off:Nat}:V.clean (.ptr k off)=.undef:=nr rfl
theorem cl_mp{k:Nat}:V.clean (.mp k)=.undef:=nr rfl
theorem cl_adr{k:Nat}:V.clean (.adr k)=.undef:=nr rfl
theorem cl_iptr{cs:List D}{off:Nat}:V.clean (.iptr cs off)=.iptr cs off:=nr rfl
theorem cs_nil:V.cleans []=[]:=nr rfl
theorem cs_cons{x:V}{xs:List V}:V.cleans (x::xs)=V.clean x::V.cleans xs:=by grind[V.cleans]
theorem cf_d{x:D}:V.cleanF (.d x)=.d x:=nr rfl
theorem cf_own{t:Nat}{es:List (List D)}:V.cleanF (.own t es)=.d (.list es):=nr rfl
theorem cf_full{es:List (List D)}:V.cleanF (.full es)=.full es:=nr rfl
theorem cf_nil:V.cleanF .nil=.d (.list []):=nr rfl
theorem cf_agg{cs:List V}:V.cleanF (.agg cs)=.agg (V.cleansF cs):=by grind[V.cleanF]
theorem cf_tuple{cs:List V}:V.cleanF (.tuple cs)=.tuple (V.cleansF cs):=by grind[V.cleanF]
theorem cf_fn{f:FuncId}{cs:List V}:V.cleanF (.fn f cs)=.fn f (V.cleansF cs):=by grind[V.cleanF]
theorem cf_undef:V.cleanF .undef=.undef:=nr rfl
theorem cf_ptr{k off:Nat}:V.cleanF (.ptr k off)=.undef:=nr rfl
theorem cf_mp{k:Nat}:V.cleanF (.mp k)=.undef:=nr rfl
theorem cf_adr{k:Nat}:V.cleanF (.adr k)=.undef:=nr rfl
theorem cf_iptr{cs:List D}{off:Nat}:V.cleanF (.iptr cs off)=.iptr cs off:=nr rfl
theorem cg_nil:V.cleansF []=[]:=nr rfl
theorem cg_cons{x:V}{xs:List V}:V.cleansF (x::xs)=V.cleanF x::V.cleansF xs:=by grind[V.cleansF]
theorem oget{α:Type}{d:α}{l:List α}{n:Nat}{x:α}:(x::l).getD (n+1) d=l.getD n d:=nr rfl
theorem oget0{α:Type}{d:α}{l:List α}{x:α}:(x::l).getD 0 d=x:=nr rfl
theorem ge0{α:Type}{l:List α}{x:α}:(x::l)[0]? = some x:=nr rfl
theorem geS{α:Type}{l:List α}{n:Nat}{x:α}:(x::l)[n+1]? = l[n]?:=nr (by simp)
theorem set0{α:Type}{l:List α}{x y:α}:(x::l).set 0 y=y::l:=nr rfl
theorem setS{α:Type}{l:List α}{n:Nat}{x y:α}:(x::l).set (n+1) y=x::l.set n y:=nr rfl
theorem tkS{α:Type}{l:List α}{n:Nat}{x:α}:(x::l).take (n+1)=x::l.take n:=nr rfl
theorem tk0{α:Type}{l:List α}:l.take 0=[]:=nr (by simp)
theorem tkN{α:Type}{n:Nat}:([]:List α).take n=[]:=nr (by simp)
theorem dpS{α:Type}{l:List α}{n:Nat}{x:α}:(x::l).drop (n+1)=l.drop n:=nr rfl
theorem dp0{α:Type}{l:List α}:l.drop 0=l:=nr rfl
theorem dpN{α:Type}{n:Nat}:([]:List α).drop n=[]:=nr (by simp)
theorem gm{α β:Type}{f:α→β}{l:List α}{n:Nat}:(l.map f)[n]? = (l[n]?).map f:=by simp
theorem lm{α β:Type}{f:α→β}{l:List α}:(l.map f).length=l.length:=by simp
theorem ta{α:Type}{l:List α}:(l.toArray).toList=l:=nr rfl
theorem ta2{α:Type}{l:List α}:(Array.mk l).toList=l:=nr rfl
theorem dm{α β:Type}{f:α→β}{l:List α}{n:Nat}:(l.map f).drop n=(l.drop n).map f:=by simp
theorem tm{α β:Type}{f:α→β}{l:List α}{n:Nat}:(l.map f).take n=(l.take n).map f:=by simp
theorem xNA{α:Type}{l:List α}:[]++l=l:=nr rfl
theorem xCA{α:Type}{x:α}{l r:List α}:(x::l)++r=x::(l++r):=nr rfl
theorem xAN{α:Type}{l:List α}:l++[]=l:=by simp
theorem xMC{α β:Type}{f:α→β}{x:α}{l:List α}:(x::l).map f=f x::l.map f:=nr rfl
theorem xMN{α β:Type}{f:α→β}:([]:List α).map f=[]:=nr rfl
theorem xMA{α β:Type}{f:α→β}{l r:List α}:(l++r).map f=l.map f++r.map f:=by simp
theorem xLC{α:Type}{x:α}{l:List α}:(x::l).length=l.length+1:=nr rfl
theorem xLN{α:Type}:([]:List α).length=0:=nr rfl
theorem xLA{α:Type}{l r:List α}:(l++r).length=l.length+r.length:=by simp
theorem xAC{α:Type}{f:α→Bool}{x:α}{l:List α}:(x::l).all f=(f x&&l.all f):=nr rfl
theorem xAL{α:Type}{f:α→Bool}:([]:List α).all f=true:=nr rfl
theorem xOS{α β:Type}{f:α→β}{x:α}:(some x).map f=some (f x):=nr rfl
theorem xON{α β:Type}{f:α→β}:(none:Option α).map f=none:=nr rfl
theorem xBS{α β:Type}{f:α→Option β}{x:α}:(some x).bind f=f x:=nr rfl
theorem xIS{α:Type}{x:α}:(some x).isSome=true:=nr rfl
theorem sq_n{K:Fr→Sg→Prop}{Q:SQ}:seqQ K Q .normal fr s=K fr s:=nr rfl
theorem sq_r{K:Fr→Sg→Prop}{Q:SQ}:seqQ K Q .ret fr s=Q .ret fr s:=nr rfl
theorem sq_e{K:Fr→Sg→Prop}{Q:SQ}{j:Nat}:seqQ K Q (.exit j) fr s=Q (.exit j) fr s:=nr rfl
theorem bq_n{id:Nat}{Q:SQ}:blockQ id Q .normal fr s=Q .normal fr s:=nr rfl
theorem bq_r{id:Nat}{Q:SQ}:blockQ id Q .ret fr s=Q .ret fr s:=nr rfl
theorem bq_e{id j:Nat}{Q:SQ}:blockQ id Q (.exit j) fr s=if j=id then Q .normal fr s else Q (.exit j) fr s:=nr rfl
theorem kq_n{ε:Type}{y:Code}{Φ:ε→SQ}{e:ε}:kQ g y Φ e .normal fr s=SWs g y (Φ e) fr s:=nr rfl
theorem kq_r{ε:Type}{y:Code}{Φ:ε→SQ}{e:ε}:kQ g y Φ e .ret fr s=Φ e .ret fr s:=nr rfl
theorem kq_e{ε:Type}{y:Code}{Φ:ε→SQ}{e:ε}{j:Nat}:kQ g y Φ e (.exit j) fr s=Φ e (.exit j) fr s:=nr rfl
theorem bb_n{ε:Type}{id:Nat}{Φ:ε→SQ}{e:ε}:bQ id Φ e .normal fr s=Φ e .normal fr s:=nr rfl
theorem bb_r{ε:Type}{id:Nat}{Φ:ε→SQ}{e:ε}:bQ id Φ e .ret fr s=Φ e .ret fr s:=nr rfl
theorem bb_e{ε:Type}{id j:Nat}{Φ:ε→SQ}{e:ε}:bQ id Φ e (.exit j) fr s=if j=id then Φ e .normal fr s else Φ e (.exit j) fr s:=nr rfl
theorem tb1:(true==true)=true:=nr rfl
theorem tb2:(true==false)=false:=nr rfl
theorem tb3:(false==true)=false:=nr rfl
theorem tb4:(false==false)=true:=nr rfl
theorem sb1:(some false=some true)=False:=by simp
theorem sb2:(some true=some false)=False:=by simp
theorem nq_r{ε:Type}{c:Code}{n:Nat}{Φ:ε→SQ}{e:ε}:nQ g c n Φ e .ret fr s=Φ e .ret fr s:=nr rfl
theorem nq_e{ε:Type}{c:Code}{n j:Nat}{Φ:ε→SQ}{e:ε}:nQ g c n Φ e (.exit j) fr s=Φ e (.exit j) fr s:=nr rfl
theorem dq_r{ε:Type}{Φ:ε→SQ}{e:ε}:DQ Φ e .ret fr s=Φ e .ret fr s:=nr rfl
theorem dq_e{ε:Type}{j:Nat}{Φ:ε→SQ}{e:ε}:DQ Φ e (.exit j) fr s=Φ e (.exit j) fr s:=nr rfl
theorem dT(h:Decidable True):@decide True h=true:=by simp
theorem dF(h:Decidable False):@decide False h=false:=by simp
theorem tn1:(!true)=false:=nr rfl
theorem tn2:(!false)=true:=nr rfl
theorem jq_r{ε ν:Type}{F:ν→Fr}{S:ν→Sg}{Φ:ε→SQ}{e:ε}:JQ F S Φ (.ret e)=seqQ (λ_ _=>False) (Φ e):=nr rfl
theorem jq_g{ε ν:Type}{F:ν→Fr}{S:ν→Sg}{Φ:ε→SQ}{v:ν}{x:Exit}:JQ F S Φ (.go v) x fr s=(x=.normal∧leL fr (F v)∧leS s (S v)):=nr rfl
theorem jo_g{ν:Type}{F:ν→Fr}{S:ν→Sg}{v:ν}{x:Exit}:JO F S v x fr s=(x=.normal∧leL fr (F v)∧leS s (S v)):=nr rfl
theorem fn_q{rs:List ResultVar}{ρ:Type}{en:ρ→V}{r:ρ}:fnQ g rs en r .ret fr s=(match resV g rs fr s with | some y=>y.clean=en r | none=>False):=nr rfl
theorem fn_n{rs:List ResultVar}{ρ:Type}{en:ρ→V}{r:ρ}:fnQ g rs en r .normal fr s=(match resV g rs fr s with | some y=>y.clean=en r | none=>False):=nr rfl
theorem ff_q{rs:List ResultVar}{ρ:Type}{en:ρ→V}{r:ρ}:fnF g rs en r .ret fr s=(match resV g rs fr s with | some y=>y.cleanF=en r | none=>False):=nr rfl
theorem ff_n{rs:List ResultVar}{ρ:Type}{en:ρ→V}{r:ρ}:fnF g rs en r .normal fr s=(match resV g rs fr s with | some y=>y.cleanF=en r | none=>False):=nr rfl
theorem in_q{ν:Type}{rs:List ResultVar}{Y:ν→V}{S:ν→Sg}{v:ν}:inQ g rs Y S v .ret fr s=(match resV g rs fr s with | some y=>V.le y (Y v)∧leS s (S v) | none=>False):=nr rfl
theorem in_n{ν:Type}{rs:List ResultVar}{Y:ν→V}{S:ν→Sg}{v:ν}:inQ g rs Y S v .normal fr s=(match resV g rs fr s with | some y=>V.le y (Y v)∧leS s (S v) | none=>False):=nr rfl
theorem le_n:leL [] []=True:=nr rfl
theorem le_c{x y:V}{xs ys:List V}:leL (x::xs) (y::ys)=(V.le x y∧leL xs ys):=nr rfl
theorem lo_n{xs:List (List V)}:leO xs []=True:=by cases xs<;>rfl
theorem lo_c{x y:List V}{xs ys:List (List V)}:leO (x::xs) (y::ys)=(leL x y∧leO xs ys):=nr rfl
theorem ls_e{a b:List (List V)}{c d:List (TypeId×Nat)}:leS ⟨a,c⟩ ⟨b,d⟩=(leO a b∧d=c.take d.length):=nr rfl
theorem v_r{x:V}:V.le x x=True:=eq_true (.refl x)
theorem v_u1{x:D}:V.le (.d x) .undef=True:=eq_true (.undef _ rfl)
theorem v_u2{x:List V}:V.le (.agg x) .undef=True:=eq_true (.undef _ rfl)
theorem v_u3{x:List V}:V.le (.tuple x) .undef=True:=eq_true (.undef _ rfl)
theorem v_u4{k off:Nat}:V.le (.ptr k off) .undef=True:=eq_true (.undef _ rfl)
theorem v_u5{x:List D}{off:Nat}:V.le (.iptr x off) .undef=True:=eq_true (.undef _ rfl)
theorem v_u6{t:Nat}{es:List (List D)}:V.le (.own t es) .undef=True:=eq_true (.undef _ rfl)
theorem v_u7{es:List (List D)}:V.le (.full es) .undef=True:=eq_true (.undef _ rfl)
theorem v_u8:V.le .nil .undef=True:=eq_true (.undef _ rfl)
theorem v_u9:V.le .skip .undef=True:=eq_true (.undef _ rfl)
theorem v_ua{a b c d:Nat}:V.le (.sl a b c d) .undef=True:=eq_true (.undef _ rfl)
theorem v_ub{f:FuncId}{cs:List V}:V.le (.fn f cs) .undef=True:=eq_true (.undef _ rfl)
theorem v_uc{k:Nat}:V.le (.mp k) .undef=True:=eq_true (.undef _ rfl)
theorem v_ud{k n:Nat}:V.le (.gr k n) .undef=True:=eq_true (.undef _ rfl)
theorem v_ue{k n i off:Nat}:V.le (.gp k n i off) .undef=True:=eq_true (.undef _ rfl)
theorem xa_own{t j:Nat}{es:List (List D)}{y:V}:extA P [t,t] [.own j es,y]=none:=nr rfl
theorem xa_nil{t:Nat}{y:V}:extA P [t,t] [.nil,y]=none:=nr rfl
theorem xa_gr{t k n:Nat}{y:V}:extA P [t,t] [.gr k n,y]=none:=nr rfl
theorem xa_d{t:Nat}{x:D}{y:V}:extA P [t,t] [.d x,y]=none:=nr rfl
theorem xa_ff{t:Nat}{es ys:List (List D)}:extA P [t,t] [.full es,.full ys]=none:=nr (by grind[extA])
theorem xa_c{t:Nat}{e:List D}{es:List (List D)}{y:V}:extA P [t,t] [.full (e::es),y]=none:=nr (by cases y<;>rfl)
theorem xa_f{t:Nat}{x:D}:extA P [t,t] [.full [],.d x]=(match appT P t,V.list? (.d x)with | some (_,sz),some ys=>if ys.all (·.length==sz)=true∧cd ys.length=true then some (.d (.list ys))else none | _,_=>none):=nr (by show (if t=t then _ else none)=_;grind)
theorem xa_o{t j:Nat}{es:List (List D)}:extA P [t,t] [.full [],.own j es]=(match appT P t,V.list? (.own j es)with | some (_,sz),some ys=>if ys.all (·.length==sz)=true∧cd ys.length=true then some (.d (.list ys))else none | _,_=>none):=nr (by show (if t=t then _ else none)=_;grind)
theorem xa_l{t:Nat}:extA P [t,t] [.full [],.nil]=(match appT P t,V.list? .nil with | some (_,sz),some ys=>if ys.all (·.length==sz)=true∧cd ys.length=true then some (.d (.list ys))else none | _,_=>none):=nr (by show (if t=t then _ else none)=_;grind)
theorem v_uf{k:Nat}:V.le (.adr k) .undef=True:=eq_true (.undef _ rfl)
theorem v_ug{k n i off:Nat}:V.le (.gs k n i off) .undef=True:=eq_true (.undef _ rfl)
theorem v_gs{k l n m a b c d:Nat}:V.le (.gs k n a b) (.gs l m c d)=(k=l∧n=m∧a=c∧b=d):=propext ⟨λh=>by cases h;omega,λh=>by obtain⟨rfl,rfl,rfl,rfl⟩:=h;exact .refl _⟩
theorem v_rr{i j:TypeId}{v u:Nat}{a b:List (List D)}:V.le (.rowc i v a) (.rowc j u b)=(i=j∧v=u∧a=b):=propext ⟨λh=>by cases h;simp_all,λh=>by rw[h.1,h.2.1,h.2.2];exact .refl _⟩
theorem v_gg{k l n m:Nat}:V.le (.gr k n) (.gr l m)=(k=l∧n=m):=propext ⟨λh=>by cases h;omega,λh=>by rw[h.1,h.2];exact .refl _⟩
theorem v_mm{i j:IntKind}{a b:List (Int×D)}:V.le (.mapc i a) (.mapc j b)=(i=j∧a=b):=propext ⟨λh=>by cases h;simp_all,λh=>by rw[h.1,h.2];exact .refl _⟩
theorem v_nl{es:List (List D)}:V.le .nil (.d (.list es))=(es=[]):=propext ⟨λh=>by cases h;rfl,λh=>h▸.nil⟩
theorem v_ol{t:Nat}{es fs:List (List D)}:V.le (.own t es) (.d (.list fs))=(es=fs):=propext ⟨λh=>by cases h;rfl,λh=>h▸.own t es⟩
theorem v_fl{es fs:List (List D)}:V.le (.full es) (.d (.list fs))=(es=fs):=propext ⟨λh=>by cases h;rfl,λh=>h▸.full es⟩
theorem v_dd{x y:D}:V.le (.d x) (.d y)=(x=y):=propext ⟨λh=>by cases h;rfl,λh=>h▸.refl _⟩
theorem v_oo{t u:Nat}{es fs:List (List D)}:V.le (.own t es) (.own u fs)=(t=u∧es=fs):=propext ⟨λh=>by cases h;simp_all,λh=>by rw[h.1,h.2];exact .refl _⟩
theorem v_ff{es fs:List (List D)}:V.le (.full es) (.full fs)=(es=fs):=propext ⟨λh=>by cases h;rfl,λh=>h▸.refl _⟩
theorem leL_of_at:∀{cs ds:List V},cs.length=ds.length→(∀(i:Nat) (x y:V),cs[i]? = some x→ds[i]? = some y→V.le x y)→leL cs ds
 | [],[],_,_=>trivial
 | [],_::_,h,_=>by simp at h
 | _::_,[],h,_=>by simp at h
 | c::cs,d::ds,hl,h=>⟨h 0 c d rfl rfl,leL_of_at (by simp_all) λi x y a b=>h (i+1) x y (by simpa using a) (by simpa using b)⟩
theorem v_aa{cs ds:List V}:V.le (.agg cs) (.agg ds)=leL cs ds:=propext ⟨λh=>by
  cases h<;>grind[leL_refl,leL_of_at],λh=>.agg cs ds (qF h) λi x y a b=>leL_at h a b⟩
theorem v_tt{cs ds:List V}:V.le (.tuple cs) (.tuple ds)=leL cs ds:=propext ⟨λh=>by
  cases h<;>grind[leL_refl,leL_of_at],λh=>.tuple cs ds (qF h) λi x y a b=>leL_at h a b⟩
end
def SR:=zA @bx_t<|zA @bx_i<|zA @bx_b<|zA @bx_s<|zA @bx_l<|zA @bx_a<|zA @dT<|zA @dF<|zA @tn1<|zA @tn2<|zA @kq_n<|zA @bb_n<|zA @tb1<|zA @tb2<|zA @tb3<|zA @tb4<|zA @sb1<|zA @sb2<|zA @r_move<|zA @r_assign<|zA @r_pick<|zA @r_build<|zA @r_nilCheck<|zA @r_binOp<|zA @r_unOp<|zA @r_convert<|zA @r_makeFunc<|zA @r_slice<|zA @r_fieldAddr<|zA @r_field<|zA @r_indexAddr<|zA @r_index<|zA @r_extract<|zA @r_alloc<|zA @r_box<|zA @r_load<|zA @r_store<|zA @r_buildSlice<|zA @r_append<|zA @r_len<|zA @r_max<|zA @r_min<|zA @r_call<|zA @r_callD<|zA @r_guard<|zA @w_guard<|zA @regS_nil<|zA @e_tmp<|zA @e_const<|zA @e_global<|zA @e_func<|zA @l_int<|zA @l_bool<|zA @l_str<|zA @l_strT<|zA @lc_strT<|zA @l_aggT<|zA @l_nil<|zA @l_agg<|zA @lc_int<|zA @lc_bool<|zA @lc_str<|zA @lc_nil<|zA @p_some<|zA @p_none<|zA @optK_some<|zA @optK_none<|zA @contV_eq<|zA @contE_eq<|zA @callF_fn<|zA @sg_none<|zA @sg_alloc<|zA @sg_store<|zA @sg_app<|zA @pick_t<|zA @pick_f<|zA @nil_ptr<|zA @nil_iptr<|zA @contK_eq<|zA @contD_eq<|zA @kS_eq<|zA @kD_eq<|zA @oget<|zA @oget0<|zA @ge0<|zA @geS<|zA @set0<|zA @setS<|zA @ta<|@ta2
def SV:=zA @sl_mx<|zA @ga_eq<|zA @xa_own<|zA @xa_nil<|zA @xa_gr<|zA @xa_d<|zA @xa_c<|zA @xa_f<|zA @xa_ff<|zA @xa_o<|zA @xa_l<|zA @c_mp<|zA @on_mp<|zA @c_gr<|zA @on_gr<|zA @on_adr<|zA @c_agg<|zA @c_d<|zA @c_ptr<|zA @c_iptr<|zA @c_own<|zA @c_full<|zA @c_nil<|zA @c_fn<|zA @c_sl<|zA @al_agg<|zA @al_d<|zA @al_nil<|zA @al_own<|zA @al_full<|zA @al_fn<|zA @al_ptr<|zA @ld_ptr<|zA @ld_iptr<|zA @ld_glob<|zA @st_ptr<|zA @mo<|zA @iS<|zA @fR<|zA @on_d<|zA @on_ptr<|zA @on_iptr<|zA @on_own<|zA @on_full<|zA @on_nil<|zA @on_fn<|zA @on_sl<|zA @sp_eq<|zA @fa_eq<|zA @fd_eq<|zA @ex_eq<|zA @un_neg<|zA @un_not<|zA @in1<|zA @in2<|zA @bw_d<|zA @bw_a<|zA @bw_ne<|zA @bw_nn<|zA @cw_str<|zA @cw_int<|zA @cw_by<|zA @cw_ru<|zA @by_df<|zA @st_df<|zA @sc_df<|zA @mm_c<|zA @mf_n<|zA @mf_c<|zA @nb_nil<|zA @nb_oth<|zA @nb_con<|zA @nb_own<|zA @nb_ful<|zA @li_oth<|zA @cv_int<|zA @cv_str<|zA @cb_t<|zA @b_add<|zA @b_sub<|zA @b_mul<|zA @b_quo<|zA @b_rem<|zA @b_eql<|zA @b_neq<|zA @b_lss<|zA @b_leq<|zA @b_gtr<|zA @b_geq<|zA @b_and<|zA @b_or<|zA @b_xor<|zA @b_shr<|zA @b_shl<|zA @b_seql<|zA @b_sneq<|zA @b_sadd<|zA @b_slss<|zA @b_beql<|zA @b_bneq<|zA @b_aeql<|zA @b_aneq<|zA @ae_t<|zA @ae_f<|zA @da_nil<|zA @da_cons<|zA @da_cnil<|zA @da_cown<|zA @da_cfull<|zA @da_cptr<|zA @dk_int<|zA @dk_bool<|zA @dk_str<|zA @ea_nil<|zA @ea_cons<|zA @ed_int<|zA @ed_bool<|zA @ed_str<|zA @li_list<|zA @li_own<|zA @li_full<|zA @li_nil<|zA @ln_eq<|zA @ia_eq<|zA @ix_agg<|zA @ix_str<|zA @bd_none<|zA @bd_some<|zA @sl_eq<|zA @bl_eq<|zA @fv_nil<|zA @fv_cons<|zA @rw_eq<|zA @rp_z<|zA @rp_s<|zA @ch_z<|zA @ch_s<|zA @ap_eq<|zA @tkS<|zA @tk0<|zA @tkN<|zA @dpS<|zA @dp0<|zA @dpN<|zA @gm<|zA @lm<|zA @xNA<|zA @xCA<|zA @xAN<|zA @xMC<|zA @xMN<|zA @xLC<|zA @xLN<|zA @xAC<|zA @xAL<|zA @Bool.and_true<|zA @Bool.true_and<|zA @xOS<|zA @xON<|zA @xBS<|zA @xIS<|zA @Nat.zero_add<|zA @and_self<|zA @true_and<|zA @and_true<|zA @false_and<|@and_false
def SL:=zA @ff_q<|zA @ff_n<|zA @cf_d<|zA @cf_own<|zA @cf_full<|zA @cf_nil<|zA @cf_agg<|zA @cf_tuple<|zA @cf_fn<|zA @cf_undef<|zA @cf_ptr<|zA @cf_mp<|zA @cf_adr<|zA @cf_iptr<|zA @cg_nil<|zA @cg_cons<|zA @set0<|zA @setS<|zA @fn_q<|zA @fn_n<|zA @in_q<|zA @in_n<|zA @v_tt<|zA @nq_r<|zA @nq_e<|zA @dq_r<|zA @dq_e<|zA @kq_n<|zA @kq_r<|zA @kq_e<|zA @bb_n<|zA @bb_r<|zA @bb_e<|zA @sq_n<|zA @sq_r<|zA @sq_e<|zA @bq_n<|zA @bq_r<|zA @bq_e<|zA @jq_r<|zA @jq_g<|zA @jo_g<|zA @le_n<|zA @le_c<|zA @lo_n<|zA @lo_c<|zA @ls_e<|zA @v_r<|zA @v_u1<|zA @v_u2<|zA @v_u3<|zA @v_u4<|zA @v_u5<|zA @v_u6<|zA @v_u7<|zA @v_u8<|zA @v_u9<|zA @v_ua<|zA @v_ub<|zA @v_uc<|zA @v_ud<|zA @v_ue<|zA @v_uf<|zA @v_ug<|zA @v_gs<|zA @v_rr<|zA @v_gg<|zA @v_mm<|zA @v_nl<|zA @v_ol<|zA @v_fl<|zA @v_dd<|zA @v_oo<|zA @v_ff<|zA @v_aa<|zA @re_tmp<|zA @re_cell<|zA @ra_nil<|zA @ra_cons<|zA @rv_eq<|zA @rq_ret<|zA @rq_nor<|zA @cl_d<|zA @cl_own<|zA @cl_full<|zA @cl_nil<|zA @cl_agg<|zA @cl_tuple<|zA @cl_fn<|zA @cl_undef<|zA @cl_ptr<|zA @cl_mp<|zA @cl_adr<|zA @cl_iptr<|zA @cs_nil<|zA @cs_cons<|zA @oget<|zA @oget0<|zA @ge0<|zA @geS<|zA @tkS<|zA @tk0<|zA @tkN<|zA @dpS<|zA @dp0<|zA @mo<|zA @xMC<|zA @xMN<|zA @xMA<|zA @xLA<|zA @xLC<|zA @xLN<|zA @lm<|zA @xNA<|zA @xCA<|zA @xAN<|@ta2
def eInt(k:IntKind)(n:Int):List D:=[.int k n]
def eBool(b:Bool):List D:=[.bool b]
def eStr(s:List UInt8):List D:=[.str s]
def eList{α:Type}(f:α→List D)(l:List α):List D:=[.list (zB f l)]
theorem al_eInt{k:IntKind}{l:List Int}:(zB (eInt k) l).all (λx=>x.length==1)=true:=by simp_all[eInt]
theorem al_eStr{l:List (List UInt8)}:(zB eStr l).all (λx=>x.length==1)=true:=by simp_all[eStr]
def okStr(a b:List UInt8):Bool:=decide (a.length+b.length≤9223372036854775807)
theorem okStr_ok{a b:List UInt8}(h:okStr a b=true):(a.length+b.length≤9223372036854775807)=True:=eq_true (ra h)
def oe(s:List UInt8):List Int:=s.map λb=>(b.toNat:Int)
theorem bytes_enc{s:List UInt8}:(s.map λb=>[D.int .u8 (b.toNat:Int)])=zB (eInt .u8) (oe s):=by simp_all[oe,eInt]
def runeS(n:Int):List UInt8:=(Utf8.encode n).data.toList
theorem rune_enc{n:Int}:(Utf8.encode n).data.toList=runeS n:=rfl
variable {g:Pg P}
theorem Spec.nilcase{f:FuncId}{r:V}(h:∀A c,Spec g f [.d (.other (.slice A 0 c))] r):Spec g f [.d (.list [])] r:=by
 refine⟨(h none 0).1,λw F vs hF hgl hr=>?_⟩
 cases vs with
 | nil=>have:=hr.1;simp at this
 | cons v us =>
  have hl:us=[]:=by have:=hr.1;simp_all
  subst hl
  obtain⟨h1,_⟩:=aV hr
  cases h1 with
  | d q =>
   generalize hd:D.list []=D0 at q
   cases q with
   | nil A c=>exact (h A c).2 w F _ hF hgl (dM (.d (.other _ rfl)) (i6 _))
   | list es b off c sz u hne=>simp_all
   | _=>cases hd
theorem b9(h:(a==b)=false):a≠b:=by simpa using h
theorem ne_of(h:(!(b==0))=true):(b=0)=False:=by simp_all
section
variable {P : Program} {g : Pg P} {fr : Fr} {s : Sg} {ε : Type} {Φ : ε → SQ} {m : Option ε}
theorem Mir.regionW{id:Nat}{ops:Array Oper}(h:∀e,m=some e→regW g ops ops.toList fr s (Φ e .normal)):Mir g (.region id ops false) fr s m Φ:=λe he=>SWs.regionW (h e he)
theorem w_none{ops:Array Oper}{d:Option Tmp}{op:Op}{ty:TypeId}{p:String}{af:Array Edge}:bo ops fr ⟨d,op,ty,p,af,none⟩=some true:=nr rfl
theorem w_eq:((some true:Option Bool)=some true)=True:=eq_true rfl
end
def mget{β:Type}:List (Int×β)→Int→Option β
 | [],_=>none
 | (k,v)::r,n=>if n==k then some v else mget r n
def mput{β:Type}:List (Int×β)→Int→β→List (Int×β)
 | [],n,v=>[(n,v)]
 | (k,u)::r,n,v=>if n==k then (k,v)::r else (k,u)::mput r n v
def ekv{β:Type}(ev:β→D)(p:Int×β):Int×D:=(p.1,ev p.2)
def evB(b:Bool):D:=.bool b
def evI(k:IntKind)(n:Int):D:=.int k n
def evL{β:Type}(en:β→List D)(l:List β):D:=.list (zB en l)
theorem mapGet_kv{β:Type}{ev:β→D}{n:Int}:∀{l:List (Int×β)},n7 (zB (ekv ev) l) n=(mget l n).map ev
 | []=>rfl
 | (k,v)::r=>by
  simp only[List.map_cons,ekv,n7,mget]
  split
  ·rfl
  ·exact mapGet_kv
theorem mapPut_cons{k n:Int}{u v:D}{r:List (Int×D)}:lp ((k,u)::r) n v=if n=k then (k,v)::r else (k,u)::lp r n v:=by simp[lp]
theorem mapPut_kv{β:Type}{ev:β→D}{n:Int}{v:β}:∀{l:List (Int×β)},lp (zB (ekv ev) l) n (ev v)=zB (ekv ev) (mput l n v)
 | []=>rfl
 | (k,u)::r=>by
  have ih:=mapPut_kv (ev:=ev) (n:=n) (v:=v) (l:=r)
  show lp ((k,ev u)::zB (ekv ev) r) n (ev v)=_
  rw[mapPut_cons,ih]
  by_cases h:n=k<;>simp_all[mput,ekv]
theorem mg_B{l:List (Int×Bool)}{n:Int}{z:Bool}:(n7 (zB (ekv evB) l) n).getD (.bool z)=.bool ((mget l n).getD z):=by rw[mapGet_kv];cases mget l n<;>rfl
theorem mp_B{l:List (Int×Bool)}{n:Int}{v:Bool}:lp (zB (ekv evB) l) n (.bool v)=zB (ekv evB) (mput l n v):=mapPut_kv (ev:=evB)
section
variable {P : Program} {g : Pg P} {fr : Fr} {s : Sg} {ε : Type} {Φ : ε → SQ} {m : Option ε}
theorem Mir.frz{c:Code}(k:Nat){ver:Nat}{e:TypeId}{es:List (List D)}(ho:s.obs[k]? = some [.rowc e ver es])(h:Mir g c (fr.map (V.fz k ver es)) ⟨(s.obs.map (V.fzs k ver es)).set k [.rowc e (ver+1) []],s.lns⟩ m Φ):Mir g c fr s m Φ:=λe he=>SWs.frz k ho (h e he)
theorem Mir.regionT{id:Nat}{ops:Array Oper}(n:Nat)(L:List (Tmp×Tmp))(hL:(tailOk ops n,lH ops n,gu (dn ops n),seps (dn ops n))=(true,true,true,L))(h:∀e,m=some e→regS g true ops (ops.toList.take n) fr s (λfr' s'=>sepL L fr'=true∧regW g ops (ops.toList.drop n) fr' s' (Φ e .normal))):Mir g (.region id ops true) fr s m Φ:=λe he=>SWs.regionT n L hL (h e he)
def fnX{P:Program}(g:Pg P)(rs:List ResultVar)(e:TypeId){ρ:Type}(en:ρ→List (List D))(en2:ρ→List V)(r:ρ):SQ:=retQ g rs (λy s'=>XRes s' y e (en r) (en2 r))
theorem specX_mir{f:FuncId}{fn:Func}{c:Code}(hf:P.funcs[f]? = some fn)(hb:fn.body=some c)(he:cm P f=true)(hdr:fg c=true){args:List V}{e:TypeId}{ρ:Type}(en:ρ→List (List D))(en2:ρ→List V){m:Option ρ}{y:ρ}(hes:scalE (en y)=true)(hsz:(en y).all (·.length==P.cellsOf e)=true)(h2:(en2 y).all V.plainR=true)
  (h:Mir g c (args++zD (fn.ntmps-args.length) .undef) ⟨[],[]⟩ m (fnX g fn.results.toList e en en2)) (hy:m=some y):SpecX g f args e (en y) (en2 y):=specX_by hf hb he hdr hes hsz h2 (h y hy)
theorem fx_r{rs:List ResultVar}{e:TypeId}{ρ:Type}{en:ρ→List (List D)}{en2:ρ→List V}{r:ρ}:fnX g rs e en en2 r .ret fr s=(match resV g rs fr s with | some y=>XRes s y e (en r) (en2 r) | none=>False):=nr rfl
theorem fx_n{rs:List ResultVar}{e:TypeId}{ρ:Type}{en:ρ→List (List D)}{en2:ρ→List V}{r:ρ}:fnX g rs e en en2 r .normal fr s=(match resV g rs fr s with | some y=>XRes s y e (en r) (en2 r) | none=>False):=nr rfl
theorem xr_o{t:Nat}{es' es:List (List D)}{ys r2:List V}{e:TypeId}:XRes s (.tuple (.own t es'::ys)) e es r2=(es'=es∧ys=r2∧s.lns[t]? = some (e,es.length)):=nr rfl
theorem xr_n{es:List (List D)}{ys r2:List V}{e:TypeId}:XRes s (.tuple (.nil::ys)) e es r2=(es=[]∧ys=r2):=nr rfl
end
section
variable {P : Program} {g : Pg P} {fr : Fr} {s : Sg}
theorem SpecY.nilcase{f:FuncId}{e:TypeId}{es:List (List D)}(h:∀(A:Option Addr) (c:Nat),SpecY g f [.d (.other (.slice A 0 c))] e es):SpecY g f [.d (.list [])] e es:=by
 refine⟨(h none 0).1,λw F vs hF hgl hr=>?_⟩
 match vs,hr with
 | [v],hr =>
  obtain⟨r,_⟩:=aV hr
  cases r with
  | d q =>
   cases q with
   | nil A c=>exact (h A c).2 w F _ hF hgl (dM (.d (.other _ rfl)) (i6 _))
   | list _ _ _ _ _ _ hne=>simp at hne
 | [],hr=>have:=hr.1;simp at this
 | _::_::_,hr=>have:=hr.1;simp at this
end
variable {ε:Type}
theorem Mir.no{Φ:ε→SQ}{c:Code}:Mir g c fr s (none:Option ε) Φ:=λe h=>by cases h
theorem gsl_of(h:decide (0≤a∧a≤b∧b≤(n:Int))=true):((a<0)=False)∧((b<0)=False)∧a.toNat≤b.toNat∧b.toNat≤n:=by
 grind
theorem and_of{a b:Prop}[Decidable (a∧b)](h:decide (a∧b)=true):a∧b:=ra h
theorem lns_at{e:TypeId}(h:m=n):some (e,m)=some (e,n):=by rw[h]
theorem rowT:True:=trivial
theorem z_d{k v:Nat}{es:List (List D)}{x:D}:V.fz k v es (.d x)=.d x:=nr (by grind[V.fz])
theorem z_u{k v:Nat}{es:List (List D)}:V.fz k v es .undef=.undef:=nr (by grind[V.fz])
theorem z_a{k v:Nat}{es:List (List D)}{x:List V}:V.fz k v es (.agg x)=.agg (V.fzs k v es x):=nr (by rw[V.fz])
theorem z_t{k v:Nat}{es:List (List D)}{x:List V}:V.fz k v es (.tuple x)=.tuple (V.fzs k v es x):=nr (by rw[V.fz])
theorem z_p{k v a b:Nat}{es:List (List D)}:V.fz k v es (.ptr a b)=.ptr a b:=nr (by grind[V.fz])
theorem z_i{k v b:Nat}{es:List (List D)}{x:List D}:V.fz k v es (.iptr x b)=.iptr x b:=nr (by grind[V.fz])
theorem z_o{k v t:Nat}{es x:List (List D)}:V.fz k v es (.own t x)=.own t x:=nr (by grind[V.fz])
theorem z_f{k v:Nat}{es x:List (List D)}:V.fz k v es (.full x)=.full x:=nr (by grind[V.fz])
theorem z_n{k v:Nat}{es:List (List D)}:V.fz k v es .nil=.nil:=nr (by grind[V.fz])
theorem z_s{k v:Nat}{es:List (List D)}:V.fz k v es .skip=.skip:=nr (by grind[V.fz])
theorem z_l{k v a b c d:Nat}{es:List (List D)}:V.fz k v es (.sl a b c d)=.sl a b c d:=nr (by grind[V.fz])
theorem z_F{k v:Nat}{f:FuncId}{es:List (List D)}{x:List V}:V.fz k v es (.fn f x)=.fn f x:=nr (by grind[V.fz])
theorem z_m{k v a:Nat}{es:List (List D)}:V.fz k v es (.mp a)=.mp a:=nr (by grind[V.fz])
theorem z_g{k v j n:Nat}{es:List (List D)}:V.fz k v es (.gr j n)=if j=k∧n=v then .d (.list es)else .gr j n:=nr (by rw[V.fz])
theorem z_q{k v a b c d:Nat}{es:List (List D)}:V.fz k v es (.gp a b c d)=.gp a b c d:=nr (by grind[V.fz])
theorem z_1{k v:Nat}{es:List (List D)}:V.fzs k v es []=[]:=nr (by rw[V.fzs])
theorem z_2{k v:Nat}{es:List (List D)}{x:V}{xs:List V}:V.fzs k v es (x::xs)=V.fz k v es x::V.fzs k v es xs:=nr (by rw[V.fzs])
theorem z_A{k v a:Nat}{es:List (List D)}:V.fz k v es (.adr a)=.adr a:=nr (by grind[V.fz])
theorem z_G{k v a b c d:Nat}{es:List (List D)}:V.fz k v es (.gs a b c d)=if a=k∧b=v then (if c+d≤es.length then .d (.list ((es.drop c).take d))else .undef)else .gs a b c d:=nr (by rw[V.fz])
theorem z_M{k v:Nat}{ik:IntKind}{es:List (List D)}{l:List (Int×D)}:V.fz k v es (.mapc ik l)=.mapc ik l:=nr (by grind[V.fz])
theorem z_R{k v e n:Nat}{es l:List (List D)}:V.fz k v es (.rowc e n l)=.rowc e n l:=nr (by grind[V.fz])
theorem rmap_set{α β:Type}{f:α→β}{l:List α}{i:Nat}{a:α}:(l.set i a).map f=(l.map f).set i (f a):=by simp
theorem fT(h:(i<0)=False):0≤i:=by simpa using h
theorem fU{f:α→β}(h:l[i.toNat]? = some e)(h0:(i<0)=False):i<((l.map f).length:Int):=by
 grind
variable {f:α→List D}
theorem fi{i:Nat}(h:l[i]? = some e):(l.map f)[i]? = some (f e):=by simp[h]
theorem spD{c ds:List D}{off:Nat}:oq c off ds=c.take off++ds++c.drop (off+ds.length):=nr rfl
theorem sc_map(h:∀x,(f x).all D.scal=true)(l:List α):scalE (l.map f)=true:=by
 grind[scalE]
theorem ok2{a b c d:Nat}(h:cd (a+b)=true)(h1:c=a)(h2:d=b):cd (c+d)=true:=by simp_all
def PB:=zA @Bool.true_and<|zA @Bool.false_and<|zA @Bool.true_or<|zA @Bool.false_or<|zA @Bool.or_true<|zA @Bool.or_false<|zA @Bool.and_true<|@Bool.and_false
def SZ:=zA @z_d<|zA @z_u<|zA @z_a<|zA @z_t<|zA @z_p<|zA @z_i<|zA @z_o<|zA @z_f<|zA @z_n<|zA @z_s<|zA @z_l<|zA @z_F<|zA @z_m<|zA @z_g<|zA @z_q<|zA @z_1<|zA @z_2<|zA @z_A<|zA @z_G<|zA @z_M<|zA @z_R<|zA @xMC<|zA @xMN<|zA @set0<|@setS
variable {Φ:ε→SQ}
theorem mU{m:Option ε}{c:Code}(e:ε)(h:Mir g c fr s m Φ)(hm:m=some e):SWs g c (Φ e) fr s:=h e hm
theorem Mir.sR{m:Option ε}{id:Nat}{ops:Array Oper}{k:Code}(h:∀e,m=some e→regS g false ops ops.toList fr s (kQ g k Φ e .normal)):Mir g (.seq (.region id ops false) k) fr s m Φ:=Mir.seqK (Mir.region h)
def us:Nat→List V
 | 0=>[]
 | n+1=>U::us n
theorem us_0:us 0=[]:=nr rfl
theorem us_s{n:Nat}:us (n+1)=U::us n:=nr rfl
theorem zNI:((0:Nat):Int)=0:=nr rfl
theorem oL(n:Nat)(h:Nat.ble n 16777216=true:=by rfl):cd n=true:=h
def SE:=zA @SR<|zA @SV<|zA @us_0<|@us_s
def SF:=zA @SL<|zA @and_self<|zA @and_true<|zA @true_and<|zA @us_0<|@us_s
def SB:=zA @sepL_nil<|zA @sepL_cons<|zA @sepV_ne<|zA @sepV_d<|zA @sepV_i<|@Bool.and_self
end Go.Proofs.YtphbhdoljnokkaaGreatDoor
