/-
  Base, Sab, Sx2, Sef in one text.
-/
import Derived.Test.YtjemmjpdmbenkaaGreatDoorRows
import Derived.WalkKit
import Derived.WalkSpells
import Derived.WalkLawsBesides
import Derived.Deep.QuietTactic
import Derived.BigQuiet
import Derived.Lib.Hide
import Derived.OpenShut
import Derived.Deep.AppendLies
import Derived.Deep.LoopGhost
import Derived.Deep.DeepCutAuto
import Derived.Deep.Light
open Nat renaming lt_or_ge → zA,lt_of_lt_of_le → zD,add_mul → zG,le_refl → zH,mul_le_mul_right → zI,add_assoc → zJ,le_trans → zK
open List renaming eq_nil_of_length_eq_zero → zB,length_append → zE,size_toArray → zF,append_assoc → zM,length_cons → zN,take_left → zP
namespace Go.Proofs.YtjemmjpdmbenkaaGreatDoor
open Go.RowKit
theorem oc.{u}:type_of% @if_neg.{u}:=@if_neg.{u}
theorem od.{u}:type_of% @if_pos.{u}:=@if_pos.{u}
theorem oe.{u}:type_of% @if_false.{u}:=@if_false.{u}
theorem og.{u}:type_of% @if_true.{u}:=@if_true.{u}
theorem oh:type_of% @decide_eq_true:=@decide_eq_true
theorem oi:type_of% @decide_eq_false:=@decide_eq_false
theorem oj:type_of% @of_decide_eq_true:=@of_decide_eq_true
theorem ol:type_of% @of_decide_eq_false:=@of_decide_eq_false
theorem oo:type_of% @decide_eq_true_eq:=@decide_eq_true_eq
def Kp(w w':World):Prop:=Below w.heap.size w w'
theorem Kp.refl(w:World):Kp w w:=Below.refl _ _
variable {w w':World}
theorem Kp.size(h:Kp w w'):w.heap.size≤w'.heap.size:=Below.size h
variable {a:World}
theorem Kp.trans{b c:World}(h:Kp a b)(k:Kp b c):Kp a c:=Below.trans h (Below.mono k h.size)
theorem Kp.alloc(h:Kp a w)(o:Obj):Kp a (w.alloc o):=Below.alloc h h.size o
theorem Kp.drew(h:Kp a w):Kp a w.drew:=Below.drew h
theorem Kp.drewN(h:Kp a w)(n:Nat):Kp a (w.drewN n):=by
 have hb:Below a.heap.size a w:=h
 exact (⟨hb.os,hb.tape,hb.output,hb.size,hb.block⟩:Below a.heap.size a (w.drewN n))
theorem Kp.below(h:Kp a w):Below a.heap.size a w:=h
theorem Kp.see{W w1:World}(h:Kp W w1):(∀b o,b<W.heap.size→w1.cell? ⟨b,o,none⟩=W.cell? ⟨b,o,none⟩)∧(∀b o,b<W.heap.size→w1.frozen? ⟨b,o,none⟩=W.frozen? ⟨b,o,none⟩) :=
 ⟨λb o hb=>Below.cell h (p:=⟨b,o,none⟩) hb,λb o hb=>Below.frozen h (p:=⟨b,o,none⟩) hb⟩
variable {row:Option Nat}
theorem Kp.grown(h:Kp a w)(hg:w.grownBy w' row)(hr:∀k,row=some k→a.heap.size≤k):Kp a w':=Below.grown h hg h.size hr
theorem Kp.grows(h:Kp w w')(row:Option Nat):w.grownBy w' row:=⟨Below.os h,Below.tape h,Below.output h,h.size,λi hi _=>Below.block h i hi⟩
variable {base:Nat}{e:TypeId}{n size:Nat}{v:Value}{xs:List Value}
theorem own_kp(h:w.ownsRow base e size v n xs)(hk:Kp w w'):w'.ownsRow base e size v n xs:=by
 cases hv:v.ownBlock with
 | none=>exact h.kept (hk.grows none) (.inl hv)
 | some g=>exact h.kept (hk.grows none) (.inr (by rw[hv];simp))
theorem Kp.own(h:Kp a w)(ho:w.ownsRow base e size v n xs)(hg:w.grownBy w' v.ownBlock)(hb:a.heap.size≤base):Kp a w' :=
 h.grown hg λk hk=>zK hb (ho.lt k hk).1
theorem fD(h:w.ownsRow base e size v n xs):∃A c,v=.slice A n c:=by
 rcases h.2 with⟨rfl,rfl⟩|⟨g,cap,cur,rfl,_⟩
 ·exact⟨_,_,rfl⟩
 ·exact⟨_,_,rfl⟩
theorem own_mono{base':Nat}(h:w.ownsRow base e size v n xs)(hb:base'≤base):w.ownsRow base' e size v n xs:=by
 rcases h.2 with h2 | ⟨g,cap,cur,hv,hg,r⟩
 ·exact⟨h.1,.inl h2⟩
 ·exact⟨h.1,.inr ⟨g,cap,cur,hv,zK hb hg,r⟩⟩
inductive D where
 | int (k:IntKind) (n:Int)
 | bool (b:Bool)
 | str (s:List UInt8)
 | list (es:List (List D))
 | other (v:Value)
inductive relD (F:Nat→Nat→Value→Prop):D→Value→Prop
 | int (k:IntKind) (n:Int):relD F (.int k n) (.int k n)
 | bool (b:Bool):relD F (.bool b) (.bool b)
 | str (s:List UInt8):relD F (.str s) (.string ⟨s.toArray⟩)
 | nil (A:Option Addr) (c:Nat):relD F (.list []) (.slice A 0 c)
 | list (es:List (List D)) (b off c sz:Nat) (u:Nat→Nat→Value) (hne:0<es.length) (hcap:es.length≤c) (hsz:∀(i:Nat) (e:List D),es[i]? = some e→e.length=sz)
   (hF:∀(i j:Nat) (e:List D) (x:D),es[i]? = some e→e[j]? = some x→F b (off+i*sz+j) (u i j))
   (hr:∀(i j:Nat) (e:List D) (x:D),es[i]? = some e→e[j]? = some x→relD F x (u i j)):relD F (.list es) (.slice (some ⟨b,off,none⟩) es.length c)
 | other (v:Value) (h1:v.oneCell'=true):relD F (.other v) v
variable {F F':Nat→Nat→Value→Prop}
theorem bx(h:∀b o v,F b o v→F' b o v){x:D}{v:Value}(r:relD F x v):relD F' x v:=by
 induction r with
 | int k n=>exact .int k n
 | bool b=>exact .bool b
 | str s=>exact .str s
 | nil A c=>exact .nil A c
 | list es b off c sz u hne hcap hsz hF _ ih=>exact .list es b off c sz u hne hcap hsz (λi j e x h1 h2=>h _ _ _ (hF i j e x h1 h2)) ih
 | other v h1=>exact .other v h1
def glT:Nat→Option (List D)
 | 0=>some [.list [[.int .i64 0],[.int .i64 1000],[.int .i64 3000],[.int .i64 4000],[.int .i64 5000],[.int .i64 6000],[.int .i64 8000],[.int .i64 9000],[.int .i64 30000]]]
  | _=>none
def tabT:Nat→Option (IntKind×List Int)
 | 6=>some (.u64,[1,10,100,1000,10000,100000,1000000,10000000,100000000,1000000000,10000000000,100000000000,1000000000000,10000000000000,100000000000000,1000000000000000,10000000000000000,100000000000000000,1000000000000000000,10000000000000000000])
  | _=>none
def errT:Nat→Bool
 | _=>false
def Errs(w:World):Prop:=∀b,errT b=true→∃ev,w.cell? ⟨b,0,none⟩=some ev∧(ev=.nilIface∨∃te pe,ev=.iface te pe)
def intT:Nat→Bool
 | _=>false
def Ints(w:World):Prop:=∀b,intT b=true→∃m,w.cell? ⟨b,0,none⟩=some (.int .i64 m)
def mapG:Nat→Option (List (Int×List UInt8))
 | _=>none
def Maps(w:World):Prop:=∀b kvs,mapG b=some kvs→∃bm es clock,w.cell? ⟨b,0,none⟩=some (.map (some bm))∧w.heap[bm]? = some (.map es clock)∧(∀x∈es.toList,x.born<clock)∧(es.toList.map (·.born)).Nodup∧(∀x∈es.toList,∃p∈kvs,x.key=.int .i64 p.1∧x.val=.string ⟨p.2.toArray⟩)∧∀p∈kvs,∃x∈es.toList,x.key=.int .i64 p.1∧x.val=.string ⟨p.2.toArray⟩
def Tabs(w:World):Prop:=(∀b k zs,tabT b=some (k,zs)→∃t f,w.heap[b]? = some (.cells (zs.map λz=>Value.int k z).toArray t f))∧Errs w∧Ints w∧Maps w
def jj(w:World)(F:Nat→Nat→Value→Prop):Prop:=(∀b cs,glT b=some cs→∃u:Nat→Value,∀(j:Nat) (x:D),cs[j]? = some x→F b j (u j)∧relD F x (u j))∧Tabs w
theorem jj.mono(h:jj w F)(hi:∀b o v,F b o v→F' b o v):jj w F':=⟨λb cs hb=>by
 obtain⟨u,hu⟩:=h.1 b cs hb
 exact⟨u,λj x hx=>⟨hi _ _ _ (hu j x hx).1,bx hi (hu j x hx).2⟩⟩,h.2⟩
theorem jj.kp(h:jj w F)(hk:Kp w w'):jj w' F:=⟨h.1,λb k zs hb=>by
 obtain⟨t,f,q⟩:=h.2.1 b k zs hb
 have hlt:b<w.heap.size:=by
  rcases zA b w.heap.size with z | z
  ·exact z
  ·rw[Array.getElem?_eq_none z]at q;cases q
 exact⟨t,f,(hk.below.block b hlt).trans q⟩,λb hb=>by
 obtain⟨ev,q,hv⟩:=h.2.2.1 b hb
 exact⟨ev,(hk.see.1 b 0 (World.block_lt_of_cell? w ⟨b,0,none⟩ q)).trans q,hv⟩,λb hb=>by
 obtain⟨m,q⟩:=h.2.2.2.1 b hb
 exact⟨m,(hk.see.1 b 0 (World.block_lt_of_cell? w ⟨b,0,none⟩ q)).trans q⟩,λb kvs hb=>by
 obtain⟨bm,es,clock,q1,q2,q3⟩:=h.2.2.2.2 b kvs hb
 have hlt:bm<w.heap.size:=by
  rcases zA bm w.heap.size with z | z
  ·exact z
  ·rw[Array.getElem?_eq_none z]at q2;cases q2
 exact⟨bm,es,clock,(hk.see.1 b 0 (World.block_lt_of_cell? w ⟨b,0,none⟩ q1)).trans q1,(hk.below.block bm hlt).trans q2,q3⟩⟩
inductive V where
 | undef
 | d (x:D)
 | agg (cs:List V)
 | tuple (vs:List V)
 | ptr (k off:Nat)
 | iptr (cs:List D) (off:Nat)
 | own (t:Nat) (es:List (List D))
 | full (es:List (List D))
 | nil
 | skip
 | sl (k off len cap:Nat)
 | fn (f:FuncId) (caps:List V)
 | mp (k:Nat)
 | mapc (ik:IntKind) (kvs:List (Int×D))
 | gr (k n:Nat)
 | gp (k n i off:Nat)
 | rowc (e:TypeId) (ver:Nat) (es:List (List D))
 | adr (k:Nat)
 | gs (k n off len:Nat)
structure Lv where
 n:Nat
 sz:Nat
 v:Value
structure Cx where
 base:Nat→Nat→Value→Prop
 F:Nat→Nat→Value→Prop
 ob:Nat→Option Nat
 lv:Nat→Option Lv
 mp:Nat→Option Nat
 rv:Nat→Option Lv
 tg:Nat→Option TypeId
structure Cx.le (G G':Cx):Prop where
 base:G'.base=G.base
 F:∀b o v,G.F b o v→G'.F b o v
 ob:∀k b,G.ob k=some b→G'.ob k=some b
 lv:∀t L,G.lv t=some L→∃L',G'.lv t=some L'∧L'.sz=L.sz∧(L'=L∨L.n<L'.n)
 mp:∀k b,G.mp k=some b→G'.mp k=some b
 rv:∀k L,G.rv k=some L→∃L',G'.rv k=some L'∧L'.sz=L.sz∧(L'=L∨L.n<L'.n)
 tg:∀b t,G.tg b=some t→G'.tg b=some t
theorem Cx.le.refl(G:Cx):G.le G:=⟨rfl,λ_ _ _ h=>h,λ_ _ h=>h,λ_ L h=>⟨L,h,rfl,.inl rfl⟩,λ_ _ h=>h,λ_ L h=>⟨L,h,rfl,.inl rfl⟩,λ_ _ q=>q⟩
theorem Lv_trans{f g h:Nat→Option Lv}(a:∀t L,f t=some L→∃L',g t=some L'∧L'.sz=L.sz∧(L'=L∨L.n<L'.n))(b:∀t L,g t=some L→∃L',h t=some L'∧L'.sz=L.sz∧(L'=L∨L.n<L'.n))(t:Nat)(L:Lv)(q:f t=some L):∃L',h t=some L'∧L'.sz=L.sz∧(L'=L∨L.n<L'.n):=by
 obtain⟨L1,q1,s1,r1⟩:=a t L q
 obtain⟨L2,q2,s2,r2⟩:=b t L1 q1
 refine⟨L2,q2,s2.trans s1,?_⟩
 rcases r1 with rfl | r1
 ·exact r2
 ·rcases r2 with rfl | r2
  ·exact .inr r1
  ·exact .inr (by omega)
theorem Cx.le.trans{A B C:Cx}(h:A.le B)(k:B.le C):A.le C :=
 ⟨k.base.trans h.base,λ_ _ _ q=>k.F _ _ _ (h.F _ _ _ q),λ_ _ q=>k.ob _ _ (h.ob _ _ q),Lv_trans h.lv k.lv,λ_ _ q=>k.mp _ _ (h.mp _ _ q),Lv_trans h.rv k.rv,λ_ _ q=>k.tg _ _ (h.tg _ _ q)⟩
def bT:TypeId :=
 0
inductive rel (G:Cx):V→Value→Prop
 | undef (v:Value):rel G .undef v
 | d {x:D} {v:Value} (h:relD G.F x v):rel G (.d x) v
 | agg (cs:List V) (vs:List Value) (hl:cs.length=vs.length) (h:∀(i:Nat) (x:V) (v:Value),cs[i]? = some x→vs[i]? = some v→rel G x v):rel G (.agg cs) (.agg ⟨vs⟩)
 | tuple (cs:List V) (vs:List Value) (hl:cs.length=vs.length) (h:∀(i:Nat) (x:V) (v:Value),cs[i]? = some x→vs[i]? = some v→rel G x v):rel G (.tuple cs) (.tuple ⟨vs⟩)
 | ptr (k off b:Nat) (h:G.ob k=some b):rel G (.ptr k off) (.pointer (some ⟨b,off,none⟩))
 | iptr (cs:List D) (off b o:Nat) (u:Nat→Value) (hF:∀(j:Nat) (x:D),cs[j]? = some x→G.F b (o+j) (u j)) (hr:∀(j:Nat) (x:D),cs[j]? = some x→relD G.F x (u j)):rel G (.iptr cs off) (.pointer (some ⟨b,o+off,none⟩))
 | own (t:Nat) (es:List (List D)) (v:Value) (h:relD G.F (.list es) v) (L:Lv) (hL:G.lv t=some L) (hsz:∀(i:Nat) (e:List D),es[i]? = some e→e.length=L.sz) (hl:(es.length=L.n∧v=L.v)∨es.length<L.n):rel G (.own t es) v
 | full (es:List (List D)) (A:Option Addr) (h:relD G.F (.list es) (.slice A es.length es.length)):rel G (.full es) (.slice A es.length es.length)
 | nil:rel G .nil (.slice none 0 0)
 | skip:rel G .skip Go.undef
 | sl (k off len cap b:Nat) (h:G.ob k=some b):rel G (.sl k off len cap) (.slice (some ⟨b,off,none⟩) len cap)
 | fn (f:FuncId) (cs:List V) (vs:List Value) (hl:cs.length=vs.length) (h:∀(i:Nat) (x:V) (v:Value),cs[i]? = some x→vs[i]? = some v→rel G x v):rel G (.fn f cs) (.func (.func f) #[] ⟨vs⟩)
 | mp (k b:Nat) (h:G.mp k=some b):rel G (.mp k) (.map (some b))
 | gr (k n:Nat) (v:Value) (h1:v.oneCell'=true) (L:Lv) (hL:G.rv k=some L) (hl:(n=L.n∧v=L.v)∨n<L.n):rel G (.gr k n) v
 | gp (k n i off:Nat) (v:Value) (h1:v.oneCell'=true) (L:Lv) (hL:G.rv k=some L) (hl:(n=L.n∧∃b,L.v.ownBlock=some b∧v=.pointer (some ⟨b,i*L.sz+off,none⟩))∨n<L.n):rel G (.gp k n i off) v
 | adr (k:Nat) (v:Value) (b:Nat) (hb:G.ob k=some b) (ht:G.tg b=some bT) (h:v=.pointer none∨v=.pointer (some ⟨b,0,none⟩)):rel G (.adr k) v
 | gs (k n off len:Nat) (v:Value) (h1:v.oneCell'=true) (L:Lv) (hL:G.rv k=some L) (hl:(n=L.n∧((∃b c,L.v.ownBlock=some b∧v=.slice (some ⟨b,off*L.sz,none⟩) len c∧len≤c)∨(len=0∧∃A c,v=.slice A 0 c)))∨n<L.n):rel G (.gs k n off len) v
variable {G G':Cx}{x:V}
theorem rel_mono(h:G.le G')(r:rel G x v):rel G' x v:=by
 induction r with
 | undef v=>exact .undef v
 | d q=>exact .d (bx h.F q)
 | agg cs vs hl _ ih=>exact .agg cs vs hl ih
 | tuple cs vs hl _ ih=>exact .tuple cs vs hl ih
 | ptr k off b q=>exact .ptr k off b (h.ob _ _ q)
 | iptr cs off b o u hF hr=>exact .iptr cs off b o u (λj x q=>h.F _ _ _ (hF j x q)) (λj x q=>bx h.F (hr j x q))
 | own t es v q L hL hsz hl =>
  obtain⟨L1,q1,s1,r1⟩:=h.lv t L hL
  refine .own t es v (bx h.F q) L1 q1 (λi e he=>by rw[s1];exact hsz i e he) ?_
  rcases r1 with rfl | r1
  ·exact hl
  ·right
   rcases hl with hl | hl<;>omega
 | full es A q=>exact .full es A (bx h.F q)
 | nil=>exact .nil
 | skip=>exact .skip
 | sl k off len cap b q=>exact .sl k off len cap b (h.ob _ _ q)
 | fn f cs vs hl _ ih=>exact .fn f cs vs hl ih
 | mp k b q=>exact .mp k b (h.mp _ _ q)
 | gr k n v h1 L hL hl =>
  obtain⟨L1,q1,s1,r1⟩:=h.rv k L hL
  refine .gr k n v h1 L1 q1 ?_
  rcases r1 with rfl | r1
  ·exact hl
  ·right
   rcases hl with hl | hl<;>omega
 | gp k n i off v h1 L hL hl =>
  obtain⟨L1,q1,s1,r1⟩:=h.rv k L hL
  refine .gp k n i off v h1 L1 q1 ?_
  rcases r1 with rfl | r1
  ·exact hl
  ·right
   rcases hl with hl | hl<;>omega
 | adr k v b hb ht q=>exact .adr k v b (h.ob _ _ hb) (h.tg _ _ ht) q
 | gs k n off len v h1 L hL hl =>
  obtain⟨L1,q1,s1,r1⟩:=h.rv k L hL
  refine .gs k n off len v h1 L1 q1 ?_
  rcases r1 with rfl | r1
  ·exact hl
  ·right
   rcases hl with hl | hl<;>omega
def rels(G:Cx)(cs:List V)(vs:List Value):Prop:=cs.length=vs.length∧∀(i:Nat) (x:V) (v:Value),cs[i]? = some x→vs[i]? = some v→rel G x v
variable {cs:List V}{vs:List Value}
theorem dx(h:G.le G')(r:rels G cs vs):rels G' cs vs:=⟨r.1,λi x v a b=>rel_mono h (r.2 i x v a b)⟩
theorem kG(G:Cx):rels G [] []:=⟨rfl,λi x v h=>by simp at h⟩
theorem ey(h:rel G x v)(r:rels G cs vs):rels G (x::cs) (v::vs):=by
 refine⟨by simp[r.1],λi y u a b=>?_⟩
 cases i with
 | zero=>simp at a b;subst a;subst b;exact h
 | succ i=>simp at a b;exact r.2 i y u a b
theorem aW(r:rels G (x::cs) (v::vs)):rel G x v∧rels G cs vs :=
 ⟨r.2 0 x v rfl rfl,by simpa using r.1,λi y u a b=>r.2 (i+1) y u (by simpa using a) (by simpa using b)⟩
structure Sg where
 obs:List (List V)
 lns:List (TypeId×Nat)
def D.val:D→Value
 | .int k n=>.int k n
 | .bool b=>.bool b
 | .str s=>.string ⟨s.toArray⟩
 | .other v=>v
 | .list _=>undef
def relM(F:Nat→Nat→Value→Prop)(ik:IntKind)(kvs:List (Int×D))(es:List MapEntry):Prop :=
 kvs.length=es.length∧∀(i:Nat) (p:Int×D) (e:MapEntry),kvs[i]? = some p→es[i]? = some e→e.key=.int ik p.1∧relD F p.2 e.val
theorem relM_mono(h:∀b o v,F b o v→F' b o v){ik:IntKind}{kvs:List (Int×D)}{es:List MapEntry}(r:relM F ik kvs es):relM F' ik kvs es :=
 ⟨r.1,λi p e a b=>⟨(r.2 i p e a b).1,bx h (r.2 i p e a b).2⟩⟩
def iP(F:Nat→Nat→Value→Prop)(sz:Nat)(es:List (List D))(xs:List Value):Prop :=
 (∀(i:Nat) (e:List D),es[i]? = some e→e.length=sz)∧∀(i j:Nat) (e:List D) (x:D),es[i]? = some e→e[j]? = some x→∃v,xs[i*sz+j]? = some v∧relD F x v
variable {es:List (List D)}{sz:Nat}
theorem nz(h:∀b o v,F b o v→F' b o v)(r:iP F sz es xs):iP F' sz es xs :=
 ⟨r.1,λi j e x a b=>by obtain⟨v,h1,h2⟩:=r.2 i j e x a b;exact⟨v,h1,bx h h2⟩⟩
def _root_.Go.World.holds(w:World)(base:Nat)(e:TypeId)(size:Nat)(v:Value)(n:Nat)(xs:List Value):Prop:=v=Go.undef∨w.ownsRow base e size v n xs
theorem holds_kp(h:w.holds base e size v n xs)(hk:Kp w w'):w'.holds base e size v n xs:=h.imp id λq=>own_kp q hk
theorem iq(h:w.holds base e size v n xs):∀k,v.ownBlock=some k→base≤k∧k<w.heap.size:=by
 rcases h with rfl | h
 ·intro k hk;simp[Go.undef,Value.ownBlock]at hk
 ·exact h.lt
theorem ko(h:w.holds base e size v n xs)(hg:w.grownBy w' row)(hne:v.ownBlock=none∨v.ownBlock≠row):w'.holds base e size v n xs:=h.imp id λq=>q.kept hg hne
def tagOf(w:World)(b:Nat):Option TypeId:=match w.heap[b]? with | some (.cells _ t _)=>some t | _=>none
def TK(w w':World):Prop:=∀b t,tagOf w b=some t→tagOf w' b=some t
variable {b:Nat}{t:TypeId}
theorem tag_lt(h:tagOf w b=some t):b<w.heap.size:=by
 rcases zA b w.heap.size with z | z
 ·exact z
 ·unfold tagOf at h;rw[Array.getElem?_eq_none z]at h;cases h
theorem tk_kp(h:Kp w w'):TK w w':=λb t q=>by
 have hl:=tag_lt q
 unfold tagOf at q ⊢
 rw[h.below.block b hl];exact q
theorem tk_grown{g:Nat}(h:w.grownBy w' (some g))(hg:∀t,tagOf w g=some t→tagOf w' g=some t):TK w w':=λb t q=>by
 by_cases e:b=g
 ·subst e;exact hg t q
 ·have hl:=tag_lt q
  unfold tagOf at q ⊢
  rw[h.block b hl (λe2=>e (by injection e2))];exact q
theorem tag_own(h:w.ownsRow base e sz v n xs)(hb:v.ownBlock=some b):tagOf w b=some e:=by
 rcases h.2 with⟨rfl,_⟩|⟨g,cap,cur,rfl,_,hg,_⟩
 ·cases hb
 ·injection hb with hb
  have hb:g=b:=hb
  subst hb
  unfold tagOf;rw[hg]
structure HRp (P:Program) (w0 w:World) (G:Cx) (obs:Nat→Option (List V)) (lns:Nat→Option (TypeId×Nat)):Prop where
 kp:Kp w0 w
 fs:∀b o v,G.F b o v→b<w.heap.size∧w.cell? ⟨b,o,none⟩=some v
 fb:∀b o v,G.F b o v→G.base b o v∨w0.heap.size≤b
 obd:∀k b,G.ob k=some b→obs k≠none
 obl:∀k cs,obs k=some cs→G.mp k=none→G.rv k=none→∃b vs t,G.ob k=some b∧w0.heap.size≤b∧w.heap[b]? = some (.cells ⟨vs⟩ t (0,0))∧rels G cs vs∧∀o v,¬G.F b o v
 obi:∀k k' b,G.ob k=some b→G.ob k'=some b→k=k'
 lvd:∀t L,G.lv t=some L→lns t≠none
 lvl:∀t e n,lns t=some (e,n)→∃v xs,G.lv t=some ⟨n,P.cellsOf e,v⟩∧w.holds w0.heap.size e (P.cellsOf e) v n xs∧∀b,v.ownBlock=some b→(∀k,G.ob k≠some b)∧∀o u,G.F b o u→o<n*P.cellsOf e
 lvi:∀t t' L L' b,G.lv t=some L→G.lv t'=some L'→L.v.ownBlock=some b→L'.v.ownBlock=some b→t=t'
 gb:jj w0 G.F
 obm:∀k b,G.ob k=some b→G.mp k=none
 mpl:∀k b,G.mp k=some b→w0.heap.size≤b∧∃es n ik kvs,obs k=some [.mapc ik kvs]∧w.heap[b]? = some (.map ⟨es⟩ n)∧relM G.F ik kvs es
 mpi:∀k k' b,G.mp k=some b→G.mp k'=some b→k=k'
 obr:∀k b,G.ob k=some b→G.rv k=none
 rvl:∀k L,G.rv k=some L→∃e es xs,obs k=some [.rowc e L.n es]∧L.sz=P.cellsOf e∧True∧w.ownsRow w0.heap.size e L.sz L.v es.length xs∧iP G.F L.sz es xs ∧
  ∀b,L.v.ownBlock=some b→(∀j,G.ob j≠some b)∧(∀o u,¬G.F b o u)∧∀t L',G.lv t=some L'→L'.v.ownBlock≠some b
 rvi:∀k k' L L' b,G.rv k=some L→G.rv k'=some L'→L.v.ownBlock=some b→L'.v.ownBlock=some b→k=k'
 tgs:∀b t,G.tg b=some t→tagOf w b=some t
def HR(P:Program)(w0 w:World)(G:Cx)(s:Sg):Prop:=HRp P w0 w G (λk=>s.obs[k]?) (λt=>s.lns[t]?)
def ga(w w':World)(b o:Nat)(v:Value):Prop:=w.heap.size≤b∧w'.cell? ⟨b,o,none⟩=some v
def Cx.withF(G:Cx)(N:Nat→Nat→Value→Prop):Cx:={ G with F:=λb o v=>G.F b o v∨N b o v }
theorem Cx.le_withF(G:Cx)(N:Nat→Nat→Value→Prop):G.le (G.withF N):=⟨rfl,λ_ _ _ h=>.inl h,λ_ _ h=>h,λ_ L h=>⟨L,h,rfl,.inl rfl⟩,λ_ _ h=>h,λ_ L h=>⟨L,h,rfl,.inl rfl⟩,λ_ _ q=>q⟩
theorem cell_lt{o:Nat}(h:w.cell? ⟨b,o,none⟩=some v):b<w.heap.size:=World.block_lt_of_cell? w ⟨b,o,none⟩ h
theorem heap_lt'{W:World}{B:Nat}{o:Obj}(h:W.heap[B]? = some o):B<W.heap.size:=by
 rcases zA B W.heap.size with hlt | hge
 ·exact hlt
 ·rw[Array.getElem?_eq_none hge]at h;cases h
variable {P:Program}{lns:Nat→Option (TypeId×Nat)}{obs:Nat→Option (List V)}{w0:World}
theorem HRp.grow(h:HRp P w0 w G obs lns)(hk:Kp w w'):HRp P w0 w' (G.withF (ga w w')) obs lns:=by
 have hb:∀b o,b<w.heap.size→w'.cell? ⟨b,o,none⟩=w.cell? ⟨b,o,none⟩:=hk.see.1
 refine⟨h.kp.trans hk,?_,?_,h.obd,?_,h.obi,h.lvd,?_,h.lvi,h.gb.mono λ_ _ _ q=>.inl q,h.obm,λk b q=>?_,h.mpi,h.obr,λk L q=>?_,h.rvi,λb t q=>tk_kp hk _ _ (h.tgs b t q)⟩
 ·rintro b o v (q | ⟨q1,q2⟩)
  ·have:=h.fs b o v q
   exact⟨zD this.1 hk.size,(hb b o this.1).trans this.2⟩
  ·exact⟨cell_lt q2,q2⟩
 ·rintro b o v (q | ⟨q1,q2⟩)
  ·exact h.fb b o v q
  ·exact .inr (zK h.kp.size q1)
 ·intro k cs q hm hv
  obtain⟨b,vs,t,h1,h2,h3,h4,h5⟩:=h.obl k cs q hm hv
  refine⟨b,vs,t,h1,h2,(hk.below.block b (heap_lt' h3)).trans h3,dx (G.le_withF _) h4,?_⟩
  rintro o v (q | ⟨q1,q2⟩)
  ·exact h5 o v q
  ·have:=heap_lt' h3;omega
 ·intro t e n q
  obtain⟨v,xs,h1,h2,h3⟩:=h.lvl t e n q
  refine⟨v,xs,h1,holds_kp h2 hk,λb hbk=>⟨(h3 b hbk).1,?_⟩⟩
  rintro o u (q | ⟨q1,q2⟩)
  ·exact (h3 b hbk).2 o u q
  ·have:=(iq h2 b hbk).2;omega
 ·obtain⟨h1,es,n,ik,kvs,h2,h3,h4⟩:=h.mpl k b q
  exact⟨h1,es,n,ik,kvs,h2,(hk.below.block b (heap_lt' h3)).trans h3,relM_mono (λ_ _ _ q=>.inl q) h4⟩
 ·obtain⟨e,es,xs,h1,h2,h3,h4,h5,h6⟩:=h.rvl k L q
  refine⟨e,es,xs,h1,h2,h3,own_kp h4 hk,nz (λ_ _ _ q=>.inl q) h5,λb hb=>⟨(h6 b hb).1,?_,(h6 b hb).2.2⟩⟩
  rintro o u (q | ⟨q1,q2⟩)
  ·exact (h6 b hb).2.1 o u q
  ·have:=(h4.lt b hb).2;omega
theorem HRp.kept(h:HRp P w0 w G obs lns)(hk:Kp w w'):HRp P w0 w' G obs lns:=by
 have hb:∀b o,b<w.heap.size→w'.cell? ⟨b,o,none⟩=w.cell? ⟨b,o,none⟩:=hk.see.1
 refine⟨h.kp.trans hk,?_,h.fb,h.obd,?_,h.obi,h.lvd,?_,h.lvi,h.gb,h.obm,λk b q=>?_,h.mpi,h.obr,λk L q=>?_,h.rvi,λb t q=>tk_kp hk _ _ (h.tgs b t q)⟩
 ·intro b o v q
  have:=h.fs b o v q
  exact⟨zD this.1 hk.size,(hb b o this.1).trans this.2⟩
 ·intro k cs q hm hv
  obtain⟨b,vs,t,h1,h2,h3,h4,h5⟩:=h.obl k cs q hm hv
  exact⟨b,vs,t,h1,h2,(hk.below.block b (heap_lt' h3)).trans h3,h4,h5⟩
 ·intro t e n q
  obtain⟨v,xs,h1,h2,h3⟩:=h.lvl t e n q
  exact⟨v,xs,h1,holds_kp h2 hk,h3⟩
 ·obtain⟨h1,es,n,ik,kvs,h2,h3,h4⟩:=h.mpl k b q
  exact⟨h1,es,n,ik,kvs,h2,(hk.below.block b (heap_lt' h3)).trans h3,h4⟩
 ·obtain⟨e,es,xs,h1,h2,h3,h4,h5,h6⟩:=h.rvl k L q
  exact⟨e,es,xs,h1,h2,h3,own_kp h4 hk,h5,h6⟩
def upd{α:Type}(f:Nat→Option α)(k:Nat)(c:α):Nat→Option α:=λj=>if j=k then some c else f j
variable {α:Type}
theorem aG(f:Nat→Option α)(k:Nat)(c:α):upd f k c k=some c:=by simp[upd]
variable {k:Nat}
theorem aP(f:Nat→Option α){j:Nat}(c:α)(h:j≠k):upd f k c j=f j:=by simp[upd,h]
theorem HRp.new(h:HRp P w0 w G obs lns)(k:Nat)(hk:obs k=none)(cs:List V)(vs:List Value)(t:TypeId)(hr:rels G cs vs) :
  let G':Cx:={ G with ob:=upd G.ob k w.heap.size }
  G.le G'∧HRp P w0 (w.alloc (.cells ⟨vs⟩ t)) G' (upd obs k cs) lns:=by
 intro G'
 have hnone:G.ob k=none:=by
  cases hq:G.ob k with
  | none=>rfl
  | some b=>exact absurd hk (h.obd k b hq)
 have hle:G.le G':=by
  refine⟨rfl,λ_ _ _ q=>q,λj b q=>?_,λ_ L q=>⟨L,q,rfl,.inl rfl⟩,λ_ _ q=>q,λ_ L q=>⟨L,q,rfl,.inl rfl⟩,λ_ _ q=>q⟩
  show upd G.ob k w.heap.size j=some b
  rw[aP _ _ (λe=>by rw[e,hnone]at q;cases q)];exact q
 have hkp:Kp w (w.alloc (.cells ⟨vs⟩ t)):=(Kp.refl w).alloc _
 have hob:∀j b,G'.ob j=some b→(j=k∧b=w.heap.size)∨(j≠k∧G.ob j=some b):=by
  intro j b q
  by_cases e:j=k
  ·left
   subst e
   have q':upd G.ob j w.heap.size j=some b:=q
   rw[aG]at q'
   injection q' with q'
   exact⟨rfl,q'.symm⟩
  ·right
   have q':upd G.ob k w.heap.size j=some b:=q
   rw[aP _ _ e]at q'
   exact⟨e,q'⟩
 have hlt:∀j b,G.ob j=some b→b<w.heap.size:=by
  intro j b q
  cases hq:obs j with
  | none=>exact absurd hq (h.obd j b q)
  | some cs =>
   obtain⟨b',vs',t',h1,_,h3,_⟩:=h.obl j cs hq (h.obm j b q) (h.obr j b q)
   rw[q]at h1;injection h1 with h1;subst h1
   exact heap_lt' h3
 have hmk:G.mp k=none:=by
  cases hq:G.mp k with
  | none=>rfl
  | some b=>obtain⟨_,_,_,_,_,h2,_⟩:=h.mpl k b hq;rw[hk]at h2;cases h2
 have hrk:G.rv k=none:=by
  cases hq:G.rv k with
  | none=>rfl
  | some L=>obtain⟨_,_,_,h1,_⟩:=h.rvl k L hq;rw[hk]at h1;cases h1
 refine⟨hle,h.kp.trans hkp,?_,h.fb,?_,?_,?_,h.lvd,?_,h.lvi,h.gb,?_,?_,h.mpi,?_,?_,h.rvi,λb t q=>tk_kp hkp _ _ (h.tgs b t q)⟩
 ·intro b o v q
  have:=h.fs b o v q
  exact⟨zD this.1 hkp.size,(hkp.see.1 b o this.1).trans this.2⟩
 ·intro j b q
  rcases hob j b q with⟨rfl,_⟩|⟨e,q⟩
  ·rw[aG];simp
  ·rw[aP _ _ e];exact h.obd j b q
 ·intro j cs' q hm hrv
  by_cases e:j=k
  ·subst e
   rw[aG]at q
   injection q with q
   subst q
   refine⟨w.heap.size,vs,t,aG _ _ _,h.kp.size,heap_alloc_new w _,dx hle hr,λo v q=>?_⟩
   have:=(h.fs _ _ _ q).1
   omega
  ·rw[aP _ _ e]at q
   obtain⟨b,vs',t',h1,h2,h3,h4,h5⟩:=h.obl j cs' q hm hrv
   exact⟨b,vs',t',hle.ob _ _ h1,h2,(hkp.below.block b (heap_lt' h3)).trans h3,dx hle h4,h5⟩
 ·intro j j' b q q'
  rcases hob j b q with⟨e1,e2⟩|⟨e1,q1⟩<;>rcases hob j' b q' with⟨e3,e4⟩|⟨e3,q2⟩
  ·rw[e1,e3]
  ·exact absurd (hlt _ _ q2) (by omega)
  ·exact absurd (hlt _ _ q1) (by omega)
  ·exact h.obi j j' b q1 q2
 ·intro t' e n q
  obtain⟨v,xs,h1,h2,h3⟩:=h.lvl t' e n q
  refine⟨v,xs,h1,holds_kp h2 hkp,λb hb=>⟨λj q=>?_,(h3 b hb).2⟩⟩
  rcases hob j b q with⟨_,rfl⟩|⟨_,q⟩
  ·exact absurd (iq h2 _ hb).2 (by omega)
  ·exact (h3 b hb).1 j q
 ·intro j b q
  rcases hob j b q with⟨rfl,_⟩|⟨_,q⟩
  ·exact hmk
  ·exact h.obm j b q
 ·intro j b q
  obtain⟨h1,es,n,ik,kvs,h2,h3,h4⟩:=h.mpl j b q
  have hj:j≠k:=λe=>by rw[e]at h2;rw[hk]at h2;cases h2
  exact⟨h1,es,n,ik,kvs,by rw[aP _ _ hj];exact h2,(hkp.below.block b (heap_lt' h3)).trans h3,h4⟩
 ·intro j b q
  rcases hob j b q with⟨rfl,_⟩|⟨_,q⟩
  ·exact hrk
  ·exact h.obr j b q
 ·intro j L q
  obtain⟨e,es,xs,h1,h2,h3,h4,h5,h6⟩:=h.rvl j L q
  have hj:j≠k:=λe=>by rw[e]at h1;rw[hk]at h1;cases h1
  refine⟨e,es,xs,by rw[aP _ _ hj];exact h1,h2,h3,own_kp h4 hkp,h5,λb hb=>⟨λj' q'=>?_,(h6 b hb).2⟩⟩
  rcases hob j' b q' with⟨_,rfl⟩|⟨_,q'⟩
  ·exact absurd (h4.lt _ hb).2 (by omega)
  ·exact (h6 b hb).1 j' q'
theorem HRp.put(h:HRp P w0 w G obs lns)(hk:G.ob k=some b)(hg:w.grownBy w' (some b))(hkt:TK w w')(hb:w'.heap[b]? = some (.cells ⟨vs⟩ t (0,0)))(hr:rels G cs vs) :
  HRp P w0 w' G (upd obs k cs) lns:=by
 have hcs:∃cs0,obs k=some cs0:=by
  cases hq:obs k with
  | none=>exact absurd hq (h.obd k b hk)
  | some c=>exact⟨c,rfl⟩
 obtain⟨cs0,hq⟩:=hcs
 obtain⟨b',vs0,t0,g1,g2,g3,g4,g5⟩:=h.obl k cs0 hq (h.obm k b hk) (h.obr k b hk)
 rw[hk]at g1;injection g1 with g1;subst g1
 have hbk:∀b',b'<w.heap.size→b'≠b→w'.heap[b']? = w.heap[b']?:=λb' hl hn=>hg.block b' hl (λe=>hn (by injection e))
 refine⟨h.kp.grown hg (λj hj=>by injection hj with hj;subst hj;exact g2),?_,h.fb,?_,?_,h.obi,h.lvd,?_,h.lvi,h.gb,h.obm,?_,h.mpi,h.obr,?_,h.rvi,λb t q=>hkt _ _ (h.tgs b t q)⟩
 ·intro b' o v q
  have q1:=h.fs b' o v q
  have hne:b'≠b:=λe=>by subst e;exact g5 o v q
  exact⟨zD q1.1 hg.size,(World.cell?_of_block (a:=⟨b',o,none⟩) (hbk b' q1.1 hne)).trans q1.2⟩
 ·intro j b' q
  by_cases e:j=k
  ·subst e;rw[aG];simp
  ·rw[aP _ _ e];exact h.obd j b' q
 ·intro j cs' q hm hrv
  by_cases e:j=k
  ·subst e
   rw[aG]at q;injection q with q;subst q
   exact⟨b,vs,t,hk,g2,hb,hr,g5⟩
  ·rw[aP _ _ e]at q
   obtain⟨b',vs',t',h1,h2,h3,h4,h5⟩:=h.obl j cs' q hm hrv
   have hne:b'≠b:=λe'=>e (h.obi j k b (e'▸h1) hk)
   exact⟨b',vs',t',h1,h2,(hbk b' (heap_lt' h3) hne).trans h3,h4,h5⟩
 ·intro t' e n q
  obtain⟨v,xs,h1,h2,h3⟩:=h.lvl t' e n q
  refine⟨v,xs,h1,?_,h3⟩
  refine ko h2 hg (.inr λhv=>(h3 b hv).1 k hk)
 ·intro j b' q
  obtain⟨h1,es,n,ik,kvs,h2,h3,h4⟩:=h.mpl j b' q
  have hj:j≠k:=λe=>by rw[e,h.obm k b hk]at q;cases q
  have hne:b'≠b:=λe=>by rw[e,g3]at h3;cases h3
  exact⟨h1,es,n,ik,kvs,by rw[aP _ _ hj];exact h2,(hbk b' (heap_lt' h3) hne).trans h3,h4⟩
 ·intro j L q
  obtain⟨e,es,xs,h1,h2,h3,h4,h5,h6⟩:=h.rvl j L q
  have hj:j≠k:=λe=>by rw[e,h.obr k b hk]at q;cases q
  exact⟨e,es,xs,by rw[aP _ _ hj];exact h1,h2,h3,h4.kept hg (.inr λhv=>(h6 b hv).1 k hk),h5,h6⟩
theorem run_append_any(w:World)(t ty e:TypeId)(i:TypeInfo)(z:Value)(base:Nat)(ht:P.underlying t=some (.slice e))(hi:P.info? e=some i)(hz:i.zero=some z)
  (hzs:z.cells.size=i.size) (v:Value) (n:Nat) (xs:List Value) (hown:w.ownsRow base e i.size v n xs)
  (a:Addr) (m c:Nat) (news:List Value) (hl:news.length=m*i.size) (hnews:∀j u,news[j]? = some u→w.cell? (a.add j)=some u) (h1:∀u∈news,u.oneCell'=true)
  (hm:0<m) (h63:n+m≤maxLen) (hbytes:(n+m)*i.bytes≤140737488355328) (hbase:base≤w.heap.size) :
  ∃g cap w',(Builtin.append_ #[t,t] ty #[v,.slice (some a) m c]).run P w=.ok (.slice (some ⟨g,0,none⟩) (n+m) cap) w' ∧
   w'.ownsRow base e i.size (.slice (some ⟨g,0,none⟩) (n+m) cap) (n+m) (xs++news)∧((v.ownBlock=some g∧w.grownBy w' (some g))∨(g=w.heap.size∧Kp w w')):=by
 have hsmall:n+m≤9223372036854775807:=by simp only[maxLen]at h63;omega
 have hlen:(xs++news).length=(n+m)*i.size:=by rw[zE,hown.1,hl,zG]
 have grown:∀(old:Nat),old<n+m →
   (w.drew.alloc (.cells (xs.toArray++news.toArray++Builtin.zeroCells z.cells (grownCap w (n+m) old e-(n+m))) e)).ownsRow base e i.size
    (.slice (some ⟨w.heap.size,0,none⟩) (n+m) (grownCap w (n+m) old e)) (n+m) (xs++news):=by
  intro old ho
  have hge:=grownCap_ge w (n+m) old e
  have hcm:grownCap w (n+m) old e≤maxLen:=grownCap_le_maxLen w (n+m) old e h63
  refine⟨hlen,.inr ⟨w.heap.size,_,_,rfl,hbase,heap_alloc_new w.drew _,hge,hcm,?_,?_⟩⟩
  ·simp only[Array.size_append,zF,size_zeroCells,hzs,hown.1,hl,←zG]
   congr 1
   omega
  ·simp only[Array.toList_append,zM]
   rw[←zM,←hlen]
   exact zP
 rcases hown.2 with⟨rfl,rfl⟩|⟨g,cap,cur,rfl,hbg,hg,hnc,hcm,hcs,htake⟩
 ·have hx:xs=[]:=zB (by simpa using hown.1)
  subst hx
  have hr:=run_append_nil (P:=P) w t ty e i z ht hi hz a m c news hl hnews (by omega) (by omega) (by have hb:=hbytes;simp only[Nat.zero_add]at hb;omega)
  have hgr:=grown 0 (by omega)
  simp only[Nat.zero_add,List.nil_append,Array.empty_append]at hgr ⊢
  exact⟨_,_,_,hr,hgr,.inr ⟨rfl,((Kp.refl w).drew).alloc _⟩⟩
 ·by_cases hroom:n+m≤cap
  ·have hfit:n*i.size+news.length≤cur.size:=by rw[hl,hcs,←zG];exact zI _ hroom
   have hr:=run_append_room (P:=P) w t ty e i ht hi g n cap cur hg a m c news hl hnews h1 hroom hfit
   refine⟨_,_,_,hr,⟨hlen,.inr ⟨g,cap,_,rfl,hbg,setRow_heap w g cur _ e _ hg,hroom,hcm,?_,?_⟩⟩,.inl ⟨rfl,⟨rfl,rfl,rfl,by simp,λk _ hk=>setRow_other w g k _ (λe=>hk (by simp[e]))⟩⟩⟩
   ·simp only[zF,zE,List.length_take,List.length_drop,Array.length_toList]
    omega
   ·rw[htake,←hlen]
    exact zP
  ·have holds:∀j u,xs[j]? = some u→w.cell? ((⟨g,0,none⟩:Addr).add j)=some u:=hown.cells (g:=g) rfl
   have hr:=run_append_grow (P:=P) w t ty e i z ht hi hz ⟨g,0,none⟩ n cap xs hown.1 holds a m c news hl hnews (by omega) (by omega) (growslice_fits (by omega) hbytes)
   have hgr:=grown cap (by omega)
   exact⟨_,_,_,hr,hgr,.inr ⟨rfl,((Kp.refl w).drew).alloc _⟩⟩
theorem HRp.begin(h:HRp P w0 w G obs lns)(t:Nat)(ht:lns t=none)(e:TypeId) :
  let G':Cx:={ G with lv:=upd G.lv t ⟨0,P.cellsOf e,.slice none 0 0⟩ }
  G.le G'∧HRp P w0 w G' obs (upd lns t (e,0)):=by
 intro G'
 have hnone:G.lv t=none:=by
  cases hq:G.lv t with
  | none=>rfl
  | some b=>exact absurd ht (h.lvd t b hq)
 have hlv:∀j L,G'.lv j=some L→(j=t∧L=⟨0,P.cellsOf e,.slice none 0 0⟩)∨(j≠t∧G.lv j=some L):=by
  intro j L q
  have q':upd G.lv t ⟨0,P.cellsOf e,.slice none 0 0⟩ j=some L:=q
  by_cases e:j=t
  ·subst e;rw[aG]at q';injection q' with q';exact .inl ⟨rfl,q'.symm⟩
  ·rw[aP _ _ e]at q';exact .inr ⟨e,q'⟩
 have hle:G.le G':=by
  refine⟨rfl,λ_ _ _ q=>q,λ_ _ q=>q,λj L q=>⟨L,?_,rfl,.inl rfl⟩,λ_ _ q=>q,λ_ L q=>⟨L,q,rfl,.inl rfl⟩,λ_ _ q=>q⟩
  show upd G.lv t _ j=some L
  rw[aP _ _ (λe=>by rw[e,hnone]at q;cases q)];exact q
 refine⟨hle,h.kp,h.fs,h.fb,h.obd,?_,h.obi,?_,?_,?_,h.gb,h.obm,h.mpl,h.mpi,h.obr,λk L q=>?_,h.rvi,h.tgs⟩
 ·intro k cs q hm hrv
  obtain⟨b,vs,t',h1,h2,h3,h4,h5⟩:=h.obl k cs q hm hrv
  exact⟨b,vs,t',h1,h2,h3,dx hle h4,h5⟩
 ·intro j L q
  rcases hlv j L q with⟨rfl,_⟩|⟨e,q⟩
  ·rw[aG];simp
  ·rw[aP _ _ e];exact h.lvd j L q
 ·intro j e' n q
  by_cases ej:j=t
  ·subst ej
   rw[aG]at q;injection q with q;injection q with q1 q2;subst q1;subst q2
   exact⟨.slice none 0 0,[],aG _ _ _,.inr (World.ownsRow_nil _ _ _ _),λb hb=>by simp[Value.ownBlock]at hb⟩
  ·rw[aP _ _ ej]at q
   obtain⟨v,xs,h1,h2,h3⟩:=h.lvl j e' n q
   exact⟨v,xs,(by show upd G.lv t _ j=_;rw[aP _ _ ej];exact h1),h2,h3⟩
 ·intro j j' L L' b q q' h1 h2
  rcases hlv j L q with⟨_,rfl⟩|⟨_,q⟩
  ·simp[Value.ownBlock]at h1
  ·rcases hlv j' L' q' with⟨_,rfl⟩|⟨_,q'⟩
   ·simp[Value.ownBlock]at h2
   ·exact h.lvi j j' L L' b q q' h1 h2
 ·obtain⟨e',es,xs,h1,h2,h3,h4,h5,h6⟩:=h.rvl k L q
  refine⟨e',es,xs,h1,h2,h3,h4,h5,λb hb=>⟨(h6 b hb).1,(h6 b hb).2.1,λj L' q'=>?_⟩⟩
  rcases hlv j L' q' with⟨_,rfl⟩|⟨_,q'⟩
  ·simp[Value.ownBlock]
  ·exact (h6 b hb).2.2 j L' q'
variable {cap m:Nat}
theorem HRp.app(h:HRp P w0 w G obs lns){t g:Nat}{news:List Value}(hl:lns t=some (e,n))(hv:G.lv t=some ⟨n,P.cellsOf e,v⟩)
  (hown:w.ownsRow w0.heap.size e (P.cellsOf e) v n xs) (hown':w'.ownsRow w0.heap.size e (P.cellsOf e) (.slice (some ⟨g,0,none⟩) (n+m) cap) (n+m) (xs++news)) (hm:0<m)
  (hat:(v.ownBlock=some g∧w.grownBy w' (some g))∨(g=w.heap.size∧Kp w w')) :
  let G':Cx:={ base:=G.base,F:=λb o u=>G.F b o u∨(b=g∧o<(n+m)*P.cellsOf e∧w'.cell? ⟨g,o,none⟩=some u),ob:=G.ob,mp:=G.mp,rv:=G.rv,tg:=G.tg,lv:=upd G.lv t ⟨n+m,P.cellsOf e,.slice (some ⟨g,0,none⟩) (n+m) cap⟩ }
  G.le G'∧HRp P w0 w' G' obs (upd lns t (e,n+m)):=by
 intro G'
 obtain⟨v0,xs0,g1,g2,g3⟩:=h.lvl t e n hl
 rw[hv]at g1
 injection g1 with g1
 injection g1 with _ _ g1
 subst g1
 have hlt':g<w'.heap.size:=(hown'.lt g rfl).2
 -- blocks other than g are as they were
 have hblk:∀b,b<w.heap.size→b≠g→w'.heap[b]? = w.heap[b]?:=by
  intro b hb hn
  rcases hat with⟨_,hg⟩|⟨_,hk⟩
  ·exact hg.block b hb (λe=>hn (by injection e))
  ·exact hk.below.block b hb
 have hsize:w.heap.size≤w'.heap.size:=by
  rcases hat with⟨_,hg⟩|⟨_,hk⟩
  ·exact hg.size
  ·exact hk.size
 have hFg:∀o u,G.F g o u→o<n*P.cellsOf e∧w'.cell? ⟨g,o,none⟩=some u:=by
  intro o u q
  rcases hat with⟨hb,hg⟩|⟨hb,hk⟩
  ·have ho:=(g3 g hb).2 o u q
   refine⟨ho,?_⟩
   have hx:o<xs.length:=by rw[hown.1];exact ho
   have c1:=hown.cells hb o xs[o] (List.getElem?_eq_getElem hx)
   have c2:=hown'.cells (g:=g) rfl o xs[o] (by rw[List.getElem?_append_left hx,List.getElem?_eq_getElem hx])
   have hadd:(⟨g,0,none⟩:Addr).add o=⟨g,o,none⟩:=by unfold Addr.add;split<;>simp_all
   rw[hadd]at c1 c2
   rw[c2,←c1]
   exact (h.fs g o u q).2
  ·have:=(h.fs g o u q).1;omega
 have hgob:∀k,G.ob k≠some g:=by
  intro k q
  rcases hat with⟨hb,hg⟩|⟨hb,hk⟩
  ·exact (g3 g hb).1 k q
  ·cases hq:obs k with
   | none=>exact absurd hq (h.obd k g q)
   | some cs =>
    obtain⟨b',_,_,h1,_,h3,_⟩:=h.obl k cs hq (h.obm k g q) (h.obr k g q)
    rw[q]at h1;injection h1 with h1;subst h1
    have:=heap_lt' h3;omega
 have hlv:∀j L,G'.lv j=some L→(j=t∧L=⟨n+m,P.cellsOf e,.slice (some ⟨g,0,none⟩) (n+m) cap⟩)∨(j≠t∧G.lv j=some L):=by
  intro j L q
  have q':upd G.lv t ⟨n+m,P.cellsOf e,.slice (some ⟨g,0,none⟩) (n+m) cap⟩ j=some L:=q
  by_cases e:j=t
  ·subst e;rw[aG]at q';injection q' with q';exact .inl ⟨rfl,q'.symm⟩
  ·rw[aP _ _ e]at q';exact .inr ⟨e,q'⟩
 -- other growing lists lie elsewhere
 have hoth:∀j L,j≠t→G.lv j=some L→L.v.ownBlock≠some g:=by
  intro j L hj q hb'
  rcases hat with⟨hb,hg⟩|⟨hb,hk⟩
  ·exact hj (h.lvi j t L _ g q hv hb' hb)
  ·cases hq:lns j with
   | none=>exact absurd hq (h.lvd j L q)
   | some en =>
    obtain⟨v',xs',h1,h2,_⟩:=h.lvl j en.1 en.2 hq
    rw[q]at h1;injection h1 with h1;subst h1
    have:=(iq h2 g hb').2;omega
 have hle:G.le G':=by
  refine⟨rfl,λ_ _ _ q=>.inl q,λ_ _ q=>q,λj L q=>?_,λ_ _ q=>q,λ_ L q=>⟨L,q,rfl,.inl rfl⟩,λ_ _ q=>q⟩
  by_cases ej:j=t
  ·subst ej
   rw[hv]at q;injection q with q;subst q
   exact⟨_,aG _ _ _,rfl,.inr (by show n<n+m;omega)⟩
  ·exact⟨L,(by show upd G.lv t _ j=_;rw[aP _ _ ej];exact q),rfl,.inl rfl⟩
 refine⟨hle,?_,?_,?_,h.obd,?_,h.obi,?_,?_,?_,h.gb.mono λ_ _ _ q=>.inl q,h.obm,λj b q=>?_,h.mpi,h.obr,λj L q=>?_,h.rvi,λb t q=>?_⟩
 ·rcases hat with⟨hb,hg⟩|⟨hb,hk⟩
  ·exact h.kp.grown hg (λk hk=>by injection hk with hk;subst hk;exact (hown.lt _ hb).1)
  ·exact h.kp.trans hk
 ·rintro b o u (q | ⟨rfl,_,q2⟩)
  ·have q1:=h.fs b o u q
   refine⟨zD q1.1 hsize,?_⟩
   by_cases hbg:b=g
   ·subst hbg;exact (hFg o u q).2
   ·exact (World.cell?_of_block (a:=⟨b,o,none⟩) (hblk b q1.1 hbg)).trans q1.2
  ·exact⟨hlt',q2⟩
 ·rintro b o u (q | ⟨rfl,_,q2⟩)
  ·exact h.fb b o u q
  ·exact .inr (hown'.lt _ rfl).1
 ·intro k cs q hm hrv
  obtain⟨b,vs,t',h1,h2,h3,h4,h5⟩:=h.obl k cs q hm hrv
  have hbg:b≠g:=λe=>hgob k (e▸h1)
  refine⟨b,vs,t',h1,h2,(hblk b (heap_lt' h3) hbg).trans h3,dx hle h4,?_⟩
  rintro o u (q | ⟨q1,_⟩)
  ·exact h5 o u q
  ·exact hbg q1
 ·intro j L q
  rcases hlv j L q with⟨rfl,_⟩|⟨e,q⟩
  ·rw[aG];simp
  ·rw[aP _ _ e];exact h.lvd j L q
 ·intro j e' n' q
  by_cases ej:j=t
  ·subst ej
   rw[aG]at q;injection q with q;injection q with q1 q2;subst q1;subst q2
   refine⟨_,xs++news,aG _ _ _,.inr hown',λb hb=>?_⟩
   have hbg:g=b:=by injection hb
   subst hbg
   refine⟨hgob,?_⟩
   rintro o u (q | ⟨_,q,_⟩)
   ·exact zD (hFg o u q).1 (zI _ (by omega))
   ·exact q
  ·rw[aP _ _ ej]at q
   obtain⟨v',xs',h1,h2,h3⟩:=h.lvl j e' n' q
   refine⟨v',xs',(by show upd G.lv t _ j=_;rw[aP _ _ ej];exact h1),?_,λb hb=>⟨(h3 b hb).1,?_⟩⟩
   ·rcases hat with⟨hb,hg⟩|⟨hb,hk⟩
    ·exact ko h2 hg (.inr (hoth j _ ej h1))
    ·exact holds_kp h2 hk
   ·rintro o u (q | ⟨q,_⟩)
    ·exact (h3 b hb).2 o u q
    ·exact absurd (q▸hb) (hoth j _ ej h1)
 ·intro j j' L L' b q q' h1 h2
  rcases hlv j L q with⟨e1,r1⟩|⟨e1,q1⟩<;>rcases hlv j' L' q' with⟨e2,r2⟩|⟨e2,q2⟩
  ·rw[e1,e2]
  ·subst r1
   have hbg:g=b:=by injection h1
   exact absurd (hbg▸h2) (hoth j' L' e2 q2)
  ·subst r2
   have hbg:g=b:=by injection h2
   exact absurd (hbg▸h1) (hoth j L e1 q1)
  ·exact h.lvi j j' L L' b q1 q2 h1 h2
 ·obtain⟨h1,es,n',ik,kvs,h2,h3,h4⟩:=h.mpl j b q
  have hbg:b≠g:=by
   rintro rfl
   rcases hat with⟨hb,hg⟩|⟨hb,hk⟩
   ·rcases hown.2 with⟨rfl,_⟩|⟨g',cap',cur,rfl,_,hgc,_⟩
    ·cases hb
    ·have:g'=b:=by injection hb
     subst this
     rw[hgc]at h3;cases h3
   ·have:=heap_lt' h3;omega
  exact⟨h1,es,n',ik,kvs,h2,(hblk b (heap_lt' h3) hbg).trans h3,relM_mono (λ_ _ _ q=>.inl q) h4⟩
 ·obtain⟨e',es,xs',h1,h2,h3,h4,h5,h6⟩:=h.rvl j L q
  have hbg:∀b,L.v.ownBlock=some b→b≠g:=by
   rintro b hb rfl
   rcases hat with⟨hb',hg⟩|⟨hb',hk⟩
   ·exact (h6 b hb).2.2 t _ hv hb'
   ·have:=(h4.lt b hb).2;omega
  refine⟨e',es,xs',h1,h2,h3,?_,nz (λ_ _ _ q=>.inl q) h5,λb hb=>⟨(h6 b hb).1,?_,λj' L' q'=>?_⟩⟩
  ·rcases hat with⟨hb',hg⟩|⟨hb',hk⟩
   ·exact h4.kept hg (.inr λhv'=>hbg g hv' rfl)
   ·exact own_kp h4 hk
  ·rintro o u (q | ⟨q1,_⟩)
   ·exact (h6 b hb).2.1 o u q
   ·exact hbg b hb q1
  ·rcases hlv j' L' q' with⟨_,rfl⟩|⟨_,q'⟩
   ·intro hh
    have:g=b:=by injection hh
    exact hbg b hb this.symm
   ·exact (h6 b hb).2.2 j' L' q'
 ·refine (show TK w w' from ?_) b t (h.tgs b t q)
  rcases hat with⟨hb,hg⟩|⟨_,hk⟩
  ·exact tk_grown hg λt' q'=>by
    have h1:=tag_own hown hb
    have h2:=tag_own hown' (b:=g) rfl
    rw[h1]at q';rw[h2];exact q'
  ·exact tk_kp hk
inductive SK where
 | int (k:IntKind)
 | bool
 | str
 deriving DecidableEq
def D.kind?:D→Option SK
 | .int k _=>some (.int k)
 | .bool _=>some .bool
 | .str _=>some .str
 | _=>none
def eqD:D→D→Bool
 | .int _ a,.int _ b=>a==b
 | .bool a,.bool b=>a==b
 | .str a,.str b=>a==b
 | _,_=>false
def eqAll:List D→List D→Bool
 | [],[]=>true
 | x::xs,y::ys=>eqD x y&&eqAll xs ys
 | _,_=>false
def EqOk(P:Program)(t:TypeId)(ks:List SK):Prop :=
 P.eqGuardType P.depth t=false∧∀xs ys:List D,xs.map D.kind? = ks.map some→ys.map D.kind? = ks.map some→∀w,(Op.equal t (.agg ⟨xs.map D.val⟩) (.agg ⟨ys.map D.val⟩)).run P w=.ok (eqAll xs ys) w
structure Pg (P:Program) where
 mixed:P.follows .mixedOrders=true
 E:TypeId→Option (List SK)
 hE:∀t ks,E t=some ks→EqOk P t ks
def litC:Value→V
 | .int k n=>.d (.int k n)
 | .bool b=>.d (.bool b)
 | .string s=>.d (.str s.data.toList)
 | .slice none n c=>if n=0∧c=0 then .nil else .d (.other (.slice none n c))
 | .func (.func f) fs cs=>if fs.toList=[]∧cs.toList=[]then .fn f []else .d (.other (.func (.func f) fs cs))
 | v=>if v.oneCell'=true then .d (.other v)else .undef
def lit:Value→V
 | .agg cs=>.agg (cs.toList.map litC)
 | v=>litC v
theorem litC_rel(G:Cx)(v:Value):rel G (litC v) v:=by
 unfold litC
 split
 ·exact .d (.int _ _)
 ·exact .d (.bool _)
 ·rename_i s
  have:(⟨s.data.toList.toArray⟩:ByteArray)=s:=by cases s;simp
  exact .d (by have h:=relD.str (F:=G.F) s.data.toList;rw[this]at h;exact h)
 ·split
  ·rename_i h;obtain⟨rfl,rfl⟩:=h;exact .nil
  ·exact .d (.other _ rfl)
 ·rename_i f fs cs
  split
  ·rename_i h
   obtain⟨h1,h2⟩:=h
   have e1:fs=#[]:=by cases fs;simp_all
   have e2:cs=#[]:=by cases cs;simp_all
   subst e1;subst e2
   exact .fn _ [] [] rfl (λi x v h=>by simp at h)
  ·exact .d (.other _ rfl)
 ·split
  ·exact .d (.other _ ‹_›)
  ·exact .undef _
theorem lit_rel(G:Cx)(v:Value):rel G (lit v) v:=by
  unfold lit
  split
  · rename_i cs
    have h:=rel.agg (G:=G) (cs.toList.map litC) cs.toList (by simp) (λi x v h1 h2=>by
      rw[List.getElem?_map,h2]at h1
      simp at h1;subst h1;exact litC_rel G v)
    simpa using h
  · exact litC_rel G _
abbrev Fr:=List V
def FR(G:Cx)(fr:Fr)(a:Act):Prop:=fr.length=a.tmps.size∧∀t,rel G (fr.getD t .undef) (a.tmps.getD t undef)
def aR(fr:Fr):Operand→V
 | .tmp t=>fr.getD t .undef
 | .const v=>lit v
 | .global g=>.d (.other (.pointer (some ⟨g,0,none⟩)))
 | .func f=>.fn f []
variable {fr:Fr}
theorem aV{a:Act}(h:FR G fr a)(x:Operand):rel G (aR fr x) (a.eval x):=by
 cases x with
 | tmp t=>exact h.2 t
 | const v=>exact lit_rel G v
 | global g=>exact .d (.other _ rfl)
 | func f=>exact .fn _ [] [] rfl (λi x v h=>by simp at h)
theorem gf(h:G.le G'){a:Act}(r:FR G fr a):FR G' fr a:=⟨r.1,λt=>rel_mono h (r.2 t)⟩
def putF(fr:Fr)(dst:Option Tmp)(x:V):Fr:=match dst with | some d=>fr.set d x | none=>fr
theorem eG{a:Act}(h:FR G fr a)(r:rel G x v)(dst:Option Tmp):FR G (putF fr dst x) (a.put dst v):=by
 cases dst with
 | none=>exact h
 | some d =>
  refine⟨by simp[putF,Act.put,h.1],λt=>?_⟩
  simp only[putF,Act.put,List.getD_eq_getElem?_getD,Array.getD_eq_getD_getElem?,List.getElem?_set,Array.getElem?_setIfInBounds]
  by_cases e:d=t
  ·subst e
   rw[od rfl,od rfl]
   by_cases hl:d<fr.length
   ·rw[od hl,od (h.1▸hl)];exact r
   ·rw[oc hl];exact .undef _
  ·rw[oc e,oc e]
   have:=h.2 t
   simpa only [List.getD_eq_getElem?_getD,Array.getD_eq_getD_getElem?] using this
def V.one:V→Bool
 | .undef=>false
 | .skip=>false
 | .agg _=>false
 | .tuple _=>false
 | _=>true
theorem one_rel(r:rel G x v)(h:x.one=true):v.oneCell'=true:=by
 cases r with
 | undef v=>simp[V.one]at h
 | skip=>simp[V.one]at h
 | d q=>cases q<;>first | rfl | assumption
 | agg cs vs _ _=>simp[V.one]at h
 | tuple cs vs _ _=>simp[V.one]at h
 | own t es v q=>cases q<;>rfl
 | gr k n v h1=>exact h1
 | gp k n i off v h1=>exact h1
 | adr k v b _ _ q=>rcases q with rfl | rfl<;>rfl
 | gs k n off len v h1=>exact h1
 | _=>rfl
def V.cells?:V→Option (List V)
 | .agg cs=>some cs
 | x=>if x.one then some [x]else none
theorem cells_one(h:v.oneCell'=true):v.cells=#[v]:=by cases v<;>first | rfl | (simp[Value.oneCell']at h)
theorem eB(r:rel G x v)(h:x.cells? = some cs):rels G cs v.cells.toList:=by
 cases x with
 | agg c =>
  simp only[V.cells?]at h
  injection h with h;subst h
  cases r with
  | agg _ vs hl hr=>exact⟨hl,hr⟩
 | _ =>
  simp only[V.cells?]at h
  split at h
  ·rename_i ho
   injection h with h;subst h
   rw[cells_one (one_rel r ho)]
   exact ey r (kG G)
  ·cases h
def V.data?:V→Option D
 | .d x=>some x
 | .own _ es=>some (.list es)
 | .full es=>some (.list es)
 | .nil=>some (.list [])
 | .fn f []=>some (.other (.func (.func f) #[] #[]))
 | _=>none
theorem mJ{y:D}(r:rel G x v)(h:x.data? = some y):relD G.F y v:=by
 cases r with
 | d q=>simp only[V.data?]at h;injection h with h;subst h;exact q
 | own t es v q=>simp only[V.data?]at h;injection h with h;subst h;exact q
 | full es A q=>simp only[V.data?]at h;injection h with h;subst h;exact q
 | nil=>simp only[V.data?]at h;injection h with h;subst h;exact .nil _ _
 | fn f cs vs hl hr =>
  cases cs with
  | nil =>
   simp only[V.data?]at h;injection h with h;subst h
   have:vs=[]:=zB hl.symm
   subst this;exact .other _ rfl
  | cons=>simp[V.data?]at h
 | _=>simp[V.data?]at h
def V.list?(x:V):Option (List (List D)):=match x.data? with | some (.list es)=>some es | some (.other (.slice _ 0 _))=>some [] | _=>none
theorem mz(r:rel G x v)(h:x.list? = some es):relD G.F (.list es) v:=by
 unfold V.list? at h
 split at h
 ·rename_i es' h'
  injection h with h;subst h
  exact mJ r h'
 ·rename_i A c h'
  injection h with h;subst h
  have:=mJ r h'
  cases this
  exact .nil _ _
 ·cases h
def g7(op:BinOp)(k:IntKind)(a b:Int):Option D :=
 match op with
 | .add=>some (.int k (k.wrap (a+b)))
 | .sub=>some (.int k (k.wrap (a-b)))
 | .mul=>some (.int k (k.wrap (a*b)))
 | .quo=>if b=0 then none else some (.int k (k.wrap (a.tdiv b)))
 | .rem=>if b=0 then none else some (.int k (a.tmod b))
 | .and=>some (.int k (k.wrap (BitVec.ofInt k.bits a &&& BitVec.ofInt k.bits b).toNat))
 | .or=>some (.int k (k.wrap (BitVec.ofInt k.bits a ||| BitVec.ofInt k.bits b).toNat))
 | .xor=>some (.int k (k.wrap (BitVec.ofInt k.bits a ^^^ BitVec.ofInt k.bits b).toNat))
 | .andNot=>some (.int k (k.wrap (BitVec.ofInt k.bits a &&& ~~~BitVec.ofInt k.bits b).toNat))
 | .eql=>some (.bool (a==b))
 | .neq=>some (.bool (a != b))
 | .lss=>some (.bool (decide (a<b)))
 | .leq=>some (.bool (decide (a≤b)))
 | .gtr=>some (.bool (decide (a>b)))
 | .geq=>some (.bool (decide (a≥b)))
 | .shl=>none
 | .shr=>none
def mm(op:BinOp)(k:IntKind)(a b:Int):Option D :=
 if b<0 then none else
 match op with
 | .shl=>some (.int k (k.wrap (a*2 ^ (min b.toNat k.bits))))
 | .shr=>some (.int k (a.fdiv (2 ^ (min b.toNat k.bits))))
 | _=>none
def strBin(op:BinOp)(a b:List UInt8):Option D :=
 match op with
 | .add=>if a.length+b.length≤9223372036854775807 then some (.str (a++b))else none
 | .eql=>some (.bool (a==b))
 | .neq=>some (.bool (!(a==b)))
 | .lss=>some (.bool (Op.bytesLess a b))
 | .leq=>some (.bool (Op.bytesLess a b||a==b))
 | .gtr=>some (.bool (!(Op.bytesLess a b||a==b)))
 | .geq=>some (.bool (!(Op.bytesLess a b)))
 | _=>none
def binD(op:BinOp)(x y:D):Option D :=
 match x,y with
 | .int k a,.int k' b =>
  match op with
  | .shl=>mm .shl k a b
  | .shr=>mm .shr k a b
  | _=>if k=k' then g7 op k a b else none
 | .str a,.str b=>strBin op a b
 | _,_=>none
variable {op:BinOp}{xo yo:Operand}
theorem binD_ok  {F:Nat → Nat → Value → Prop}    {x y z:D} {u:Value} (hx : relD F x v) (hy : relD F y u) (h : binD op x y = some z) (w : World) :
    ∃r,((do eqGuard op t xo yo v u;binOp op t v u):Sem Value).run P w=.ok r w∧relD F z r:=by
  cases hx with
  | int k a =>
    cases hy with
    | int k' b =>
      have hg:(eqGuard op t xo yo (.int k a) (.int k' b)).run P w=.ok () w:=by
        unfold eqGuard;cases op<;>simp
      simp only[binD]at h
      cases op
      case shl =>
        simp only[mm]at h
        split at h
        · cases h
        · rename_i hn;injection h with h;subst h;exact⟨_,by simp[hg,binOp,Op.shift,hn],.int _ _⟩
      case shr =>
        simp only[mm]at h
        split at h
        · cases h
        · rename_i hn;injection h with h;subst h;exact⟨_,by simp[hg,binOp,Op.shift,hn],.int _ _⟩
      all_goals
        simp only at h
        split at h
        · rename_i hk
          subst hk
          simp only[g7]at h
          first
            | (injection h with h;subst h;exact⟨_,by simp only[Sem.run_bind,hg,Result.andThen_ok,binOp,ne_eq,not_true_eq_false,oe,Op.intArith,Op.intBits,Op.intCmp];rfl,by constructor⟩)
            | (split at h
               · cases h
               · rename_i hn;injection h with h;subst h;exact⟨_,by simp[hg,binOp,Op.intDiv,hn];rfl,by constructor⟩)
        · cases h
    | _=>simp[binD]at h
  | str a =>
    cases hy with
    | str b =>
      have hg:(eqGuard op t xo yo (.string ⟨a.toArray⟩) (.string ⟨b.toArray⟩)).run P w=.ok () w:=by
        unfold eqGuard;cases op<;>simp
      have hl:∀l:List UInt8,(⟨l.toArray⟩:ByteArray).toList=l:=λl=>by rw[ByteArray.toList_eq]
      simp only[binD,strBin]at h
      cases op
      case add =>
        simp only at h
        split at h
        · rename_i hle
          injection h with h;subst h
          refine⟨_,?_,.str _⟩
          have hs:¬(((⟨a.toArray⟩:ByteArray).size+(⟨b.toArray⟩:ByteArray).size:Nat):Int)>IntKind.i64.max:=by
            simp only[ByteArray.size,zF];simp[IntKind.max,IntKind.bits];omega
          have hap:(⟨a.toArray⟩:ByteArray)++⟨b.toArray⟩=⟨(a++b).toArray⟩:=by
            apply ByteArray.ext;simp
          simp only[Sem.run_bind,hg,Result.andThen_ok,binOp,Op.stringOp,hs,oe,hap]
          rfl
        · cases h
      all_goals
        first
          | (simp only at h;cases h;done)
          | (injection h with h;subst h;exact⟨_,by simp only[Sem.run_bind,hg,Result.andThen_ok,binOp,Op.stringOp,hl];rfl,by constructor⟩)
    | _=>simp[binD]at h
  | _=>simp[binD]at h
def aggT(P:Program)(t:TypeId):Option Bool :=
 match P.underlying t with
 | some (.struct _)=>some true
 | some (.array _ _)=>some true
 | some _=>some false
 | none=>none
def bh(P:Program)(t:TypeId):Option Nat:=(P.info? t).map (·.size)
theorem bB(h:bh P t=some n)(w:World):(sizeOf t).run P w=.ok n w:=by
 unfold bh at h
 cases hi:P.info? t with
 | none=>rw[hi]at h;cases h
 | some i=>rw[hi]at h;simp at h;simp[sizeOf,typeInfo,hi,h,program,Sem.run]
theorem ny{b:Bool}(h:aggT P t=some b)(w:World):(isAgg t).run P w=.ok b w:=by
 unfold aggT at h
 cases hu:P.underlying t with
 | none=>rw[hu]at h;cases h
 | some d =>
  rw[hu]at h
  simp only[isAgg,Sem.run_bind,run_underlying hu,Result.andThen_ok]
  cases d<;>simp_all
def gV(P:Program)(t:TypeId)(cs:List V)(off:Nat):Option V :=
 match aggT P t with
 | some true=>match bh P t with
  | some n=>if off+n≤cs.length then some (.agg ((cs.drop off).take n))else none
  | none=>none
 | some false=>cs[off]?
 | none=>none
theorem jF(r:rels G cs vs)(off n:Nat):rels G ((cs.drop off).take n) ((vs.drop off).take n):=by
 refine⟨by simp[r.1],λi x v h1 h2=>?_⟩
 rw[List.getElem?_take]at h1 h2
 split at h1
 ·rename_i hi
  rw[od hi]at h2
  rw[List.getElem?_drop]at h1 h2
  exact r.2 _ x v h1 h2
 ·cases h1
variable {off:Nat}
theorem partV_ok(h:gV P t cs off=some x)(r:rels G cs vs)(w:World):∃v,(part t ⟨vs⟩ off).run P w=.ok v w∧rel G x v:=by
 unfold gV at h
 cases ha:aggT P t with
 | none=>rw[ha]at h;cases h
 | some b =>
  rw[ha]at h
  cases b with
  | true =>
   cases hs:bh P t with
   | none=>rw[hs]at h;cases h
   | some n =>
    rw[hs]at h
    simp only at h
    split at h
    ·rename_i hle
     injection h with h;subst h
     refine⟨.agg ⟨(vs.drop off).take n⟩,?_,?_⟩
     ·simp only[part,Sem.run_bind,ny ha,Result.andThen_ok,og,bB hs,Sem.run_pure]
      congr 2
      apply Array.ext'
      simp
     ·have:=jF r off n
      exact .agg _ _ this.1 this.2
    ·cases h
  | false =>
   simp only at h
   have hlt:off<cs.length:=by
    rcases zA off cs.length with q | q
    ·exact q
    ·rw[List.getElem?_eq_none q]at h;cases h
   have hv:vs[off]? = some (vs[off]'(r.1▸hlt)):=List.getElem?_eq_getElem _
   refine⟨vs[off]'(r.1▸hlt),?_,r.2 off x _ h hv⟩
   simp[part,ny ha,r.1▸hlt]
theorem kN        {o:Nat}  (h : gV P t cs off = some x) (r : rels G cs vs) (hc : ∀ (j : Nat) v, vs[j]? = some v → w.cell? ⟨b, o + j, none⟩ = some v) :
    ∃v,(loadVar t ⟨b,o+off,none⟩).run P w=.ok v w∧rel G x v:=by
  unfold gV at h
  cases ha:aggT P t with
  | none=>rw[ha]at h;cases h
  | some q =>
    rw[ha]at h
    cases q with
    | true =>
      cases hs:bh P t with
      | none=>rw[hs]at h;cases h
      | some n =>
        rw[hs]at h
        simp only at h
        split at h
        · rename_i hle
          injection h with h;subst h
          refine⟨.agg ⟨(vs.drop off).take n⟩,?_,?_⟩
          · have hl:((vs.drop off).take n).length=n:=by simp;have:=r.1;omega
            have:=run_loadCells_list (P:=P) w ⟨b,o+off,none⟩ ((vs.drop off).take n) (λj v hj=>by
              rw[Addr.add_lit]
              rw[List.getElem?_take]at hj
              split at hj
              · rw[List.getElem?_drop]at hj
                have:=hc _ _ hj
                rwa [←zJ]at this
              · cases hj)
            rw[hl]at this
            simp only[loadVar,Sem.run_bind,ny ha,Result.andThen_ok,og,bB hs,this,Sem.run_pure]
          · have:=jF r off n
            exact .agg _ _ this.1 this.2
        · cases h
    | false =>
      simp only at h
      have hlt:off<cs.length:=by
        rcases zA off cs.length with q | q
        · exact q
        · rw[List.getElem?_eq_none q]at h;cases h
      have hv:vs[off]? = some (vs[off]'(r.1▸hlt)):=List.getElem?_eq_getElem _
      refine⟨vs[off]'(r.1▸hlt),?_,r.2 off x _ h hv⟩
      simp[loadVar,ny ha,hc _ _ hv]
def fP(cs:List D):List V:=cs.map .d
theorem mD{cs:List D}{u:Nat→Value}(hr:∀(j:Nat) (x:D),cs[j]? = some x→relD G.F x (u j)):rels G (fP cs) ((List.range cs.length).map u):=by
 refine⟨by simp[fP],λi x v h1 h2=>?_⟩
 unfold fP at h1
 rw[List.getElem?_map]at h1
 cases hq:cs[i]? with
 | none=>rw[hq]at h1;cases h1
 | some y =>
  rw[hq]at h1;simp at h1;subst h1
  have hlt:i<cs.length:=by
   rcases zA i cs.length with q | q
   ·exact q
   ·rw[List.getElem?_eq_none q]at hq;cases hq
  rw[List.getElem?_map,List.getElem?_range hlt]at h2
  simp at h2;subst h2
  exact .d (hr i y hq)
def aM(P:Program)(t:TypeId)(f:Nat):Option (Nat×TypeId):=match P.underlying t with | some (.struct fs)=>(fs[f]?).map λfd=>(fd.offset,fd.type) | _=>none
variable {f:Nat}{ty:TypeId}
theorem mG(h:aM P t f=some (off,ty)):∃fs fd,P.underlying t=some (.struct fs)∧fs[f]? = some fd∧fd.offset=off∧fd.type=ty:=by
 unfold aM at h
 cases hu:P.underlying t with
 | none=>rw[hu]at h;cases h
 | some d =>
  rw[hu]at h
  cases d with
  | struct fs =>
   simp only at h
   cases hf:fs[f]? with
   | none=>rw[hf]at h;cases h
   | some fd=>rw[hf]at h;simp at h;exact⟨fs,fd,rfl,hf,h.1,h.2⟩
  | _=>simp at h
def dE(P:Program)(t:TypeId)(x:V)(f:Nat):Option V :=
 match aM P t f with
 | none=>none
 | some (fo,ty) =>
  match bh P ty with
  | none=>none
  | some n=>if n=0 then none else
   match x with
   | .ptr k off=>some (.ptr k (off+fo))
   | .iptr cs off=>some (.iptr cs (off+fo))
   | _=>none
variable {y:V}
theorem kU(r:rel G x v)(h:dE P t x f=some y)(w:World):∃u,(Instr.fieldAt t v f).run P w=.ok u w∧rel G y u:=by
 unfold dE at h
 split at h
 ·cases h
 ·rename_i fo ty hf
  obtain⟨fs,fd,hu,hfd,h1,h2⟩:=mG hf
  subst h1;subst h2
  cases hs:bh P fd.type with
  | none=>rw[hs]at h;cases h
  | some n =>
   rw[hs]at h
   simp only at h
   split at h
   ·cases h
   ·rename_i hn
    cases r with
    | ptr k off b q =>
     simp only at h;injection h with h;subst h
     refine⟨_,?_,.ptr k (off+fd.offset) b q⟩
     simp[Instr.fieldAt,run_underlying hu,hfd,Instr.sureAddr,fieldPlace,bB hs,hn,Addr.add_lit]
    | iptr cs off b o u hF hr =>
     simp only at h;injection h with h;subst h
     refine⟨_,?_,.iptr cs (off+fd.offset) b o u hF hr⟩
     simp[Instr.fieldAt,run_underlying hu,hfd,Instr.sureAddr,fieldPlace,bB hs,hn,Addr.add_lit,zJ]
    | _=>simp at h
def fieldV(P:Program)(t:TypeId)(x:V)(f:Nat):Option V :=
 match aM P t f,x with
 | some (fo,ty),.agg cs=>gV P ty cs fo
 | _,_=>none
theorem fieldV_ok(r:rel G x v)(h:fieldV P t x f=some y)(w:World):∃u,(Instr.field t v f).run P w=.ok u w∧rel G y u:=by
 unfold fieldV at h
 split at h
 ·rename_i fo ty cs hf
  obtain⟨fs,fd,hu,hfd,h1,h2⟩:=mG hf
  subst h1;subst h2
  cases r with
  | agg _ vs hl hr =>
   obtain⟨u,h1,h2⟩:=partV_ok h ⟨hl,hr⟩ w
   exact⟨u,by simp[Instr.field,run_underlying hu,hfd,asAgg,h1],h2⟩
 ·cases h
def extractV(x:V)(i:Nat):Option V:=match x with | .tuple vs=>vs[i]? | _=>none
theorem extractV_ok{i:Nat}(r:rel G x v)(h:extractV x i=some y)(w:World):∃u,(Instr.extract v i).run P w=.ok u w∧rel G y u:=by
 unfold extractV at h
 cases r with
 | tuple cs vs hl hr =>
  simp only at h
  have hlt:i<cs.length:=by
   rcases zA i cs.length with q | q
   ·exact q
   ·rw[List.getElem?_eq_none q]at h;cases h
  have hv:vs[i]? = some (vs[i]'(hl▸hlt)):=List.getElem?_eq_getElem _
  exact⟨_,by simp[Instr.extract,hl▸hlt],hr i y _ h hv⟩
 | _=>simp at h
def globA(x:V)(k:Nat):Option V:=match x with
 | .d (.other (.pointer (some ⟨b,off,none⟩)))=>some (.d (.other (.pointer (some ⟨b,off+k,none⟩))))
 | _=>none
def km(P:Program)(t:TypeId)(x i:V):Option V :=
 match i with
 | .d (.int _ n) =>
  if n<0 then none else
  match P.underlying t with
  | some (.slice e) =>
   match bh P e with
   | none=>none
   | some sz =>
    match x with
    | .sl k off len _=>if n.toNat<len then some (.ptr k (off+n.toNat*sz))else none
    | _=>match x.list? with
     | some es=>match es[n.toNat]? with
      | some c=>if c.length=sz then some (.iptr c 0)else none
      | none=>none
     | none=>none
  | some (.array len e) =>
   match bh P e with
   | none=>none
   | some sz=>if n.toNat<len then
     match x with
     | .ptr k off=>some (.ptr k (off+n.toNat*sz))
     | .iptr cs off=>some (.iptr cs (off+n.toNat*sz))
     | x=>globA x (n.toNat*sz)
    else none
  | _=>none
 | _=>none
theorem mB(h:relD F (.list es) v):∃A c,v=.slice A es.length c:=by
 cases h with
 | nil A c=>exact⟨A,c,rfl⟩
 | list _ b off c sz u hne hcap hsz hF hr=>exact⟨_,c,rfl⟩
theorem ak{l:List α}{i:Nat}{x:α}(h:l[i]? = some x):i<l.length:=by
 rcases zA i l.length with q | q
 ·exact q
 ·rw[List.getElem?_eq_none q]at h;cases h
theorem indexAddr_list{n:Int}{k:IntKind}{c:List D}(hv:relD G.F (.list es) v)(hu:P.underlying t=some (.slice e))(hs:bh P e=some sz)(hn:¬n<0)(hc:es[n.toNat]? = some c)(hl:c.length=sz)(w:World) :
  ∃u,(Instr.indexAt t v (.int k n)).run P w=.ok u w∧rel G (.iptr c 0) u:=by
 cases hv with
 | nil A c'=>simp at hc
 | list _ b off c' sz' u hne hcap hsz hF hr =>
  have hlt:=ak hc
  have e1:=hsz _ _ hc
  have e2:sz'=sz:=by omega
  subst e2
  refine⟨.pointer (some ⟨b,off+n.toNat*sz'+0,none⟩),?_,.iptr c 0 b (off+n.toNat*sz') (λj=>u n.toNat j) (λj x hx=>hF _ j c x hc hx) (λj x hx=>hr _ j c x hc hx)⟩
  have h1:(0:Int)≤n:=by omega
  have h2:n<(es.length:Int):=by omega
  simp[Instr.indexAt,asIntOf,run_underlying hu,h1,h2,bB hs,Addr.add_lit]
variable {vi:Value}
theorem indexAddrV_ok{i:V}(r:rel G x v)(ri:rel G i vi)(h:km P t x i=some y)(w:World):∃u,(Instr.indexAt t v vi).run P w=.ok u w∧rel G y u:=by
 unfold km at h
 split at h
 ·rename_i k n
  split at h
  ·cases h
  ·rename_i hn
   have hvi:vi=.int k n:=by cases ri with | d q=>cases q;rfl
   subst hvi
   have hn0:(0:Int)≤n:=by omega
   split at h
   ·rename_i e hu
    cases hs:bh P e with
    | none=>rw[hs]at h;cases h
    | some sz =>
     rw[hs]at h
     simp only at h
     split at h
     ·rename_i k' off len cap
      split at h
      ·rename_i hlt
       injection h with h;subst h
       cases r with
       | sl _ _ _ _ b q =>
        have h2:n<(len:Int):=by omega
        exact⟨_,by simp[Instr.indexAt,asIntOf,run_underlying hu,hn0,h2,bB hs,Addr.add_lit],.ptr _ _ b q⟩
      ·cases h
     ·split at h
      ·rename_i es hes
       split at h
       ·rename_i c hc
        split at h
        ·rename_i hl
         injection h with h;subst h
         exact indexAddr_list (mz r hes) hu hs hn hc hl w
        ·cases h
       ·cases h
      ·cases h
   ·rename_i len e hu
    cases hs:bh P e with
    | none=>rw[hs]at h;cases h
    | some sz =>
     rw[hs]at h
     simp only at h
     split at h
     ·rename_i hlt
      have h2:n<(len:Int):=by omega
      cases r with
      | ptr k' off b q =>
       simp only at h;injection h with h;subst h
       exact⟨_,by simp[Instr.indexAt,asIntOf,run_underlying hu,Instr.sureAddr,hn0,h2,bB hs,Addr.add_lit],.ptr _ _ b q⟩
      | iptr cs off b o u hF hr =>
       simp only at h;injection h with h;subst h
       exact⟨.pointer (some ⟨b,o+(off+n.toNat*sz),none⟩),by simp[Instr.indexAt,asIntOf,run_underlying hu,Instr.sureAddr,hn0,h2,bB hs,Addr.add_lit,zJ],.iptr cs (off+n.toNat*sz) b o u hF hr⟩
      | d q =>
       cases q with
       | other v h1 =>
        have hg:globA (.d (.other v)) (n.toNat*sz)=some y:=h
        unfold globA at hg
        split at hg
        ·rename_i b off he
         injection he with he;injection he with he;subst he
         injection hg with hg;subst hg
         exact⟨_,by simp[Instr.indexAt,asIntOf,run_underlying hu,Instr.sureAddr,hn0,h2,bB hs,Addr.add_lit],.d (.other _ rfl)⟩
        ·cases hg
       | _=>simp[globA]at h
      | _=>simp[globA]at h
     ·cases h
   ·cases h
 ·cases h
def indexV(P:Program)(t:TypeId)(x i:V):Option V :=
 match i with
 | .d (.int _ n) =>
  if n<0 then none else
  match x with
  | .agg cs=>match P.underlying t with
   | some (.array len e)=>match bh P e with
    | some sz=>if n.toNat<len then gV P e cs (n.toNat*sz)else none
    | none=>none
   | _=>none
  | .d (.str s)=>match P.underlying t with
   | some .string=>match s[n.toNat]? with
    | some b=>some (.d (.int .u8 b.toNat))
    | none=>none
   | _=>none
  | _=>none
 | _=>none
theorem indexV_ok{i:V}(r:rel G x v)(ri:rel G i vi)(h:indexV P t x i=some y)(w:World):∃u,(Instr.index t v vi).run P w=.ok u w∧rel G y u:=by
 unfold indexV at h
 split at h
 ·rename_i k n
  split at h
  ·cases h
  ·rename_i hn
   have hvi:vi=.int k n:=by cases ri with | d q=>cases q;rfl
   subst hvi
   have hn0:(0:Int)≤n:=by omega
   split at h
   ·rename_i cs
    split at h
    ·rename_i len e hu
     cases hs:bh P e with
     | none=>rw[hs]at h;cases h
     | some sz =>
      rw[hs]at h
      simp only at h
      split at h
      ·rename_i hlt
       have h2:n<(len:Int):=by omega
       cases r with
       | agg _ vs hl hr =>
        obtain⟨u,q1,q2⟩:=partV_ok h ⟨hl,hr⟩ w
        exact⟨u,by simp[Instr.index,asIntOf,run_underlying hu,hn0,h2,bB hs,q1],q2⟩
      ·cases h
    ·cases h
   ·rename_i s
    split at h
    ·rename_i hu
     split at h
     ·rename_i b hb
      injection h with h;subst h
      cases r with
      | d q =>
       cases q
       have hb':(⟨s.toArray⟩:ByteArray)[n.toNat]? = some b:=by
        have hlt:=ak hb
        have:n.toNat<(⟨s.toArray⟩:ByteArray).size:=by simpa [ByteArray.size] using hlt
        rw[getElem?_pos (⟨s.toArray⟩:ByteArray) n.toNat this]
        rw[List.getElem?_eq_getElem hlt]at hb
        injection hb with hb
        rw[←hb]
        rfl
       exact⟨_,by simp[Instr.index,asIntOf,run_underlying hu,hn0,hb'],.d (.int _ _)⟩
     ·cases h
    ·cases h
   ·cases h
 ·cases h
def lenV(P:Program)(t:TypeId)(x:V):Option V :=
 match P.underlying t with
 | some .string=>match x with | .d (.str s)=>some (.d (.int .i64 s.length)) | _=>none
 | some (.slice _)=>match x with
  | .sl _ _ len _=>some (.d (.int .i64 len))
  | _=>match x.list? with | some es=>some (.d (.int .i64 es.length)) | none=>none
 | some (.array n _)=>some (.d (.int .i64 n))
 | _=>none
theorem lenV_ok(r:rel G x v)(h:lenV P t x=some y)(w:World):∃u,(Builtin.len_ #[t] ty #[v]).run P w=.ok u w∧rel G y u:=by
 unfold lenV at h
 split at h
 ·rename_i hu
  split at h
  ·rename_i s
   injection h with h;subst h
   cases r with
   | d q =>
    cases q
    have hz:(⟨s.toArray⟩:ByteArray).size=s.length:=rfl
    exact⟨_,by simp[Builtin.len_,run_underlying hu,goInt,hz],.d (.int _ _)⟩
  ·cases h
 ·rename_i e hu
  split at h
  ·injection h with h;subst h
   cases r with
   | sl _ _ _ _ b q=>exact⟨_,by simp[Builtin.len_,run_underlying hu,goInt],.d (.int _ _)⟩
  ·split at h
   ·rename_i es hes
    injection h with h;subst h
    obtain⟨A,c,rfl⟩:=mB (mz r hes)
    exact⟨_,by simp[Builtin.len_,run_underlying hu,goInt],.d (.int _ _)⟩
   ·cases h
 ·rename_i n e hu
  injection h with h;subst h
  exact⟨_,by simp[Builtin.len_,run_underlying hu,goInt],.d (.int _ _)⟩
 ·cases h
def convV(P:Program)(dst:TypeId)(x:V):Option V :=
 match x with
 | .d (.int _ n)=>match P.underlying dst with | some (.int k)=>some (.d (.int k (k.wrap n))) | _=>none
 | .d (.str s)=>match P.underlying dst with | some .string=>some (.d (.str s)) | _=>none
 | _=>none
theorem convV_ok{src dst:TypeId}(r:rel G x v)(hsrc:(P.underlying src).isSome=true)(h:convV P dst x=some y)(w:World):∃u,(convert src dst v).run P w=.ok u w∧rel G y u:=by
 obtain⟨ds,hs⟩:=Option.isSome_iff_exists.1 hsrc
 unfold convV at h
 split at h
 ·rename_i k0 n
  split at h
  ·rename_i k hu
   injection h with h;subst h
   cases r with
   | d q =>
    cases q
    exact⟨_,by simp[convert,run_underlying hs,run_underlying hu,Conv.intToInt],.d (.int _ _)⟩
  ·cases h
 ·rename_i s
  split at h
  ·rename_i hu
   injection h with h;subst h
   cases r with
   | d q =>
    cases q
    exact⟨_,by simp[convert,run_underlying hs,run_underlying hu],.d (.str _)⟩
  ·cases h
 ·cases h
def unV(op:UnOp)(x:V):Option V :=
 match op,x with
 | .neg,.d (.int k n)=>some (.d (.int k (k.wrap (0-n))))
 | .not,.d (.bool b)=>some (.d (.bool (!b)))
 | _,_=>none
theorem unV_ok{op:UnOp}(r:rel G x v)(h:unV op x=some y)(w:World):∃u,(Op.unary op v).run P w=.ok u w∧rel G y u:=by
 unfold unV at h
 split at h
 ·injection h with h;subst h
  cases r with
  | d q=>cases q;exact⟨_,by simp only[Op.unary,Op.intArith,Sem.run_pure],.d (.int _ _)⟩
 ·injection h with h;subst h
  cases r with
  | d q=>cases q;exact⟨_,by simp only[Op.unary,Sem.run_pure],.d (.bool _)⟩
 ·cases h
def jp(cs:List V)(off:Nat)(xs:List V):List V:=cs.take off++xs++cs.drop (off+xs.length)
def jL(place:Nat→Option (Nat×Nat))(cells:List V):List (Nat×V)→Option (List V)
 | []=>some cells
 | (i,x)::rest =>
  match place i,x.cells? with
  | some (off,size),some cs=>if cs.length=size∧off+cs.length≤cells.length then jL place (jp cells off cs) rest else none
  | _,_=>none
theorem fold_set(vs:List Value)(xs:List Value)(off:Nat)(h:off+xs.length≤vs.length) :
  (xs.zipIdx.foldl (λ(cs:Array Value) (p:Value×Nat)=>cs.setIfInBounds (off+p.2) p.1) ⟨vs⟩)=(⟨vs.take off++xs++vs.drop (off+xs.length)⟩:Array Value):=by
 have key:∀(xs:List Value) (k:Nat) (vs:List Value),off+k+xs.length≤vs.length→((xs.zipIdx k).foldl (λ(cs:Array Value) (p:Value×Nat)=>cs.setIfInBounds (off+p.2) p.1) ⟨vs⟩)=(⟨vs.take (off+k)++xs++vs.drop (off+k+xs.length)⟩:Array Value):=by
  intro xs
  induction xs with
  | nil=>intro k vs _;simp
  | cons x xs ih =>
   intro k vs hl
   simp only[List.zipIdx_cons,List.foldl_cons]
   simp only[zN]at hl
   rw[show (⟨vs⟩:Array Value).setIfInBounds (off+k) x=⟨vs.set (off+k) x⟩ by simp]
   rw[ih (k+1) (vs.set (off+k) x) (by simp;omega)]
   congr 1
   rw[show off+(k+1)=(off+k)+1 by omega]
   generalize off+k=p at *
   have hp:p<vs.length:=by omega
   have e1:(vs.set p x).take (p+1)=vs.take p++[x]:=by
    rw[List.take_succ_eq_append_getElem (by simpa using hp),List.take_set_of_le (by omega)]
    simp
   have e2:(vs.set p x).drop (p+1+xs.length)=vs.drop (p+(x::xs).length):=by
    rw[List.drop_set_of_lt (by omega)]
    simp only[zN]
    congr 1
    omega
   rw[e1,e2]
   simp
 have:=key xs 0 vs (by omega)
 simpa using this
theorem fillV_ok{G:Cx}{place:Nat→Option (Nat×Nat)}:∀(parts:List (Nat×V)) (us:List (Nat×Value)) (cells:List V) (vs:List Value) (out:List V),jL place cells parts=some out→rels G cells vs →
  parts.length=us.length→(∀(i:Nat) (p:Nat×V) (q:Nat×Value),parts[i]? = some p→us[i]? = some q→p.1=q.1∧rel G p.2 q.2)→∃ws,Instr.fill place ⟨vs⟩ us=some ⟨ws⟩∧rels G out ws
 | [],us,cells,vs,out,h,r,hl,_=>by
  have:us=[]:=zB hl.symm
  subst this
  simp only[jL]at h;injection h with h;subst h
  exact⟨vs,rfl,r⟩
 | (i,x)::rest,us,cells,vs,out,h,r,hl,hp=>by
  cases us with
  | nil=>simp at hl
  | cons q us =>
   obtain⟨j,v⟩:=q
   obtain⟨rfl,hx⟩:=hp 0 (i,x) (j,v) rfl rfl
   simp only at hx
   unfold jL at h
   split at h
   ·rename_i off size cs hpl hcs
    split at h
    ·rename_i hc
     have hr:=eB hx hcs
     have hsz:v.cells.size=cs.length:=by rw[hr.1];simp
     have hr':rels G (jp cells off cs) (vs.take off++v.cells.toList++vs.drop (off+v.cells.size)):=by
      refine⟨by simp[jp,r.1,hsz],λm y u h1 h2=>?_⟩
      unfold jp at h1
      have hlen:=r.1
      have hoff:(cells.take off).length=(vs.take off).length:=by simp[hlen]
      rcases zA m (cells.take off++cs).length with q | q
      ·rw[List.getElem?_append_left q]at h1
       rw[List.getElem?_append_left (by simp only[zE]at q ⊢;simp only[Array.length_toList];omega)]at h2
       rcases zA m (cells.take off).length with q2 | q2
       ·rw[List.getElem?_append_left q2]at h1
        rw[List.getElem?_append_left (hoff▸q2)]at h2
        rw[List.getElem?_take]at h1 h2
        split at h1
        ·rename_i hm;rw[od hm]at h2;exact r.2 m y u h1 h2
        ·cases h1
       ·rw[List.getElem?_append_right q2]at h1
        rw[List.getElem?_append_right (hoff▸q2),←hoff]at h2
        exact hr.2 _ y u h1 h2
      ·rw[List.getElem?_append_right q]at h1
       rw[List.getElem?_append_right (by simp only[zE]at q ⊢;simp only[Array.length_toList];omega)]at h2
       rw[List.getElem?_drop]at h1 h2
       refine r.2 _ y u h1 ?_
       rw[←h2]
       congr 1
       simp only[zE,Array.length_toList]
       omega
     obtain⟨ws,w1,w2⟩:=fillV_ok rest us _ _ out h hr' (by simpa using hl) (λi p q h1 h2=>hp (i+1) p q (by simpa using h1) (by simpa using h2))
     refine⟨ws,?_,w2⟩
     have hno:¬(v.cells.size≠size||decide (off+v.cells.size>(⟨vs⟩:Array Value).size))=true:=by
      simp only[zF,Bool.or_eq_true,oo]
      have:=r.1
      rintro (q | q)
      ·simp at q;omega
      ·omega
     simp only[Instr.fill,hpl]
     rw[oc hno]
     have hz:v.cells.zipIdx.foldl (λcs x=>cs.setIfInBounds (off+x.2) x.1) (⟨vs⟩:Array Value)=⟨vs.take off++v.cells.toList++vs.drop (off+v.cells.size)⟩:=by
      have:=fold_set vs v.cells.toList off (by simp only[Array.length_toList];have:=r.1;omega)
      rw[←Array.foldl_toList,Array.toList_zipIdx]
      simpa using this
     simp only[hz]
     exact w1
    ·cases h
   ·cases h
def bnd(d:Nat):Option V→Option Nat
 | none=>some d
 | some (.d (.int _ n))=>if n<0 then none else some n.toNat
 | _=>none
theorem bnd_some(d d':Nat)(x:V):bnd d (some x)=bnd d' (some x):=by
 cases x<;>first | rfl | (rename_i q;cases q<;>rfl)
def relO(G:Cx):Option V→Option Value→Prop
 | none,none=>True
 | some x,some v=>rel G x v
 | _,_=>False
theorem fB{d y:Nat}(r:rel G x v)(h:bnd d (some x)=some n)(hy:n≤y)(code:BoundsCode)(w:World):(Instr.sliceBound v y code).run P w=.ok n w:=by
 unfold bnd at h
 split at h
 ·cases ‹_=none›
 ·rename_i k i hx
  injection hx with hx;subst hx
  split at h
  ·cases h
  ·rename_i hn
   injection h with h
   cases r with
   | d q =>
    cases q
    have h1:(0:Int)≤i:=by omega
    have h2:i≤(y:Int):=by omega
    simp[Instr.sliceBound,asIntOf,h1,h2,h]
 ·cases h
variable {hi lo mx:Option V}{vh vl vm:Option Value}
theorem jS{l h len:Nat}(rl:relO G lo vl)(rh:relO G hi vh)(rm:relO G mx vm)
  (hm:bnd cap mx=some m) (hh:bnd len hi=some h) (hl:bnd 0 lo=some l) (h1:m≤cap) (h2:h≤m) (h3:l≤h) (hmx:mx.isSome=true→hi.isSome=true) (isS:Bool) (w:World) :
  (Instr.sliceBounds isS len cap vl vh vm).run P w=.ok (l,h,m) w:=by
 cases mx with
 | none =>
  cases vm with
  | some _=>exact rm.elim
  | none =>
   have hm':cap=m:=by simpa [bnd] using hm
   subst hm'
   cases hi with
   | none =>
    cases vh with
    | some _=>exact rh.elim
    | none =>
     have hh':len=h:=by simpa [bnd] using hh
     subst hh'
     cases lo with
     | none =>
      cases vl with
      | some _=>exact rl.elim
      | none =>
       have hl':0=l:=by simpa [bnd] using hl
       subst hl'
       simp[Instr.sliceBounds]
     | some x =>
      cases vl with
      | none=>exact rl.elim
      | some v=>simp[Instr.sliceBounds,fB rl hl h3]
   | some y =>
    cases vh with
    | none=>exact rh.elim
    | some vy =>
     cases lo with
     | none =>
      cases vl with
      | some _=>exact rl.elim
      | none =>
       have hl':0=l:=by simpa [bnd] using hl
       subst hl'
       simp[Instr.sliceBounds,fB rh hh h2]
     | some x =>
      cases vl with
      | none=>exact rl.elim
      | some v=>simp[Instr.sliceBounds,fB rl hl h3,fB rh hh h2]
 | some z =>
  cases vm with
  | none=>exact rm.elim
  | some vz =>
   cases hi with
   | none=>simp at hmx
   | some y =>
    cases vh with
    | none=>exact rh.elim
    | some vy =>
     cases lo with
     | none =>
      cases vl with
      | some _=>exact rl.elim
      | none =>
       have hl':0=l:=by simpa [bnd] using hl
       subst hl'
       simp[Instr.sliceBounds,fB rm hm h1,fB rh hh h2]
     | some x =>
      cases vl with
      | none=>exact rl.elim
      | some v=>simp[Instr.sliceBounds,fB rm hm h1,fB rl hl h3,fB rh hh h2]
def sliceV(P:Program)(t:TypeId)(x:V)(lo hi mx:Option V):Option V :=
 match P.underlying t with
 | some .string=>match x with
  | .d (.str s)=>if mx.isSome then none else match bnd 0 lo,bnd s.length hi with
   | some l,some h=>if l≤h∧h≤s.length then some (.d (.str ((s.drop l).take (h-l))))else none
   | _,_=>none
  | _=>none
 | some (.slice e)=>match bh P e with
  | none=>none
  | some sz=>match x with
   | .sl k off len cap=>match bnd 0 lo,bnd len hi,bnd cap mx with
    | some l,some h,some m=>if l≤h∧h≤m∧m≤cap∧(mx.isSome=true→hi.isSome=true)then some (.sl k (if m=l then off else off+l*sz) (h-l) (m-l))else none
    | _,_,_=>none
   | _=>match x.list? with
    | some es=>match mx with
     | none=>match bnd 0 lo,bnd es.length hi with
      | some l,some h=>if l≤h∧h≤es.length∧es.all (·.length==sz)then some (.d (.list ((es.drop l).take (h-l))))else none
      | _,_=>none
     | some _=>match bnd 0 lo,bnd es.length hi,bnd 0 mx with
      | some l,some h,some m=>if l≤h∧h=m∧m≤es.length∧hi.isSome=true∧es.all (·.length==sz)then some (.full ((es.drop l).take (h-l)))else none
      | _,_,_=>none
    | none=>none
 | some (.array n e)=>match bh P e with
  | none=>none
  | some sz=>match x with
   | .ptr k off=>match bnd 0 lo,bnd n hi,bnd n mx with
    | some l,some h,some m=>if l≤h∧h≤m∧m≤n∧(mx.isSome=true→hi.isSome=true)then some (.sl k (if m=l then off else off+l*sz) (h-l) (m-l))else none
    | _,_,_=>none
   | _=>none
 | _=>none
theorem extract_str(s:List UInt8)(l h:Nat):(⟨s.toArray⟩:ByteArray).extract l h=⟨((s.drop l).take (h-l)).toArray⟩:=by
 apply ByteArray.ext
 simp
theorem sub_list{A:Option Addr}{c l h:Nat}(r:relD F (.list es) (.slice A n c))(hsz:es.all (·.length==sz)=true)(h1:l≤h)(h2:h≤es.length)(h3:h≤m) :
  relD F (.list ((es.drop l).take (h-l))) (.slice (if m=l then A else A.map (·.add (l*sz))) (h-l) (m-l)):=by
 have hlen:((es.drop l).take (h-l)).length=h-l:=by simp;omega
 by_cases hz:h=l
 ·subst hz
  have:(es.drop h).take (h-h)=[]:=by simp
  rw[this,Nat.sub_self]
  exact .nil _ _
 ·rw[oc (by omega)]
  cases r with
  | nil A c=>simp at h2;omega
  | list _ b off c sz' u hne hcap hs hF hr =>
   have e0:sz'=sz:=by
    have q:=List.all_eq_true.1 hsz es[0] (List.getElem_mem _)
    have q2:=hs 0 es[0] (List.getElem?_eq_getElem hne)
    simp at q
    omega
   subst e0
   have key:=relD.list (F:=F) ((es.drop l).take (h-l)) b (off+l*sz') (m-l) sz' (λi j=>u (l+i) j) (by omega) (by omega)
    (λi e he=>by
     rw[List.getElem?_take]at he
     split at he
     ·rw[List.getElem?_drop]at he;exact hs _ _ he
     ·cases he)
    (λi j e x he hx=>by
     rw[List.getElem?_take]at he
     split at he
     ·rw[List.getElem?_drop]at he
      have:=hF _ j e x he hx
      rw[zG]at this
      have e3:off+l*sz'+i*sz'+j=off+(l*sz'+i*sz')+j:=by omega
      rw[e3];exact this
     ·cases he)
    (λi j e x he hx=>by
     rw[List.getElem?_take]at he
     split at he
     ·rw[List.getElem?_drop]at he;exact hr _ j e x he hx
     ·cases he)
   rw[hlen]at key
   simp only[Option.map_some,Addr.add_lit]
   exact key
theorem sliceV_ok(r:rel G x v)(rl:relO G lo vl)(rh:relO G hi vh)(rm:relO G mx vm)(h:sliceV P t x lo hi mx=some y)(w:World) :
  ∃u,(Instr.sliceAt t v vl vh vm).run P w=.ok u w∧rel G y u:=by
 unfold sliceV at h
 split at h
 ·rename_i hu
  split at h
  ·rename_i s
   split at h
   ·cases h
   ·rename_i hmx
    split at h
    ·rename_i l hh hl hhi
     split at h
     ·rename_i hc
      injection h with h;subst h
      cases mx with
      | some _=>simp at hmx
      | none =>
       cases vm with
       | some _=>exact rm.elim
       | none =>
        cases r with
        | d q =>
         cases q
         have hz:(⟨s.toArray⟩:ByteArray).size=s.length:=rfl
         have hb:=jS (P:=P) (cap:=s.length) (m:=s.length) (mx:=none) (vm:=none) rl rh trivial rfl hhi hl (zH _) hc.2 hc.1 (by simp) false w
         refine⟨.string ⟨((s.drop l).take (hh-l)).toArray⟩,?_,.d (.str _)⟩
         simp only[Instr.sliceAt,Instr.slice,Sem.run_bind,run_underlying hu,Result.andThen_ok,Option.isSome_none,Bool.false_eq_true,oe,hz,hb,Sem.run_pure,extract_str]
     ·cases h
    ·cases h
  ·cases h
 ·rename_i e hu
  cases hs:bh P e with
  | none=>rw[hs]at h;cases h
  | some sz =>
   rw[hs]at h
   simp only at h
   split at h
   ·rename_i k off len cap
    split at h
    ·rename_i l hh m hl hhi hm
     split at h
     ·rename_i hc
      injection h with h;subst h
      cases r with
      | sl _ _ _ _ b q =>
       have hb:=jS (P:=P) rl rh rm hm hhi hl hc.2.2.1 hc.2.1 hc.1 hc.2.2.2 true w
       refine⟨_,?_,.sl k (if m=l then off else off+l*sz) (hh-l) (m-l) b q⟩
       simp only[Instr.sliceAt,Instr.slice,Sem.run_bind,run_underlying hu,Result.andThen_ok,hb,bB hs,Sem.run_pure,Option.map_some,Addr.add_lit]
       split<;>rfl
     ·cases h
    ·cases h
   ·split at h
    ·rename_i es hes
     have hL:=mz r hes
     split at h
     ·split at h
      ·rename_i l hh hl hhi
       split at h
       ·rename_i hc
        injection h with h;subst h
        cases vm with
        | some _=>exact rm.elim
        | none =>
         obtain⟨A,c,rfl⟩:=mB hL
         have hcap:es.length≤c:=by cases hL<;>simp_all
         have hb:=jS (P:=P) (len:=es.length) (cap:=c) (m:=c) (mx:=none) (vm:=none) rl rh trivial rfl hhi hl (zH _) (by omega) hc.1 (by simp) true w
         refine⟨_,?_,.d (sub_list hL hc.2.2 hc.1 hc.2.1 (m:=c) (by omega))⟩
         simp only[Instr.sliceAt,Instr.slice,Sem.run_bind,run_underlying hu,Result.andThen_ok,hb,bB hs,Sem.run_pure]
       ·cases h
      ·cases h
     ·rename_i mxv
      split at h
      ·rename_i l hh m hl hhi hm
       split at h
       ·rename_i hc
        obtain⟨c1,c2,c3,c4,c5⟩:=hc
        subst c2
        injection h with h;subst h
        obtain⟨A,c,rfl⟩:=mB hL
        have hcap:es.length≤c:=by cases hL<;>simp_all
        have hm':bnd c (some mxv)=some hh:=by rw[bnd_some c 0];exact hm
        have hb:=jS (P:=P) (len:=es.length) (cap:=c) (m:=hh) rl rh rm hm' hhi hl (by omega) (zH _) c1 (λ_=>c4) true w
        have hlen:((es.drop l).take (hh-l)).length=hh-l:=by simp;omega
        have hsub:=sub_list hL c5 c1 (by omega) (m:=hh) (zH _)
        have hf:=rel.full (G:=G) ((es.drop l).take (hh-l)) (if hh=l then A else A.map (·.add (l*sz))) (by rw[hlen];exact hsub)
        rw[hlen]at hf
        refine⟨_,?_,hf⟩
        simp only[Instr.sliceAt,Instr.slice,Sem.run_bind,run_underlying hu,Result.andThen_ok,hb,bB hs,Sem.run_pure]
       ·cases h
      ·cases h
    ·cases h
 ·rename_i n e hu
  cases hs:bh P e with
  | none=>rw[hs]at h;cases h
  | some sz =>
   rw[hs]at h
   simp only at h
   split at h
   ·rename_i k off
    split at h
    ·rename_i l hh m hl hhi hm
     split at h
     ·rename_i hc
      injection h with h;subst h
      cases r with
      | ptr _ _ b q =>
       have hb:=jS (P:=P) rl rh rm hm hhi hl hc.2.2.1 hc.2.1 hc.1 hc.2.2.2 false w
       refine⟨_,?_,.sl k (if m=l then off else off+l*sz) (hh-l) (m-l) b q⟩
       simp only[Instr.sliceAt,Sem.run_bind,run_underlying hu,Result.andThen_ok,Instr.sureAddr,Sem.run_pure,hb,bB hs,Addr.add_lit]
       split<;>rfl
     ·cases h
    ·cases h
   ·cases h
 ·cases h
def dz:List V→Option (List D)
 | []=>some []
 | x::xs=>match x.data?,dz xs with | some a,some b=>some (a::b) | _,_=>none
theorem gN{G:Cx}:∀{xs:List V} {vs:List Value} {ds:List D},rels G xs vs→dz xs=some ds→ds.length=vs.length∧∀(i:Nat) (x:D) (v:Value),ds[i]? = some x→vs[i]? = some v→relD G.F x v
 | [],vs,ds,r,h=>by
  simp only[dz]at h;injection h with h;subst h
  exact⟨r.1,λi x v h=>by simp at h⟩
 | y::ys,vs,ds,r,h=>by
  cases vs with
  | nil=>have:=r.1;simp at this
  | cons v vs =>
   obtain⟨r1,r2⟩:=aW r
   unfold dz at h
   split at h
   ·rename_i a b ha hb
    injection h with h;subst h
    obtain⟨q1,q2⟩:=gN r2 hb
    refine⟨by simp[q1],λi x u h1 h2=>?_⟩
    cases i with
    | zero=>simp at h1 h2;subst h1;subst h2;exact mJ r1 ha
    | succ i=>simp at h1 h2;exact q2 i x u h1 h2
   ·cases h
theorem kind_val{x:D}{k:SK}(r:relD F x v)(h:x.kind? = some k):v=x.val:=by
 cases r<;>first | rfl | (simp[D.kind?]at h)
theorem kinds_vals{F:Nat→Nat→Value→Prop}:∀{ds:List D} {vs:List Value} {ks:List SK},ds.length=vs.length→(∀(i:Nat) (x:D) (v:Value),ds[i]? = some x→vs[i]? = some v→relD F x v)→ds.map D.kind? = ks.map some→vs=ds.map D.val
 | [],vs,ks,hl,_,_=>by
  have:vs=[]:=zB hl.symm
  subst this;rfl
 | d::ds,vs,ks,hl,r,hk=>by
  cases vs with
  | nil=>simp at hl
  | cons v vs =>
   cases ks with
   | nil=>simp at hk
   | cons k ks =>
    simp only[List.map_cons,List.cons.injEq]at hk
    have h1:=kind_val (r 0 d v rfl rfl) hk.1
    have h2:=kinds_vals (ds:=ds) (vs:=vs) (ks:=ks) (by simpa using hl) (λi x u a b=>r (i+1) x u (by simpa using a) (by simpa using b)) hk.2
    rw[h1,h2];rfl
def binV{P:Program}(g:Pg P)(op:BinOp)(t:TypeId)(x y:V):Option V :=
 match x,y with
 | .d (.bool a),.d (.bool b) =>
  match P.underlying t with
  | some .bool=>match op with
   | .eql=>some (.d (.bool (a==b)))
   | .neq=>some (.d (.bool (!(a==b))))
   | _=>none
  | _=>none
 | .d a,.d b=>(binD op a b).map .d
 | .agg xs,.agg ys =>
  match g.E t,dz xs,dz ys with
  | some ks,some ds,some es =>
   if ds.map D.kind? = ks.map some∧es.map D.kind? = ks.map some then
    match op with
    | .eql=>some (.d (.bool (eqAll ds es)))
    | .neq=>some (.d (.bool (!(eqAll ds es))))
    | _=>none
   else none
  | _,_,_=>none
 | _,_=>none
theorem equal_bool(hu:P.underlying t=some .bool)(a b:Bool)(w:World):(Op.equal t (.bool a) (.bool b)).run P w=.ok (a==b) w:=by
 unfold Op.equal Op.maxDepth
 rw[show (10000:Nat)=9999+1 from rfl]
 unfold Op.equalIn
 simp only[Sem.run_bind,run_underlying hu,Result.andThen_ok]
 rfl
theorem eqGuard_bool(op:BinOp)(t:TypeId)(xo yo:Operand)(a b:Bool)(w:World):(eqGuard op t xo yo (.bool a) (.bool b)).run P w=.ok () w:=by
 unfold eqGuard;cases op<;>simp
theorem inv_bool{t:Bool}(r:rel G (.d (.bool t)) v):v=.bool t:=by cases r with | d q=>cases q;rfl
theorem fE{k:IntKind}{n:Int}(r:rel G (.d (.int k n)) v):v=.int k n:=by cases r with | d q=>cases q;rfl
theorem lV(r:rel G (.ptr k off) v):∃b,G.ob k=some b∧v=.pointer (some ⟨b,off,none⟩):=by cases r with | ptr _ _ b q=>exact⟨b,q,rfl⟩
theorem inv_iptr{cs:List D}(r:rel G (.iptr cs off) v):∃b o,∃u:Nat→Value,v=.pointer (some ⟨b,o+off,none⟩)∧(∀(j:Nat) (x:D),cs[j]? = some x→G.F b (o+j) (u j))∧(∀(j:Nat) (x:D),cs[j]? = some x→relD G.F x (u j)):=by
 cases r with | iptr _ _ b o u q1 q2=>exact⟨b,o,u,rfl,q1,q2⟩
theorem binV_ok{g:Pg P}{z:V}{u:Value}(rx:rel G x v)(ry:rel G y u)(h:binV g op t x y=some z)(w:World) :
  ∃r,((do eqGuard op t xo yo v u;binOp op t v u):Sem Value).run P w=.ok r w∧rel G z r:=by
 unfold binV at h
 split at h
 ·rename_i a b
  cases rx with
  | d q1 =>
   cases q1
   cases ry with
   | d q2 =>
    cases q2
    split at h
    ·rename_i hu
     split at h
     ·injection h with h;subst h
      exact⟨.bool (a==b),by simp only[Sem.run_bind,eqGuard_bool,Result.andThen_ok,binOp,equal_bool hu,Sem.run_pure],.d (.bool _)⟩
     ·injection h with h;subst h
      exact⟨.bool (!(a==b)),by simp only[Sem.run_bind,eqGuard_bool,Result.andThen_ok,binOp,equal_bool hu,Sem.run_pure],.d (.bool _)⟩
     ·cases h
    ·cases h
 ·rename_i a b _
  cases rx with
  | d q1 =>
   cases ry with
   | d q2 =>
    cases hb:binD op a b with
    | none=>rw[hb]at h;cases h
    | some c =>
     rw[hb]at h
     simp at h;subst h
     obtain⟨r,h1,h2⟩:=binD_ok (P:=P) (t:=t) (xo:=xo) (yo:=yo) q1 q2 hb w
     exact⟨r,h1,.d h2⟩
 ·rename_i xs ys
  split at h
  ·rename_i ks ds es hE hx hy
   split at h
   ·rename_i hk
    cases rx with
    | agg _ vs l1 r1 =>
     cases ry with
     | agg _ us l2 r2 =>
      obtain⟨d1,d2⟩:=gN ⟨l1,r1⟩ hx
      obtain⟨e1,e2⟩:=gN ⟨l2,r2⟩ hy
      have hv:=kinds_vals d1 d2 hk.1
      have hu:=kinds_vals e1 e2 hk.2
      subst hv;subst hu
      obtain⟨g1,g2⟩:=g.hE t ks hE
      have hg:(eqGuard op t xo yo (.agg ⟨ds.map D.val⟩) (.agg ⟨es.map D.val⟩)).run P w=.ok () w:=by
       unfold eqGuard;cases op<;>simp[g1,program,Sem.run]
      have heq:=g2 ds es hk.1 hk.2 w
      split at h
      ·injection h with h;subst h
       exact⟨.bool (eqAll ds es),by simp only[Sem.run_bind,hg,Result.andThen_ok,binOp,heq,Sem.run_pure],.d (.bool _)⟩
      ·injection h with h;subst h
       exact⟨.bool (!(eqAll ds es)),by simp only[Sem.run_bind,hg,Result.andThen_ok,binOp,heq,Sem.run_pure],.d (.bool _)⟩
      ·cases h
   ·cases h
  ·cases h
 ·cases h
theorem run_mapM_list{P:Program}{α β:Type}(f:α→Sem β)(g:α→β)(w:World):∀(l:List α),(∀a∈l,(f a).run P w=.ok (g a) w)→(l.mapM f).run P w=.ok (l.map g) w
 | [],_=>by simp
 | a::l,h=>by
  have ih:=run_mapM_list f g w l (λb hb=>h b (by simp[hb]))
  simp[List.mapM_cons,h a (by simp),ih]
theorem run_mapM_array{β:Type}(f:α→Sem β)(g:α→β)(w:World)(l:Array α)(h:∀a∈l.toList,(f a).run P w=.ok (g a) w):(l.mapM f).run P w=.ok (l.map g) w:=by
 rw[Array.mapM_eq_mapM_toList]
 simp only[Sem.run_map,run_mapM_list f g w l.toList h,Result.andThen_ok]
 congr 1
 apply Array.ext'
 simp
def cg(P:Program)(t:TypeId):Option V:=match P.info? t with | some i=>(match i.zero with | some z=>some (lit z) | none=>none) | none=>none
theorem kw(h:cg P t=some x)(G:Cx)(w:World):∃z,(zeroValue t).run P w=.ok z w∧rel G x z∧x=lit z:=by
 unfold cg at h
 cases hi:P.info? t with
 | none=>rw[hi]at h;cases h
 | some i =>
  rw[hi]at h
  cases hz:i.zero with
  | none=>simp only[hz]at h;cases h
  | some z =>
   simp only[hz]at h
   injection h with h;subst h
   exact⟨z,by simp[zeroValue,typeInfo,hi,hz,program,Sem.run],lit_rel G z,rfl⟩
inductive Pl where
 | struct (l:List (Nat×Nat))
 | array (sz:Nat)
def bH(P:Program)(t:TypeId):Option Pl :=
 match P.underlying t with
 | some (.struct fields)=>if fields.toList.all (λf=>(bh P f.type).isSome)then some (.struct (fields.toList.map λf=>(f.offset,(bh P f.type).getD 0)))else none
 | some (.array _ e)=>match bh P e with | some sz=>some (.array sz) | none=>none
 | _=>none
def buildV(P:Program)(t:TypeId)(parts:List (Nat×V)):Option V :=
 match cg P t with
 | none=>none
 | some z=>match z.cells? with
  | none=>none
  | some zs=>match bH P t with
   | some (.struct l)=>(jL (λi=>l[i]?) zs parts).map .agg
   | some (.array sz)=>(jL (λi=>some (i*sz,sz)) zs parts).map .agg
   | none=>none
theorem buildV_ok{parts:List (Nat×V)}{us:List (Nat×Value)}(hl:parts.length=us.length)(hp:∀(i:Nat) (p:Nat×V) (q:Nat×Value),parts[i]? = some p→us[i]? = some q→p.1=q.1∧rel G p.2 q.2)(h:buildV P t parts=some y)(w:World) :
  ∃v,(Instr.build t ⟨us⟩).run P w=.ok v w∧rel G y v:=by
 unfold buildV at h
 cases hz:cg P t with
 | none=>rw[hz]at h;cases h
 | some z =>
  rw[hz]at h
  simp only at h
  cases hc:z.cells? with
  | none=>rw[hc]at h;cases h
  | some zs =>
   rw[hc]at h
   simp only at h
   obtain⟨zv,z1,z2,_⟩:=kw hz G w
   have hzr:=eB z2 hc
   unfold bH at h
   cases hu:P.underlying t with
   | none=>simp only[hu]at h;cases h
   | some dd =>
   cases dd with
   | struct fields =>
    simp only[hu]at h
    cases hall:fields.toList.all (λf=>(bh P f.type).isSome)with
    | false=>simp only[hall,Bool.false_eq_true,oe]at h;cases h
    | true =>
     simp only[hall,og]at h
     have hpl0:(λ(i:Nat)=>(fields.toList.map λ(f:Field)=>(f.offset,(bh P f.type).getD 0))[i]?)=(λi=>(fields[i]?).map λ(f:Field)=>(f.offset,(bh P f.type).getD 0)):=by
      funext i;simp
     rw[hpl0]at h
     cases hf:jL (λi=>(fields[i]?).map λf=>(f.offset,(bh P f.type).getD 0)) zs parts with
     | none=>rw[hf]at h;cases h
     | some out =>
      rw[hf]at h
      simp at h;subst h
      obtain⟨ws,w1,w2⟩:=fillV_ok parts us zs zv.cells.toList out hf hzr hl hp
      refine⟨.agg ⟨ws⟩,?_,.agg _ _ w2.1 w2.2⟩
      have hm:(fields.mapM (λ(f:Field)=>(do pure (f.offset,←sizeOf f.type):Sem (Nat×Nat)))).run P w=.ok (fields.map λ(f:Field)=>(f.offset,(bh P f.type).getD 0)) w:=by
       refine run_mapM_array _ _ w fields (λf hf=>?_)
       have:=List.all_eq_true.1 hall f hf
       obtain⟨n,hn⟩:=Option.isSome_iff_exists.1 this
       simp[bB hn,hn]
      have hpl:(λ(i:Nat)=>(fields.map λ(f:Field)=>(f.offset,(bh P f.type).getD 0))[i]?)=(λi=>(fields[i]?).map λ(f:Field)=>(f.offset,(bh P f.type).getD 0)):=by
       funext i;simp
      have hcell:(⟨zv.cells.toList⟩:Array Value)=zv.cells:=by simp
      rw[hcell]at w1
      simp only[Instr.build,Sem.run_bind,z1,Result.andThen_ok,run_underlying hu,hm,hpl,w1,Sem.run_pure]
   | array n e =>
    simp only[hu]at h
    cases hs:bh P e with
    | none=>simp only[hs]at h;cases h
    | some sz =>
     simp only[hs]at h
     cases hf:jL (λi=>some (i*sz,sz)) zs parts with
     | none=>rw[hf]at h;cases h
     | some out =>
      rw[hf]at h
      simp at h;subst h
      obtain⟨ws,w1,w2⟩:=fillV_ok parts us zs zv.cells.toList out hf hzr hl hp
      refine⟨.agg ⟨ws⟩,?_,.agg _ _ w2.1 w2.2⟩
      have hcell:(⟨zv.cells.toList⟩:Array Value)=zv.cells:=by simp
      rw[hcell]at w1
      simp only[Instr.build,Sem.run_bind,z1,Result.andThen_ok,run_underlying hu,bB hs,w1,Sem.run_pure]
   | _=>simp only[hu]at h;cases h
def lM{P:Program}(g:Pg P)(o:Oper)(ρ:Operand→V):Option V :=
 match o.op with
 | .move x=>some (ρ x)
 | .assign x=>some (ρ x)
 | .pick c a b=>match ρ c with | .d (.bool t)=>some (if t then ρ a else ρ b) | _=>none
 | .build t parts=>buildV P t (parts.toList.map λp=>(p.1,ρ p.2))
 | .nilCheck x=>match ρ x with | .ptr k off=>some (.ptr k off) | .iptr cs off=>some (.iptr cs off) | _=>none
 | .binOp op t x y _=>binV g op t (ρ x) (ρ y)
 | .unOp op _ x=>unV op (ρ x)
 | .convert src dst x=>if (P.underlying src).isSome then convV P dst (ρ x)else none
 | .makeFunc (.func f) first captured=>if first.toList=[]then some (.fn f (captured.toList.map ρ))else none
 | .slice t x lo hi mx=>sliceV P t (ρ x) (lo.map ρ) (hi.map ρ) (mx.map ρ)
 | .fieldAddr t x f=>dE P t (ρ x) f
 | .field t x f=>fieldV P t (ρ x) f
 | .indexAddr t x i=>km P t (ρ x) (ρ i)
 | .index t x i=>indexV P t (ρ x) (ρ i)
 | .extract x i=>extractV (ρ x) i
 | .load t a=>match ρ a with | .iptr cs off=>gV P t (fP cs) off | _=>none
 | .call c=>match c.callee,c.args.toList,c.argTypes.toList with | .builtin .len,[x],[t]=>lenV P t (ρ x) | _,_,_=>none
 | _=>none
theorem relO_map{a:Act}(h:FR G fr a)(x:Option Operand):relO G (x.map (aR fr)) (x.map a.eval):=by
 cases x with
 | none=>trivial
 | some x=>exact aV h x
theorem pureS_ok  {g:Pg P}  {o:Oper}  {a:Act}   (hF : ∀ b o v, G.F b o v → w.cell? ⟨b, o, none⟩ = some v) (hfr : FR G fr a) (h : lM g o (aR fr) = some y) :
    ∃v,(execOp a.eval o).run P w=.ok (.value v) w∧rel G y v:=by
  have ev:=λx=>aV hfr x
  have fin:∀(s:Sem Value) ,(∃u,s.run P w=.ok u w∧rel G y u)→∃v,((do pure (.value (←s)):Sem Next)).run P w=.ok (.value v) w∧rel G y v:=by
    rintro s ⟨u,h1,h2⟩
    exact⟨u,by simp[h1],h2⟩
  unfold lM at h
  split at h<;>rename_i hop
  · injection h with h;subst h;exact⟨_,by simp[execOp,hop],ev _⟩
  · injection h with h;subst h;exact⟨_,by simp[execOp,hop],ev _⟩
  · rename_i c x z
    split at h
    · rename_i t hc
      injection h with h;subst h
      have hcv:a.eval c=.bool t:=inv_bool (hc▸ev c)
      cases t
      · exact⟨a.eval z,by simp[execOp,hop,hcv,asBool],ev _⟩
      · exact⟨a.eval x,by simp[execOp,hop,hcv,asBool],ev _⟩
    · cases h
  · rename_i t parts
    have:=buildV_ok (G:=G) (us:=parts.toList.map λp=>(p.1,a.eval p.2)) (by simp) (λi p q h1 h2=>by
      rw[List.getElem?_map]at h1 h2
      cases hq:parts.toList[i]? with
      | none=>rw[hq]at h1;cases h1
      | some r=>rw[hq]at h1 h2;simp at h1 h2;subst h1;subst h2;exact⟨rfl,ev _⟩) h w
    obtain⟨v,h1,h2⟩:=this
    refine⟨v,?_,h2⟩
    have he:(parts.map λx=>(x.1,a.eval x.2))=(⟨parts.toList.map λp=>(p.1,a.eval p.2)⟩:Array (Nat×Value)):=by apply Array.ext';simp
    simp only[execOp,hop,he,Sem.run_bind,h1,Result.andThen_ok,Sem.run_pure]
  · rename_i x
    have e:=ev x
    split at h
    · rename_i k off hx
      injection h with h;subst h
      rw[hx]at e
      obtain⟨b,q,hv⟩:=lV e
      exact⟨.pointer (some ⟨b,off,none⟩),by simp[execOp,hop,hv],.ptr _ _ b q⟩
    · rename_i cs off hx
      injection h with h;subst h
      rw[hx]at e
      obtain⟨b,o',u,hv,q1,q2⟩:=inv_iptr e
      exact⟨.pointer (some ⟨b,o'+off,none⟩),by simp[execOp,hop,hv],.iptr _ _ b o' u q1 q2⟩
    · cases h
  · simp only[execOp,hop];exact fin _ (binV_ok (ev _) (ev _) h w)
  · simp only[execOp,hop];exact fin _ (unV_ok (ev _) h w)
  · split at h
    · simp only[execOp,hop];exact fin _ (convV_ok (ev _) ‹_› h w)
    · cases h
  · rename_i f first captured
    split at h
    · rename_i hfirst
      injection h with h;subst h
      have hf:first=#[]:=by cases first;simp_all
      subst hf
      refine⟨.func (.func f) #[] ⟨captured.toList.map a.eval⟩,?_,.fn _ _ _ (by simp) (λi x v h1 h2=>?_)⟩
      · have he:(captured.map a.eval)=(⟨captured.toList.map a.eval⟩:Array Value):=by apply Array.ext';simp
        simp[execOp,hop,Instr.makeFunc,he]
      · rw[List.getElem?_map]at h1 h2
        cases hq:captured.toList[i]? with
        | none=>rw[hq]at h1;cases h1
        | some r=>rw[hq]at h1 h2;simp at h1 h2;subst h1;subst h2;exact ev _
    · cases h
  · simp only[execOp,hop];exact fin _ (sliceV_ok (ev _) (relO_map hfr _) (relO_map hfr _) (relO_map hfr _) h w)
  · simp only[execOp,hop];exact fin _ (kU (ev _) h w)
  · simp only[execOp,hop];exact fin _ (fieldV_ok (ev _) h w)
  · simp only[execOp,hop];exact fin _ (indexAddrV_ok (ev _) (ev _) h w)
  · simp only[execOp,hop];exact fin _ (indexV_ok (ev _) (ev _) h w)
  · simp only[execOp,hop];exact fin _ (extractV_ok (ev _) h w)
  · rename_i t x
    split at h
    · rename_i cs off hx
      have e:=ev x
      rw[hx]at e
      obtain⟨b,o',u,hv,q1,q2⟩:=inv_iptr e
      have hr:=mD (G:=G) q2
      obtain⟨v,h1,h2⟩:=kN (b:=b) (o:=o') (w:=w) h hr (λj v hj=>by
        rw[List.getElem?_map]at hj
        cases hc:cs[j]? with
        | none =>
          rw[List.getElem?_eq_none (by rw[List.length_range];exact List.getElem?_eq_none_iff.1 hc)]at hj
          cases hj
        | some y =>
          rw[List.getElem?_range (ak hc)]at hj
          simp at hj;subst hj
          exact hF _ _ _ (q1 j y hc))
      refine⟨v,?_,h2⟩
      simp only[execOp,hop,Instr.loadAt,hv,Instr.sureAddr,Sem.run_bind,Sem.run_pure,Result.andThen_ok,h1]
    · cases h
  · rename_i c
    split at h
    · rename_i x t hcal hargs htys
      obtain⟨u,h1,h2⟩:=lenV_ok (ty:=o.type) (ev x) h w
      have ha:c.args=#[x]:=by apply Array.ext';simp[hargs]
      have ht:c.argTypes=#[t]:=by apply Array.ext';simp[htys]
      refine⟨u,?_,h2⟩
      simp only[execOp,hop,resolve,hcal,ha,ht,Sem.run_bind,Sem.run_pure,Result.andThen_ok,invoke,builtin]
      simp[h1]
    · cases h
  · cases h
end Go.Proofs.YtjemmjpdmbenkaaGreatDoor
