/-
  Base, Sab, Sx2, Sef in one text.
-/
import Derived.Test.YtphbhdoljnokkaaGreatDoorRows
import Derived.WalkKit
import Derived.WalkSpells
import Derived.WalkLawsBesides
import Derived.Deep.QuietTactic
import Derived.BigQuiet
import Derived.Lib.Hide
import Derived.OpenShut
import Derived.Deep.AppendLies
import Derived.Deep.LoopGhost
import Derived.Deep.DeepCutAuto
import Derived.Deep.Light
open List renaming eq_nil_of_length_eq_zero → zA,size_toArray → zF
open Nat renaming lt_of_lt_of_le → zB,le_refl → zD,le_trans → zE,add_mul → zG,add_assoc → zH
namespace Go.Proofs.YtphbhdoljnokkaaGreatDoor
open Go.RowKit
theorem qU.{u}:type_of% @if_neg.{u}:=@if_neg.{u}
theorem qV.{u}:type_of% @if_pos.{u}:=@if_pos.{u}
theorem qW.{u}:type_of% @if_false.{u}:=@if_false.{u}
theorem qX.{u}:type_of% @if_true.{u}:=@if_true.{u}
theorem qY:type_of% @decide_eq_true:=@decide_eq_true
theorem qZ:type_of% @decide_eq_false:=@decide_eq_false
theorem ra:type_of% @of_decide_eq_true:=@of_decide_eq_true
theorem rc:type_of% @decide_eq_true_eq:=@decide_eq_true_eq
def Kp(w w':World):Prop:=Below w.heap.size w w'
theorem Kp.refl(w:World):Kp w w:=Below.refl _ _
variable {w w':World}
theorem Kp.size(h:Kp w w'):w.heap.size≤w'.heap.size:=Below.size h
variable {a:World}
theorem Kp.trans{b c:World}(h:Kp a b)(k:Kp b c):Kp a c:=Below.trans h (Below.mono k h.size)
theorem Kp.alloc(h:Kp a w)(o:Obj):Kp a (w.alloc o):=Below.alloc h h.size o
theorem Kp.drew(h:Kp a w):Kp a w.drew:=Below.drew h
theorem Kp.drewN(h:Kp a w)(n:Nat):Kp a (w.drewN n):=by
 have hb:Below a.heap.size a w:=h
 exact (⟨hb.os,hb.tape,hb.output,hb.size,hb.block⟩:Below a.heap.size a (w.drewN n))
theorem Kp.setCell(h:Kp a w){p:Addr}(hp:a.heap.size≤p.block)(u:Value):Kp a (w.setCell p u):=Below.setCell h hp u
theorem Kp.below(h:Kp a w):Below a.heap.size a w:=h
theorem Kp.see{W w1:World}(h:Kp W w1):(∀b o,b<W.heap.size→w1.cell? ⟨b,o,none⟩=W.cell? ⟨b,o,none⟩)∧(∀b o,b<W.heap.size→w1.frozen? ⟨b,o,none⟩=W.frozen? ⟨b,o,none⟩) :=
 ⟨λb o hb=>Below.cell h (p:=⟨b,o,none⟩) hb,λb o hb=>Below.frozen h (p:=⟨b,o,none⟩) hb⟩
variable {row:Option Nat}
theorem Kp.grown(h:Kp a w)(hg:w.grownBy w' row)(hr:∀k,row=some k→a.heap.size≤k):Kp a w':=Below.grown h hg h.size hr
theorem Kp.grows(h:Kp w w')(row:Option Nat):w.grownBy w' row:=⟨Below.os h,Below.tape h,Below.output h,h.size,λi hi _=>Below.block h i hi⟩
variable {base:Nat}{e:TypeId}{n:Nat}{v:Value}{xs:List Value}
theorem own_kp{size:Nat}(h:w.ownsRow base e size v n xs)(hk:Kp w w'):w'.ownsRow base e size v n xs:=by
 cases hv:v.ownBlock with
 | none=>exact h.kept (hk.grows none) (.inl hv)
 | some g=>exact h.kept (hk.grows none) (.inr (by rw[hv];simp))
theorem Kp.own{size:Nat}(h:Kp a w)(ho:w.ownsRow base e size v n xs)(hg:w.grownBy w' v.ownBlock)(hb:a.heap.size≤base):Kp a w' :=
 h.grown hg λk hk=>zE hb (ho.lt k hk).1
theorem gI{size:Nat}(h:w.ownsRow base e size v n xs):∃A c,v=.slice A n c:=by
 rcases h.2 with⟨rfl,rfl⟩|⟨g,cap,cur,rfl,_⟩<;>simp_all
theorem own_mono{base':Nat}{size:Nat}(h:w.ownsRow base e size v n xs)(hb:base'≤base):w.ownsRow base' e size v n xs:=by
 rcases h.2 with h2 | ⟨g,cap,cur,hv,hg,r⟩
 ·exact⟨h.1,.inl h2⟩
 ·exact⟨h.1,.inr ⟨g,cap,cur,hv,zE hb hg,r⟩⟩
inductive D where
 | int (k:IntKind) (n:Int)
 | bool (b:Bool)
 | str (s:List UInt8)
 | list (es:List (List D))
 | other (v:Value)
inductive relD (F:Nat→Nat→Value→Prop):D→Value→Prop
 | int (k:IntKind) (n:Int):relD F (.int k n) (.int k n)
 | bool (b:Bool):relD F (.bool b) (.bool b)
 | str (s:List UInt8):relD F (.str s) (.string ⟨s.toArray⟩)
 | nil (A:Option Addr) (c:Nat):relD F (.list []) (.slice A 0 c)
 | list (es:List (List D)) (b off c sz:Nat) (u:Nat→Nat→Value) (hne:0<es.length) (hcap:es.length≤c) (hsz:∀(i:Nat) (e:List D),es[i]? = some e→e.length=sz)
   (hF:∀(i j:Nat) (e:List D) (x:D),es[i]? = some e→e[j]? = some x→F b (off+i*sz+j) (u i j))
   (hr:∀(i j:Nat) (e:List D) (x:D),es[i]? = some e→e[j]? = some x→relD F x (u i j)):relD F (.list es) (.slice (some ⟨b,off,none⟩) es.length c)
 | other (v:Value) (h1:v.oneCell'=true):relD F (.other v) v
variable {F F':Nat→Nat→Value→Prop}
theorem b8(h:∀b o v,F b o v→F' b o v){x:D}{v:Value}(r:relD F x v):relD F' x v:=by
 induction r with
 | int k n=>exact .int k n
 | bool b=>exact .bool b
 | str s=>exact .str s
 | nil A c=>exact .nil A c
 | list es b off c sz u hne hcap hsz hF _ ih=>exact .list es b off c sz u hne hcap hsz (λi j e x h1 h2=>h _ _ _ (hF i j e x h1 h2)) ih
 | other v h1=>exact .other v h1
def glT:Nat→Option (List D)
 | 2=>some [.list [[.int .i64 0],[.int .i64 1000],[.int .i64 3000],[.int .i64 4000],[.int .i64 5000],[.int .i64 6000],[.int .i64 8000],[.int .i64 9000],[.int .i64 30000]]]
 | 0=>some [.int .i64 0,.int .i64 0,.int .i64 1,.int .i64 2,.int .i64 3]
  | _=>none
def tabT:Nat→Option (IntKind×List Int)
 | 4=>some (.u64,[1,10,100,1000,10000,100000,1000000,10000000,100000000,1000000000,10000000000,100000000000,1000000000000,10000000000000,100000000000000,1000000000000000,10000000000000000,100000000000000000,1000000000000000000,10000000000000000000])
  | _=>none
def errT:Nat→Bool
 | _=>false
def Errs(w:World):Prop:=∀b,errT b=true→∃ev,w.cell? ⟨b,0,none⟩=some ev∧(ev=.nilIface∨∃te pe,ev=.iface te pe)
def intT:Nat→Bool
 | _=>false
def Ints(w:World):Prop:=∀b,intT b=true→∃m,w.cell? ⟨b,0,none⟩=some (.int .i64 m)
def mapG:Nat→Option (List (Int×List UInt8))
 | 3=>some [(1,[109,105,108,108]),(2,[100,114,105,108,108]),(3,[99,104,97,109,102,101,114]),(4,[112,114,111,98,101])]
  | _=>none
def Maps(w:World):Prop:=∀b kvs,mapG b=some kvs→∃bm es clock,w.cell? ⟨b,0,none⟩=some (.map (some bm))∧w.heap[bm]? = some (.map es clock)∧(∀x∈es.toList,x.born<clock)∧(es.toList.map (·.born)).Nodup∧(∀x∈es.toList,∃p∈kvs,x.key=.int .i64 p.1∧x.val=.string ⟨p.2.toArray⟩)∧∀p∈kvs,∃x∈es.toList,x.key=.int .i64 p.1∧x.val=.string ⟨p.2.toArray⟩
def Tabs(w:World):Prop:=(∀b k zs,tabT b=some (k,zs)→∃t f,w.heap[b]? = some (.cells (zs.map λz=>Value.int k z).toArray t f))∧Errs w∧Ints w∧Maps w
def lP(w:World)(F:Nat→Nat→Value→Prop):Prop:=(∀b cs,glT b=some cs→∃u:Nat→Value,∀(j:Nat) (x:D),cs[j]? = some x→F b j (u j)∧relD F x (u j))∧Tabs w
theorem lP.mono(h:lP w F)(hi:∀b o v,F b o v→F' b o v):lP w F':=⟨λb cs hb=>by
 obtain⟨u,hu⟩:=h.1 b cs hb
 exact⟨u,λj x hx=>⟨hi _ _ _ (hu j x hx).1,b8 hi (hu j x hx).2⟩⟩,h.2⟩
theorem lP.kp(h:lP w F)(hk:Kp w w'):lP w' F:=⟨h.1,λb k zs hb=>by
 obtain⟨t,f,q⟩:=h.2.1 b k zs hb
 have hlt:b<w.heap.size:=by
  grind
 exact⟨t,f,(hk.below.block b hlt).trans q⟩,λb hb=>by
 obtain⟨ev,q,hv⟩:=h.2.2.1 b hb
 exact⟨ev,(hk.see.1 b 0 (World.block_lt_of_cell? w ⟨b,0,none⟩ q)).trans q,hv⟩,λb hb=>by
 obtain⟨m,q⟩:=h.2.2.2.1 b hb
 exact⟨m,(hk.see.1 b 0 (World.block_lt_of_cell? w ⟨b,0,none⟩ q)).trans q⟩,λb kvs hb=>by
 obtain⟨bm,es,clock,q1,q2,q3⟩:=h.2.2.2.2 b kvs hb
 have hlt:bm<w.heap.size:=by
  grind
 exact⟨bm,es,clock,(hk.see.1 b 0 (World.block_lt_of_cell? w ⟨b,0,none⟩ q1)).trans q1,(hk.below.block bm hlt).trans q2,q3⟩⟩
inductive V where
 | undef
 | d (x:D)
 | agg (cs:List V)
 | tuple (vs:List V)
 | ptr (k off:Nat)
 | iptr (cs:List D) (off:Nat)
 | own (t:Nat) (es:List (List D))
 | full (es:List (List D))
 | nil
 | skip
 | sl (k off len cap:Nat)
 | fn (f:FuncId) (caps:List V)
 | mp (k:Nat)
 | mapc (ik:IntKind) (kvs:List (Int×D))
 | gr (k n:Nat)
 | gp (k n i off:Nat)
 | rowc (e:TypeId) (ver:Nat) (es:List (List D))
 | adr (k:Nat)
 | gs (k n off len:Nat)
structure Lv where
 n:Nat
 sz:Nat
 v:Value
structure Cx where
 base:Nat→Nat→Value→Prop
 F:Nat→Nat→Value→Prop
 ob:Nat→Option Nat
 lv:Nat→Option Lv
 mp:Nat→Option Nat
 rv:Nat→Option Lv
 tg:Nat→Option TypeId
structure Cx.le (G G':Cx):Prop where
 base:G'.base=G.base
 F:∀b o v,G.F b o v→G'.F b o v
 ob:∀k b,G.ob k=some b→G'.ob k=some b
 lv:∀t L,G.lv t=some L→∃L',G'.lv t=some L'∧L'.sz=L.sz∧(L'=L∨L.n<L'.n)
 mp:∀k b,G.mp k=some b→G'.mp k=some b
 rv:∀k L,G.rv k=some L→∃L',G'.rv k=some L'∧L'.sz=L.sz∧(L'=L∨L.n<L'.n)
 tg:∀b t,G.tg b=some t→G'.tg b=some t
theorem Cx.le.refl(G:Cx):G.le G:=⟨rfl,λ_ _ _ h=>h,λ_ _ h=>h,λ_ L h=>⟨L,h,rfl,.inl rfl⟩,λ_ _ h=>h,λ_ L h=>⟨L,h,rfl,.inl rfl⟩,λ_ _ q=>q⟩
theorem Lv_trans{f g h:Nat→Option Lv}(a:∀t L,f t=some L→∃L',g t=some L'∧L'.sz=L.sz∧(L'=L∨L.n<L'.n))(b:∀t L,g t=some L→∃L',h t=some L'∧L'.sz=L.sz∧(L'=L∨L.n<L'.n))(t:Nat)(L:Lv)(q:f t=some L):∃L',h t=some L'∧L'.sz=L.sz∧(L'=L∨L.n<L'.n):=by
 grind
theorem Cx.le.trans{A B C:Cx}(h:A.le B)(k:B.le C):A.le C :=
 ⟨k.base.trans h.base,λ_ _ _ q=>k.F _ _ _ (h.F _ _ _ q),λ_ _ q=>k.ob _ _ (h.ob _ _ q),Lv_trans h.lv k.lv,λ_ _ q=>k.mp _ _ (h.mp _ _ q),Lv_trans h.rv k.rv,λ_ _ q=>k.tg _ _ (h.tg _ _ q)⟩
def bT:TypeId :=
 134
inductive rel (G:Cx):V→Value→Prop
 | undef (v:Value):rel G .undef v
 | d {x:D} {v:Value} (h:relD G.F x v):rel G (.d x) v
 | agg (cs:List V) (vs:List Value) (hl:cs.length=vs.length) (h:∀(i:Nat) (x:V) (v:Value),cs[i]? = some x→vs[i]? = some v→rel G x v):rel G (.agg cs) (.agg ⟨vs⟩)
 | tuple (cs:List V) (vs:List Value) (hl:cs.length=vs.length) (h:∀(i:Nat) (x:V) (v:Value),cs[i]? = some x→vs[i]? = some v→rel G x v):rel G (.tuple cs) (.tuple ⟨vs⟩)
 | ptr (k off b:Nat) (h:G.ob k=some b):rel G (.ptr k off) (.pointer (some ⟨b,off,none⟩))
 | iptr (cs:List D) (off b o:Nat) (u:Nat→Value) (hF:∀(j:Nat) (x:D),cs[j]? = some x→G.F b (o+j) (u j)) (hr:∀(j:Nat) (x:D),cs[j]? = some x→relD G.F x (u j)):rel G (.iptr cs off) (.pointer (some ⟨b,o+off,none⟩))
 | own (t:Nat) (es:List (List D)) (v:Value) (h:relD G.F (.list es) v) (L:Lv) (hL:G.lv t=some L) (hsz:∀(i:Nat) (e:List D),es[i]? = some e→e.length=L.sz) (hl:(es.length=L.n∧v=L.v)∨es.length<L.n):rel G (.own t es) v
 | full (es:List (List D)) (A:Option Addr) (h:relD G.F (.list es) (.slice A es.length es.length)):rel G (.full es) (.slice A es.length es.length)
 | nil:rel G .nil (.slice none 0 0)
 | skip:rel G .skip Go.undef
 | sl (k off len cap b:Nat) (h:G.ob k=some b):rel G (.sl k off len cap) (.slice (some ⟨b,off,none⟩) len cap)
 | fn (f:FuncId) (cs:List V) (vs:List Value) (hl:cs.length=vs.length) (h:∀(i:Nat) (x:V) (v:Value),cs[i]? = some x→vs[i]? = some v→rel G x v):rel G (.fn f cs) (.func (.func f) #[] ⟨vs⟩)
 | mp (k b:Nat) (h:G.mp k=some b):rel G (.mp k) (.map (some b))
 | gr (k n:Nat) (v:Value) (h1:v.oneCell'=true) (L:Lv) (hL:G.rv k=some L) (hl:(n=L.n∧v=L.v)∨n<L.n):rel G (.gr k n) v
 | gp (k n i off:Nat) (v:Value) (h1:v.oneCell'=true) (L:Lv) (hL:G.rv k=some L) (hl:(n=L.n∧∃b,L.v.ownBlock=some b∧v=.pointer (some ⟨b,i*L.sz+off,none⟩))∨n<L.n):rel G (.gp k n i off) v
 | adr (k:Nat) (v:Value) (b:Nat) (hb:G.ob k=some b) (ht:G.tg b=some bT) (h:v=.pointer none∨v=.pointer (some ⟨b,0,none⟩)):rel G (.adr k) v
 | gs (k n off len:Nat) (v:Value) (h1:v.oneCell'=true) (L:Lv) (hL:G.rv k=some L) (hl:(n=L.n∧((∃b c,L.v.ownBlock=some b∧v=.slice (some ⟨b,off*L.sz,none⟩) len c∧len≤c)∨(len=0∧∃A c,v=.slice A 0 c)))∨n<L.n):rel G (.gs k n off len) v
variable {G G':Cx}{x:V}
theorem fG(h:G.le G')(r:rel G x v):rel G' x v:=by
 induction r with
 | undef v=>exact .undef v
 | d q=>exact .d (b8 h.F q)
 | agg cs vs hl _ ih=>exact .agg cs vs hl ih
 | tuple cs vs hl _ ih=>exact .tuple cs vs hl ih
 | ptr k off b q=>exact .ptr k off b (h.ob _ _ q)
 | iptr cs off b o u hF hr=>exact .iptr cs off b o u (λj x q=>h.F _ _ _ (hF j x q)) (λj x q=>b8 h.F (hr j x q))
 | own t es v q L hL hsz hl =>
  obtain⟨L1,q1,s1,r1⟩:=h.lv t L hL
  refine .own t es v (b8 h.F q) L1 q1 (λi e he=>by grind) ?_
  grind
 | full es A q=>exact .full es A (b8 h.F q)
 | nil=>exact .nil
 | skip=>exact .skip
 | sl k off len cap b q=>exact .sl k off len cap b (h.ob _ _ q)
 | fn f cs vs hl _ ih=>exact .fn f cs vs hl ih
 | mp k b q=>exact .mp k b (h.mp _ _ q)
 | gr k n v h1 L hL hl =>
  obtain⟨L1,q1,s1,r1⟩:=h.rv k L hL
  refine .gr k n v h1 L1 q1 ?_
  grind
 | gp k n i off v h1 L hL hl =>
  obtain⟨L1,q1,s1,r1⟩:=h.rv k L hL
  refine .gp k n i off v h1 L1 q1 ?_
  grind
 | adr k v b hb ht q=>exact .adr k v b (h.ob _ _ hb) (h.tg _ _ ht) q
 | gs k n off len v h1 L hL hl =>
  obtain⟨L1,q1,s1,r1⟩:=h.rv k L hL
  refine .gs k n off len v h1 L1 q1 ?_
  grind
def rels(G:Cx)(cs:List V)(vs:List Value):Prop:=cs.length=vs.length∧∀(i:Nat) (x:V) (v:Value),cs[i]? = some x→vs[i]? = some v→rel G x v
variable {cs:List V}{vs:List Value}
theorem fF(h:G.le G')(r:rels G cs vs):rels G' cs vs:=⟨r.1,λi x v a b=>fG h (r.2 i x v a b)⟩
theorem i6(G:Cx):rels G [] []:=⟨rfl,λi x v h=>by simp at h⟩
theorem dM(h:rel G x v)(r:rels G cs vs):rels G (x::cs) (v::vs):=by
 refine⟨by simp[r.1],λi y u a b=>?_⟩
 cases i with
 | zero=>simp_all
 | succ i=>simp at a b;exact r.2 i y u a b
theorem aV(r:rels G (x::cs) (v::vs)):rel G x v∧rels G cs vs :=
 ⟨r.2 0 x v rfl rfl,by simpa using r.1,λi y u a b=>r.2 (i+1) y u (by simpa using a) (by simpa using b)⟩
structure Sg where
 obs:List (List V)
 lns:List (TypeId×Nat)
def D.val:D→Value
 | .int k n=>.int k n
 | .bool b=>.bool b
 | .str s=>.string ⟨s.toArray⟩
 | .other v=>v
 | .list _=>undef
def relM(F:Nat→Nat→Value→Prop)(ik:IntKind)(kvs:List (Int×D))(es:List MapEntry):Prop :=
 kvs.length=es.length∧∀(i:Nat) (p:Int×D) (e:MapEntry),kvs[i]? = some p→es[i]? = some e→e.key=.int ik p.1∧relD F p.2 e.val
theorem relM_mono(h:∀b o v,F b o v→F' b o v){ik:IntKind}{kvs:List (Int×D)}{es:List MapEntry}(r:relM F ik kvs es):relM F' ik kvs es :=
 ⟨r.1,λi p e a b=>⟨(r.2 i p e a b).1,b8 h (r.2 i p e a b).2⟩⟩
def kb(F:Nat→Nat→Value→Prop)(sz:Nat)(es:List (List D))(xs:List Value):Prop :=
 (∀(i:Nat) (e:List D),es[i]? = some e→e.length=sz)∧∀(i j:Nat) (e:List D) (x:D),es[i]? = some e→e[j]? = some x→∃v,xs[i*sz+j]? = some v∧relD F x v
variable {es:List (List D)}{sz:Nat}
theorem ny(h:∀b o v,F b o v→F' b o v)(r:kb F sz es xs):kb F' sz es xs :=
 ⟨r.1,λi j e x a b=>by obtain⟨v,h1,h2⟩:=r.2 i j e x a b;grind[b8]⟩
def _root_.Go.World.holds(w:World)(base:Nat)(e:TypeId)(size:Nat)(v:Value)(n:Nat)(xs:List Value):Prop:=v=Go.undef∨w.ownsRow base e size v n xs
theorem holds_kp{size:Nat}(h:w.holds base e size v n xs)(hk:Kp w w'):w'.holds base e size v n xs:=h.imp id λq=>own_kp q hk
theorem jU{size:Nat}(h:w.holds base e size v n xs):∀k,v.ownBlock=some k→base≤k∧k<w.heap.size:=by
 rcases h with rfl | h
 simp_all[Go.undef,Value.ownBlock]
 ·exact h.lt
theorem m5{size:Nat}(h:w.holds base e size v n xs)(hg:w.grownBy w' row)(hne:v.ownBlock=none∨v.ownBlock≠row):w'.holds base e size v n xs:=h.imp id λq=>q.kept hg hne
def nq(w:World)(b:Nat):Option TypeId:=match w.heap[b]? with | some (.cells _ t _)=>some t | _=>none
def TK(w w':World):Prop:=∀b t,nq w b=some t→nq w' b=some t
variable {b:Nat}{t:TypeId}
theorem tag_lt(h:nq w b=some t):b<w.heap.size:=by
 grind[nq]
theorem tk_kp(h:Kp w w'):TK w w':=λb t q=>by
 have hl:=tag_lt q
 unfold nq at q ⊢
 rw[h.below.block b hl];exact q
theorem nk{g:Nat}(h:w.grownBy w' (some g))(hg:∀t,nq w g=some t→nq w' g=some t):TK w w':=λb t q=>by
 by_cases e:b=g
 simp_all
 ·have hl:=tag_lt q
  unfold nq at q ⊢
  rw[h.block b hl (λe2=>e (by injection e2))];exact q
theorem tag_own(h:w.ownsRow base e sz v n xs)(hb:v.ownBlock=some b):nq w b=some e:=by
 rcases h.2 with⟨rfl,_⟩|⟨g,cap,cur,rfl,_,hg,_⟩
 ·cases hb
 ·injection hb with hb
  simp_all[nq]
structure HRp (P:Program) (w0 w:World) (G:Cx) (obs:Nat→Option (List V)) (lns:Nat→Option (TypeId×Nat)):Prop where
 kp:Kp w0 w
 fs:∀b o v,G.F b o v→b<w.heap.size∧w.cell? ⟨b,o,none⟩=some v
 fb:∀b o v,G.F b o v→G.base b o v∨w0.heap.size≤b
 obd:∀k b,G.ob k=some b→obs k≠none
 obl:∀k cs,obs k=some cs→G.mp k=none→G.rv k=none→∃b vs t,G.ob k=some b∧w0.heap.size≤b∧w.heap[b]? = some (.cells ⟨vs⟩ t (0,0))∧rels G cs vs∧∀o v,¬G.F b o v
 obi:∀k k' b,G.ob k=some b→G.ob k'=some b→k=k'
 lvd:∀t L,G.lv t=some L→lns t≠none
 lvl:∀t e n,lns t=some (e,n)→∃v xs,G.lv t=some ⟨n,P.cellsOf e,v⟩∧w.holds w0.heap.size e (P.cellsOf e) v n xs∧∀b,v.ownBlock=some b→(∀k,G.ob k≠some b)∧∀o u,G.F b o u→o<n*P.cellsOf e
 lvi:∀t t' L L' b,G.lv t=some L→G.lv t'=some L'→L.v.ownBlock=some b→L'.v.ownBlock=some b→t=t'
 gb:lP w0 G.F
 obm:∀k b,G.ob k=some b→G.mp k=none
 mpl:∀k b,G.mp k=some b→w0.heap.size≤b∧∃es n ik kvs,obs k=some [.mapc ik kvs]∧w.heap[b]? = some (.map ⟨es⟩ n)∧relM G.F ik kvs es
 mpi:∀k k' b,G.mp k=some b→G.mp k'=some b→k=k'
 obr:∀k b,G.ob k=some b→G.rv k=none
 rvl:∀k L,G.rv k=some L→∃e es xs,obs k=some [.rowc e L.n es]∧L.sz=P.cellsOf e∧True∧w.ownsRow w0.heap.size e L.sz L.v es.length xs∧kb G.F L.sz es xs ∧
  ∀b,L.v.ownBlock=some b→(∀j,G.ob j≠some b)∧(∀o u,¬G.F b o u)∧∀t L',G.lv t=some L'→L'.v.ownBlock≠some b
 rvi:∀k k' L L' b,G.rv k=some L→G.rv k'=some L'→L.v.ownBlock=some b→L'.v.ownBlock=some b→k=k'
 tgs:∀b t,G.tg b=some t→nq w b=some t
def HR(P:Program)(w0 w:World)(G:Cx)(s:Sg):Prop:=HRp P w0 w G (λk=>s.obs[k]?) (λt=>s.lns[t]?)
def fresh(w w':World)(b o:Nat)(v:Value):Prop:=w.heap.size≤b∧w'.cell? ⟨b,o,none⟩=some v
def Cx.withF(G:Cx)(N:Nat→Nat→Value→Prop):Cx:={ G with F:=λb o v=>G.F b o v∨N b o v }
theorem Cx.le_withF(G:Cx)(N:Nat→Nat→Value→Prop):G.le (G.withF N):=⟨rfl,λ_ _ _ h=>.inl h,λ_ _ h=>h,λ_ L h=>⟨L,h,rfl,.inl rfl⟩,λ_ _ h=>h,λ_ L h=>⟨L,h,rfl,.inl rfl⟩,λ_ _ q=>q⟩
theorem cell_lt{o:Nat}(h:w.cell? ⟨b,o,none⟩=some v):b<w.heap.size:=World.block_lt_of_cell? w ⟨b,o,none⟩ h
theorem heap_lt'{W:World}{B:Nat}{o:Obj}(h:W.heap[B]? = some o):B<W.heap.size:=by
 grind
variable {P:Program}{lns:Nat→Option (TypeId×Nat)}{obs:Nat→Option (List V)}{w0:World}
theorem HRp.grow(h:HRp P w0 w G obs lns)(hk:Kp w w'):HRp P w0 w' (G.withF (fresh w w')) obs lns:=by
 have hb:∀b o,b<w.heap.size→w'.cell? ⟨b,o,none⟩=w.cell? ⟨b,o,none⟩:=hk.see.1
 refine⟨h.kp.trans hk,?_,?_,h.obd,?_,h.obi,h.lvd,?_,h.lvi,h.gb.mono λ_ _ _ q=>.inl q,h.obm,λk b q=>?_,h.mpi,h.obr,λk L q=>?_,h.rvi,λb t q=>tk_kp hk _ _ (h.tgs b t q)⟩
 ·rintro b o v (q | ⟨q1,q2⟩)
  ·have:=h.fs b o v q
   exact⟨zB this.1 hk.size,(hb b o this.1).trans this.2⟩
  ·exact⟨cell_lt q2,q2⟩
 ·rintro b o v (q | ⟨q1,q2⟩)
  ·exact h.fb b o v q
  ·exact .inr (zE h.kp.size q1)
 ·intro k cs q hm hv
  obtain⟨b,vs,t,h1,h2,h3,h4,h5⟩:=h.obl k cs q hm hv
  refine⟨b,vs,t,h1,h2,(hk.below.block b (heap_lt' h3)).trans h3,fF (G.le_withF _) h4,?_⟩
  rintro o v (q | ⟨q1,q2⟩)<;>simp_all
 ·intro t e n q
  obtain⟨v,xs,h1,h2,h3⟩:=h.lvl t e n q
  refine⟨v,xs,h1,holds_kp h2 hk,λb hbk=>⟨(h3 b hbk).1,?_⟩⟩
  rintro o u (q | ⟨q1,q2⟩)
  grind
  ·have:=(jU h2 b hbk).2;omega
 ·obtain⟨h1,es,n,ik,kvs,h2,h3,h4⟩:=h.mpl k b q
  exact⟨h1,es,n,ik,kvs,h2,(hk.below.block b (heap_lt' h3)).trans h3,relM_mono (λ_ _ _ q=>.inl q) h4⟩
 ·obtain⟨e,es,xs,h1,h2,h3,h4,h5,h6⟩:=h.rvl k L q
  refine⟨e,es,xs,h1,h2,h3,own_kp h4 hk,ny (λ_ _ _ q=>.inl q) h5,λb hb=>⟨(h6 b hb).1,?_,(h6 b hb).2.2⟩⟩
  rintro o u (q | ⟨q1,q2⟩)
  simp_all
  ·have:=(h4.lt b hb).2;omega
theorem HRp.kept(h:HRp P w0 w G obs lns)(hk:Kp w w'):HRp P w0 w' G obs lns:=by
 have hb:∀b o,b<w.heap.size→w'.cell? ⟨b,o,none⟩=w.cell? ⟨b,o,none⟩:=hk.see.1
 refine⟨h.kp.trans hk,?_,h.fb,h.obd,?_,h.obi,h.lvd,?_,h.lvi,h.gb,h.obm,λk b q=>?_,h.mpi,h.obr,λk L q=>?_,h.rvi,λb t q=>tk_kp hk _ _ (h.tgs b t q)⟩
 ·intro b o v q
  have:=h.fs b o v q
  exact⟨zB this.1 hk.size,(hb b o this.1).trans this.2⟩
 ·intro k cs q hm hv
  obtain⟨b,vs,t,h1,h2,h3,h4,h5⟩:=h.obl k cs q hm hv
  exact⟨b,vs,t,h1,h2,(hk.below.block b (heap_lt' h3)).trans h3,h4,h5⟩
 ·intro t e n q
  obtain⟨v,xs,h1,h2,h3⟩:=h.lvl t e n q
  exact⟨v,xs,h1,holds_kp h2 hk,h3⟩
 ·obtain⟨h1,es,n,ik,kvs,h2,h3,h4⟩:=h.mpl k b q
  exact⟨h1,es,n,ik,kvs,h2,(hk.below.block b (heap_lt' h3)).trans h3,h4⟩
 ·obtain⟨e,es,xs,h1,h2,h3,h4,h5,h6⟩:=h.rvl k L q
  grind[own_kp]
def upd{α:Type}(f:Nat→Option α)(k:Nat)(c:α):Nat→Option α:=λj=>if j=k then some c else f j
variable {α:Type}
theorem aG(f:Nat→Option α)(k:Nat)(c:α):upd f k c k=some c:=by simp[upd]
variable {k:Nat}
theorem aU(f:Nat→Option α){j:Nat}(c:α)(h:j≠k):upd f k c j=f j:=by simp[upd,h]
theorem HRp.new(h:HRp P w0 w G obs lns)(k:Nat)(hk:obs k=none)(cs:List V)(vs:List Value)(t:TypeId)(hr:rels G cs vs) :
  let G':Cx:={ G with ob:=upd G.ob k w.heap.size }
  G.le G'∧HRp P w0 (w.alloc (.cells ⟨vs⟩ t)) G' (upd obs k cs) lns:=by
 intro G'
 have hnone:G.ob k=none:=by
  cases hq:G.ob k with
  | none=>rfl
  | some b=>exact absurd hk (h.obd k b hq)
 have hle:G.le G':=by
  refine⟨rfl,λ_ _ _ q=>q,λj b q=>?_,λ_ L q=>⟨L,q,rfl,.inl rfl⟩,λ_ _ q=>q,λ_ L q=>⟨L,q,rfl,.inl rfl⟩,λ_ _ q=>q⟩
  grind[aU]
 have hkp:Kp w (w.alloc (.cells ⟨vs⟩ t)):=(Kp.refl w).alloc _
 have hob:∀j b,G'.ob j=some b→(j=k∧b=w.heap.size)∨(j≠k∧G.ob j=some b):=by
  grind[aG,aU]
 have hlt:∀j b,G.ob j=some b→b<w.heap.size:=by
  intro j b q
  cases hq:obs j with
  | none=>exact absurd hq (h.obd j b q)
  | some cs =>
   obtain⟨b',vs',t',h1,_,h3,_⟩:=h.obl j cs hq (h.obm j b q) (h.obr j b q)
   grind
 have hmk:G.mp k=none:=by
  cases hq:G.mp k with
  | none=>rfl
  | some b=>obtain⟨_,_,_,_,_,h2,_⟩:=h.mpl k b hq;simp_all
 have hrk:G.rv k=none:=by
  cases hq:G.rv k with
  | none=>rfl
  | some L=>obtain⟨_,_,_,h1,_⟩:=h.rvl k L hq;simp_all
 refine⟨hle,h.kp.trans hkp,?_,h.fb,?_,?_,?_,h.lvd,?_,h.lvi,h.gb,?_,?_,h.mpi,?_,?_,h.rvi,λb t q=>tk_kp hkp _ _ (h.tgs b t q)⟩
 ·intro b o v q
  have:=h.fs b o v q
  exact⟨zB this.1 hkp.size,(hkp.see.1 b o this.1).trans this.2⟩
 ·intro j b q
  rcases hob j b q with⟨rfl,_⟩|⟨e,q⟩
  grind[aG]
  ·rw[aU _ _ e];exact h.obd j b q
 ·intro j cs' q hm hrv
  by_cases e:j=k
  ·subst e
   rw[aG]at q
   injection q with q
   subst q
   refine⟨w.heap.size,vs,t,aG _ _ _,h.kp.size,heap_alloc_new w _,fF hle hr,λo v q=>?_⟩
   have:=(h.fs _ _ _ q).1
   omega
  ·rw[aU _ _ e]at q
   obtain⟨b,vs',t',h1,h2,h3,h4,h5⟩:=h.obl j cs' q hm hrv
   exact⟨b,vs',t',hle.ob _ _ h1,h2,(hkp.below.block b (heap_lt' h3)).trans h3,fF hle h4,h5⟩
 ·intro j j' b q q'
  rcases hob j b q with⟨e1,e2⟩|⟨e1,q1⟩<;>rcases hob j' b q' with⟨e3,e4⟩|⟨e3,q2⟩
  omega
  grind
  grind
  ·exact h.obi j j' b q1 q2
 ·intro t' e n q
  obtain⟨v,xs,h1,h2,h3⟩:=h.lvl t' e n q
  refine⟨v,xs,h1,holds_kp h2 hkp,λb hb=>⟨λj q=>?_,(h3 b hb).2⟩⟩
  rcases hob j b q with⟨_,rfl⟩|⟨_,q⟩
  ·exact absurd (jU h2 _ hb).2 (by omega)
  simp_all
 ·intro j b q
  rcases hob j b q with⟨rfl,_⟩|⟨_,q⟩
  ·exact hmk
  ·exact h.obm j b q
 ·intro j b q
  obtain⟨h1,es,n,ik,kvs,h2,h3,h4⟩:=h.mpl j b q
  have hj:j≠k:=λe=>by simp_all
  exact⟨h1,es,n,ik,kvs,by simp_all[aU],(hkp.below.block b (heap_lt' h3)).trans h3,h4⟩
 ·intro j b q
  rcases hob j b q with⟨rfl,_⟩|⟨_,q⟩
  ·exact hrk
  ·exact h.obr j b q
 ·intro j L q
  obtain⟨e,es,xs,h1,h2,h3,h4,h5,h6⟩:=h.rvl j L q
  have hj:j≠k:=λe=>by simp_all
  refine⟨e,es,xs,by simp_all[aU],h2,h3,own_kp h4 hkp,h5,λb hb=>⟨λj' q'=>?_,(h6 b hb).2⟩⟩
  rcases hob j' b q' with⟨_,rfl⟩|⟨_,q'⟩
  ·exact absurd (h4.lt _ hb).2 (by omega)
  simp_all
theorem HRp.put(h:HRp P w0 w G obs lns)(hk:G.ob k=some b)(hg:w.grownBy w' (some b))(hkt:TK w w')(hb:w'.heap[b]? = some (.cells ⟨vs⟩ t (0,0)))(hr:rels G cs vs) :
  HRp P w0 w' G (upd obs k cs) lns:=by
 have hcs:∃cs0,obs k=some cs0:=by
  cases hq:obs k with
  | none=>exact absurd hq (h.obd k b hk)
  | some c=>simp_all
 obtain⟨cs0,hq⟩:=hcs
 obtain⟨b',vs0,t0,g1,g2,g3,g4,g5⟩:=h.obl k cs0 hq (h.obm k b hk) (h.obr k b hk)
 rw[hk]at g1;injection g1 with g1;subst g1
 have hbk:∀b',b'<w.heap.size→b'≠b→w'.heap[b']? = w.heap[b']?:=λb' hl hn=>hg.block b' hl (λe=>hn (by injection e))
 refine⟨h.kp.grown hg (λj hj=>by simp_all),?_,h.fb,?_,?_,h.obi,h.lvd,?_,h.lvi,h.gb,h.obm,?_,h.mpi,h.obr,?_,h.rvi,λb t q=>hkt _ _ (h.tgs b t q)⟩
 ·intro b' o v q
  have q1:=h.fs b' o v q
  grind[World.cell?_of_block]
 ·intro j b' q
  by_cases e:j=k
  simp_all[aG]
  ·rw[aU _ _ e];exact h.obd j b' q
 ·intro j cs' q hm hrv
  by_cases e:j=k
  simp_all[aG]
  ·rw[aU _ _ e]at q
   obtain⟨b',vs',t',h1,h2,h3,h4,h5⟩:=h.obl j cs' q hm hrv
   have hne:b'≠b:=λe'=>e (h.obi j k b (e'▸h1) hk)
   grind
 ·intro t' e n q
  obtain⟨v,xs,h1,h2,h3⟩:=h.lvl t' e n q
  refine⟨v,xs,h1,?_,h3⟩
  grind[m5]
 ·intro j b' q
  obtain⟨h1,es,n,ik,kvs,h2,h3,h4⟩:=h.mpl j b' q
  have hj:j≠k:=λe=>by rw[e,h.obm k b hk]at q;cases q
  grind[aU]
 ·intro j L q
  obtain⟨e,es,xs,h1,h2,h3,h4,h5,h6⟩:=h.rvl j L q
  have hj:j≠k:=λe=>by rw[e,h.obr k b hk]at q;cases q
  exact⟨e,es,xs,by simp_all[aU],h2,h3,h4.kept hg (.inr λhv=>(h6 b hv).1 k hk),h5,h6⟩
theorem qh(w:World)(t ty e:TypeId)(i:TypeInfo)(z:Value)(base:Nat)(ht:P.underlying t=some (.slice e))(hi:P.info? e=some i)(hz:i.zero=some z)
  (hzs:z.cells.size=i.size) (v:Value) (n:Nat) (xs:List Value) (hown:w.ownsRow base e i.size v n xs)
  (a:Addr) (m c:Nat) (news:List Value) (hl:news.length=m*i.size) (hnews:∀j u,news[j]? = some u→w.cell? (a.add j)=some u) (h1:∀u∈news,u.oneCell'=true)
  (hm:0<m) (h63:n+m≤maxLen) (hbytes:(n+m)*i.bytes≤140737488355328) (hbase:base≤w.heap.size) :
  ∃g cap w',(Builtin.append_ #[t,t] ty #[v,.slice (some a) m c]).run P w=.ok (.slice (some ⟨g,0,none⟩) (n+m) cap) w' ∧
   w'.ownsRow base e i.size (.slice (some ⟨g,0,none⟩) (n+m) cap) (n+m) (xs++news)∧((v.ownBlock=some g∧w.grownBy w' (some g))∨(g=w.heap.size∧Kp w w')):=by
 have hsmall:n+m≤9223372036854775807:=by simp_all[maxLen]
 have hlen:(xs++news).length=(n+m)*i.size:=by rw[List.length_append,hown.1,hl,zG]
 have grown:∀(old:Nat),old<n+m →
   (w.drew.alloc (.cells (xs.toArray++news.toArray++Builtin.zeroCells z.cells (grownCap w (n+m) old e-(n+m))) e)).ownsRow base e i.size
    (.slice (some ⟨w.heap.size,0,none⟩) (n+m) (grownCap w (n+m) old e)) (n+m) (xs++news):=by
  intro old ho
  have hge:=grownCap_ge w (n+m) old e
  have hcm:grownCap w (n+m) old e≤maxLen:=grownCap_le_maxLen w (n+m) old e h63
  refine⟨hlen,.inr ⟨w.heap.size,_,_,rfl,hbase,heap_alloc_new w.drew _,hge,hcm,?_,?_⟩⟩
  ·simp only[Array.size_append,zF,size_zeroCells,hzs,hown.1,hl,←zG]
   simp_all
  grind
 rcases hown.2 with⟨rfl,rfl⟩|⟨g,cap,cur,rfl,hbg,hg,hnc,hcm,hcs,htake⟩
 ·have hx:xs=[]:=zA (by simp_all)
  subst hx
  have hr:=run_append_nil (P:=P) w t ty e i z ht hi hz a m c news hl hnews (by omega) (by omega) (by grind)
  have hgr:=grown 0 (by omega)
  simp only[Nat.zero_add,List.nil_append,Array.empty_append]at hgr ⊢
  exact⟨_,_,_,hr,hgr,.inr ⟨rfl,((Kp.refl w).drew).alloc _⟩⟩
 ·by_cases hroom:n+m≤cap
  ·have hfit:n*i.size+news.length≤cur.size:=by rw[hl,hcs,←zG];exact Nat.mul_le_mul_right _ hroom
   have hr:=run_append_room (P:=P) w t ty e i ht hi g n cap cur hg a m c news hl hnews h1 hroom hfit
   refine⟨_,_,_,hr,⟨hlen,.inr ⟨g,cap,_,rfl,hbg,setRow_heap w g cur _ e _ hg,hroom,hcm,?_,?_⟩⟩,.inl ⟨rfl,⟨rfl,rfl,rfl,by simp,λk _ hk=>setRow_other w g k _ (λe=>hk (by simp[e]))⟩⟩⟩<;>grind
  ·have holds:∀j u,xs[j]? = some u→w.cell? ((⟨g,0,none⟩:Addr).add j)=some u:=hown.cells (g:=g) rfl
   have hr:=run_append_grow (P:=P) w t ty e i z ht hi hz ⟨g,0,none⟩ n cap xs hown.1 holds a m c news hl hnews (by omega) (by omega) (growslice_fits (by omega) hbytes)
   have hgr:=grown cap (by omega)
   exact⟨_,_,_,hr,hgr,.inr ⟨rfl,((Kp.refl w).drew).alloc _⟩⟩
theorem HRp.begin(h:HRp P w0 w G obs lns)(t:Nat)(ht:lns t=none)(e:TypeId) :
  let G':Cx:={ G with lv:=upd G.lv t ⟨0,P.cellsOf e,.slice none 0 0⟩ }
  G.le G'∧HRp P w0 w G' obs (upd lns t (e,0)):=by
 intro G'
 have hnone:G.lv t=none:=by
  cases hq:G.lv t with
  | none=>rfl
  | some b=>exact absurd ht (h.lvd t b hq)
 have hlv:∀j L,G'.lv j=some L→(j=t∧L=⟨0,P.cellsOf e,.slice none 0 0⟩)∨(j≠t∧G.lv j=some L):=by
  grind[aG,aU]
 have hle:G.le G':=by
  refine⟨rfl,λ_ _ _ q=>q,λ_ _ q=>q,λj L q=>⟨L,?_,rfl,.inl rfl⟩,λ_ _ q=>q,λ_ L q=>⟨L,q,rfl,.inl rfl⟩,λ_ _ q=>q⟩
  grind[aU]
 refine⟨hle,h.kp,h.fs,h.fb,h.obd,?_,h.obi,?_,?_,?_,h.gb,h.obm,h.mpl,h.mpi,h.obr,λk L q=>?_,h.rvi,h.tgs⟩
 ·intro k cs q hm hrv
  obtain⟨b,vs,t',h1,h2,h3,h4,h5⟩:=h.obl k cs q hm hrv
  grind[fF]
 ·intro j L q
  rcases hlv j L q with⟨rfl,_⟩|⟨e,q⟩
  grind[aG]
  ·rw[aU _ _ e];exact h.lvd j L q
 ·intro j e' n q
  by_cases ej:j=t
  ·subst ej
   rw[aG]at q;injection q with q;injection q with q1 q2;subst q1;subst q2
   exact⟨.slice none 0 0,[],aG _ _ _,.inr (World.ownsRow_nil _ _ _ _),λb hb=>by grind[Value.ownBlock]⟩
  ·rw[aU _ _ ej]at q
   obtain⟨v,xs,h1,h2,h3⟩:=h.lvl j e' n q
   grind[aU]
 ·intro j j' L L' b q q' h1 h2
  rcases hlv j L q with⟨_,rfl⟩|⟨_,q⟩
  simp_all[Value.ownBlock]
  ·rcases hlv j' L' q' with⟨_,rfl⟩|⟨_,q'⟩
   simp_all[Value.ownBlock]
   ·exact h.lvi j j' L L' b q q' h1 h2
 ·obtain⟨e',es,xs,h1,h2,h3,h4,h5,h6⟩:=h.rvl k L q
  grind[Value.ownBlock]
variable {cap m:Nat}
theorem HRp.app(h:HRp P w0 w G obs lns){t g:Nat}{news:List Value}(hl:lns t=some (e,n))(hv:G.lv t=some ⟨n,P.cellsOf e,v⟩)
  (hown:w.ownsRow w0.heap.size e (P.cellsOf e) v n xs) (hown':w'.ownsRow w0.heap.size e (P.cellsOf e) (.slice (some ⟨g,0,none⟩) (n+m) cap) (n+m) (xs++news)) (hm:0<m)
  (hat:(v.ownBlock=some g∧w.grownBy w' (some g))∨(g=w.heap.size∧Kp w w')) :
  let G':Cx:={ base:=G.base,F:=λb o u=>G.F b o u∨(b=g∧o<(n+m)*P.cellsOf e∧w'.cell? ⟨g,o,none⟩=some u),ob:=G.ob,mp:=G.mp,rv:=G.rv,tg:=G.tg,lv:=upd G.lv t ⟨n+m,P.cellsOf e,.slice (some ⟨g,0,none⟩) (n+m) cap⟩ }
  G.le G'∧HRp P w0 w' G' obs (upd lns t (e,n+m)):=by
 intro G'
 obtain⟨v0,xs0,g1,g2,g3⟩:=h.lvl t e n hl
 rw[hv]at g1
 injection g1 with g1
 injection g1 with _ _ g1
 subst g1
 have hlt':g<w'.heap.size:=(hown'.lt g rfl).2
 -- blocks other than g are as they were
 have hblk:∀b,b<w.heap.size→b≠g→w'.heap[b]? = w.heap[b]?:=by
  intro b hb hn
  rcases hat with⟨_,hg⟩|⟨_,hk⟩
  ·exact hg.block b hb (λe=>hn (by injection e))
  ·exact hk.below.block b hb
 have hsize:w.heap.size≤w'.heap.size:=by
  grind
 have hFg:∀o u,G.F g o u→o<n*P.cellsOf e∧w'.cell? ⟨g,o,none⟩=some u:=by
  intro o u q
  rcases hat with⟨hb,hg⟩|⟨hb,hk⟩
  ·have ho:=(g3 g hb).2 o u q
   refine⟨ho,?_⟩
   have hx:o<xs.length:=by rw[hown.1];exact ho
   have c1:=hown.cells hb o xs[o] (List.getElem?_eq_getElem hx)
   have c2:=hown'.cells (g:=g) rfl o xs[o] (by grind)
   have hadd:(⟨g,0,none⟩:Addr).add o=⟨g,o,none⟩:=by simp_all[Addr.add]
   rw[hadd]at c1 c2
   rw[c2,←c1]
   exact (h.fs g o u q).2
  ·have:=(h.fs g o u q).1;omega
 have hgob:∀k,G.ob k≠some g:=by
  intro k q
  rcases hat with⟨hb,hg⟩|⟨hb,hk⟩
  simp_all
  ·cases hq:obs k with
   | none=>exact absurd hq (h.obd k g q)
   | some cs =>
    obtain⟨b',_,_,h1,_,h3,_⟩:=h.obl k cs hq (h.obm k g q) (h.obr k g q)
    simp_all
 have hlv:∀j L,G'.lv j=some L→(j=t∧L=⟨n+m,P.cellsOf e,.slice (some ⟨g,0,none⟩) (n+m) cap⟩)∨(j≠t∧G.lv j=some L):=by
  grind[aG,aU]
 -- other growing lists lie elsewhere
 have hoth:∀j L,j≠t→G.lv j=some L→L.v.ownBlock≠some g:=by
  intro j L hj q hb'
  rcases hat with⟨hb,hg⟩|⟨hb,hk⟩
  ·exact hj (h.lvi j t L _ g q hv hb' hb)
  ·cases hq:lns j with
   | none=>exact absurd hq (h.lvd j L q)
   | some en =>
    obtain⟨v',xs',h1,h2,_⟩:=h.lvl j en.1 en.2 hq
    rw[q]at h1;injection h1 with h1;subst h1
    have:=(jU h2 g hb').2;omega
 have hle:G.le G':=by
  refine⟨rfl,λ_ _ _ q=>.inl q,λ_ _ q=>q,λj L q=>?_,λ_ _ q=>q,λ_ L q=>⟨L,q,rfl,.inl rfl⟩,λ_ _ q=>q⟩
  grind[upd]
 refine⟨hle,?_,?_,?_,h.obd,?_,h.obi,?_,?_,?_,h.gb.mono λ_ _ _ q=>.inl q,h.obm,λj b q=>?_,h.mpi,h.obr,λj L q=>?_,h.rvi,λb t q=>?_⟩
 ·rcases hat with⟨hb,hg⟩|⟨hb,hk⟩
  ·exact h.kp.grown hg (λk hk=>by injection hk with hk;subst hk;exact (hown.lt _ hb).1)
  ·exact h.kp.trans hk
 ·rintro b o u (q | ⟨rfl,_,q2⟩)
  ·have q1:=h.fs b o u q
   grind[World.cell?_of_block]
  simp_all
 ·rintro b o u (q | ⟨rfl,_,q2⟩)
  ·exact h.fb b o u q
  ·exact .inr (hown'.lt _ rfl).1
 ·intro k cs q hm hrv
  obtain⟨b,vs,t',h1,h2,h3,h4,h5⟩:=h.obl k cs q hm hrv
  grind[fF]
 ·intro j L q
  rcases hlv j L q with⟨rfl,_⟩|⟨e,q⟩
  grind[aG]
  ·rw[aU _ _ e];exact h.lvd j L q
 ·intro j e' n' q
  by_cases ej:j=t
  ·subst ej
   rw[aG]at q;injection q with q;injection q with q1 q2;subst q1;subst q2
   refine⟨_,xs++news,aG _ _ _,.inr hown',λb hb=>?_⟩
   have hbg:g=b:=by injection hb
   grind
  ·rw[aU _ _ ej]at q
   obtain⟨v',xs',h1,h2,h3⟩:=h.lvl j e' n' q
   refine⟨v',xs',(by show upd G.lv t _ j=_;rw[aU _ _ ej];exact h1),?_,λb hb=>⟨(h3 b hb).1,?_⟩⟩<;>grind[m5,holds_kp]
 ·intro j j' L L' b q q' h1 h2
  rcases hlv j L q with⟨e1,r1⟩|⟨e1,q1⟩<;>rcases hlv j' L' q' with⟨e2,r2⟩|⟨e2,q2⟩
  omega
  ·subst r1
   have hbg:g=b:=by injection h1
   grind
  ·subst r2
   have hbg:g=b:=by injection h2
   grind
  ·exact h.lvi j j' L L' b q1 q2 h1 h2
 ·obtain⟨h1,es,n',ik,kvs,h2,h3,h4⟩:=h.mpl j b q
  have hbg:b≠g:=by
   rintro rfl
   rcases hat with⟨hb,hg⟩|⟨hb,hk⟩
   ·rcases hown.2 with⟨rfl,_⟩|⟨g',cap',cur,rfl,_,hgc,_⟩
    ·cases hb
    ·have:g'=b:=by injection hb
     simp_all
   simp_all
  grind[relM_mono]
 ·obtain⟨e',es,xs',h1,h2,h3,h4,h5,h6⟩:=h.rvl j L q
  have hbg:∀b,L.v.ownBlock=some b→b≠g:=by
   rintro b hb rfl
   rcases hat with⟨hb',hg⟩|⟨hb',hk⟩
   grind
   ·have:=(h4.lt b hb).2;omega
  refine⟨e',es,xs',h1,h2,h3,?_,ny (λ_ _ _ q=>.inl q) h5,λb hb=>⟨(h6 b hb).1,?_,λj' L' q'=>?_⟩⟩
  ·rcases hat with⟨hb',hg⟩|⟨hb',hk⟩
   ·exact h4.kept hg (.inr λhv'=>hbg g hv' rfl)
   grind[own_kp]
  grind
  ·rcases hlv j' L' q' with⟨_,rfl⟩|⟨_,q'⟩
   ·intro hh
    have:g=b:=by injection hh
    simp_all
   grind
 ·refine (show TK w w' from ?_) b t (h.tgs b t q)
  rcases hat with⟨hb,hg⟩|⟨_,hk⟩
  ·exact nk hg λt' q'=>by
    have h1:=tag_own hown hb
    have h2:=tag_own hown' (b:=g) rfl
    simp_all
  grind[tk_kp]
inductive SK where
 | int (k:IntKind)
 | bool
 | str
 deriving DecidableEq
def D.kind?:D→Option SK
 | .int k _=>some (.int k)
 | .bool _=>some .bool
 | .str _=>some .str
 | _=>none
def eqD:D→D→Bool
 | .int _ a,.int _ b=>a==b
 | .bool a,.bool b=>a==b
 | .str a,.str b=>a==b
 | _,_=>false
def eqAll:List D→List D→Bool
 | [],[]=>true
 | x::xs,y::ys=>eqD x y&&eqAll xs ys
 | _,_=>false
def EqOk(P:Program)(t:TypeId)(ks:List SK):Prop :=
 P.eqGuardType P.depth t=false∧∀xs ys:List D,xs.map D.kind? = ks.map some→ys.map D.kind? = ks.map some→∀w,(Op.equal t (.agg ⟨xs.map D.val⟩) (.agg ⟨ys.map D.val⟩)).run P w=.ok (eqAll xs ys) w
structure Pg (P:Program) where
 mixed:P.follows .mixedOrders=true
 E:TypeId→Option (List SK)
 hE:∀t ks,E t=some ks→EqOk P t ks
def litC:Value→V
 | .int k n=>.d (.int k n)
 | .bool b=>.d (.bool b)
 | .string s=>.d (.str s.data.toList)
 | .slice none n c=>if n=0∧c=0 then .nil else .d (.other (.slice none n c))
 | .func (.func f) fs cs=>if fs.toList=[]∧cs.toList=[]then .fn f []else .d (.other (.func (.func f) fs cs))
 | v=>if v.oneCell'=true then .d (.other v)else .undef
def lit:Value→V
 | .agg cs=>.agg (cs.toList.map litC)
 | v=>litC v
theorem litC_rel(G:Cx)(v:Value):rel G (litC v) v:=by
 unfold litC
 split
 ·exact .d (.int _ _)
 ·exact .d (.bool _)
 ·rename_i s
  have:(⟨s.data.toList.toArray⟩:ByteArray)=s:=by cases s;simp
  exact .d (by have h:=relD.str (F:=G.F) s.data.toList;omega)
 ·split
  ·rename_i h;obtain⟨rfl,rfl⟩:=h;exact .nil
  ·exact .d (.other _ rfl)
 ·rename_i f fs cs
  split
  ·rename_i h
   obtain⟨h1,h2⟩:=h
   have e1:fs=#[]:=by simp_all
   have e2:cs=#[]:=by simp_all
   subst e1;subst e2
   exact .fn _ [] [] rfl (λi x v h=>by simp at h)
  ·exact .d (.other _ rfl)
 ·split
  ·exact .d (.other _ ‹_›)
  ·exact .undef _
theorem lit_rel(G:Cx)(v:Value):rel G (lit v) v:=by
  unfold lit
  split
  · rename_i cs
    have h:=rel.agg (G:=G) (cs.toList.map litC) cs.toList (by simp) (λi x v h1 h2=>by
      grind[litC_rel])
    simpa using h
  grind[litC_rel]
abbrev Fr:=List V
def FR(G:Cx)(fr:Fr)(a:Act):Prop:=fr.length=a.tmps.size∧∀t,rel G (fr.getD t .undef) (a.tmps.getD t undef)
def aN(fr:Fr):Operand→V
 | .tmp t=>fr.getD t .undef
 | .const v=>lit v
 | .global g=>.d (.other (.pointer (some ⟨g,0,none⟩)))
 | .func f=>.fn f []
variable {fr:Fr}
theorem aK{a:Act}(h:FR G fr a)(x:Operand):rel G (aN fr x) (a.eval x):=by
 cases x with
 | tmp t=>exact h.2 t
 | const v=>exact lit_rel G v
 | global g=>exact .d (.other _ rfl)
 | func f=>exact .fn _ [] [] rfl (λi x v h=>by simp at h)
theorem ku(h:G.le G'){a:Act}(r:FR G fr a):FR G' fr a:=⟨r.1,λt=>fG h (r.2 t)⟩
def putF(fr:Fr)(dst:Option Tmp)(x:V):Fr:=match dst with | some d=>fr.set d x | none=>fr
theorem ii{a:Act}(h:FR G fr a)(r:rel G x v)(dst:Option Tmp):FR G (putF fr dst x) (a.put dst v):=by
 cases dst with
 | none=>exact h
 | some d =>
  refine⟨by simp[putF,Act.put,h.1],λt=>?_⟩
  simp only[putF,Act.put,List.getD_eq_getElem?_getD,Array.getD_eq_getD_getElem?,List.getElem?_set,Array.getElem?_setIfInBounds]
  by_cases e:d=t
  ·subst e
   rw[qV rfl,qV rfl]
   by_cases hl:d<fr.length
   ·rw[qV hl,qV (h.1▸hl)];exact r
   ·rw[qU hl];exact .undef _
  ·rw[qU e,qU e]
   have:=h.2 t
   simp_all
def V.one:V→Bool
 | .undef=>false
 | .skip=>false
 | .agg _=>false
 | .tuple _=>false
 | _=>true
theorem one_rel(r:rel G x v)(h:x.one=true):v.oneCell'=true:=by
 cases r with
 | undef v=>grind[V.one]
 | skip=>grind[V.one]
 | d q=>cases q<;>first | rfl | assumption
 | agg cs vs _ _=>grind[V.one]
 | tuple cs vs _ _=>grind[V.one]
 | own t es v q=>cases q<;>rfl
 | gr k n v h1=>exact h1
 | gp k n i off v h1=>exact h1
 | adr k v b _ _ q=>rcases q with rfl | rfl<;>rfl
 | gs k n off len v h1=>exact h1
 | _=>rfl
def V.cells?:V→Option (List V)
 | .agg cs=>some cs
 | x=>if x.one then some [x]else none
theorem cells_one(h:v.oneCell'=true):v.cells=#[v]:=by cases v<;>first | rfl | grind[Value.oneCell']
theorem gQ(r:rel G x v)(h:x.cells? = some cs):rels G cs v.cells.toList:=by
 cases x with
 | agg c =>
  simp only[V.cells?]at h
  injection h with h;subst h
  cases r with
  | agg _ vs hl hr=>exact⟨hl,hr⟩
 | _ =>
  simp only[V.cells?]at h
  split at h
  ·rename_i ho
   injection h with h;subst h
   rw[cells_one (one_rel r ho)]
   exact dM r (i6 G)
  ·cases h
def V.data?:V→Option D
 | .d x=>some x
 | .own _ es=>some (.list es)
 | .full es=>some (.list es)
 | .nil=>some (.list [])
 | .fn f []=>some (.other (.func (.func f) #[] #[]))
 | _=>none
theorem data_rel{y:D}(r:rel G x v)(h:x.data? = some y):relD G.F y v:=by
 cases r with
 | d q=>simp_all[V.data?]
 | own t es v q=>simp_all[V.data?]
 | full es A q=>simp_all[V.data?]
 | nil=>simp only[V.data?]at h;injection h with h;subst h;exact .nil _ _
 | fn f cs vs hl hr =>
  cases cs with
  | nil =>
   simp only[V.data?]at h;injection h with h;subst h
   have:vs=[]:=zA hl.symm
   subst this;exact .other _ rfl
  | cons=>grind[V.data?]
 | _=>simp[V.data?]at h
def V.list?(x:V):Option (List (List D)):=match x.data? with | some (.list es)=>some es | some (.other (.slice _ 0 _))=>some [] | _=>none
theorem nI(r:rel G x v)(h:x.list? = some es):relD G.F (.list es) v:=by
 unfold V.list? at h
 split at h
 grind[data_rel]
 ·rename_i A c h'
  injection h with h;subst h
  have:=data_rel r h'
  cases this
  exact .nil _ _
 ·cases h
def ky(op:BinOp)(k:IntKind)(a b:Int):Option D :=
 match op with
 | .add=>some (.int k (k.wrap (a+b)))
 | .sub=>some (.int k (k.wrap (a-b)))
 | .mul=>some (.int k (k.wrap (a*b)))
 | .quo=>if b=0 then none else some (.int k (k.wrap (a.tdiv b)))
 | .rem=>if b=0 then none else some (.int k (a.tmod b))
 | .and=>some (.int k (k.wrap (BitVec.ofInt k.bits a &&& BitVec.ofInt k.bits b).toNat))
 | .or=>some (.int k (k.wrap (BitVec.ofInt k.bits a ||| BitVec.ofInt k.bits b).toNat))
 | .xor=>some (.int k (k.wrap (BitVec.ofInt k.bits a ^^^ BitVec.ofInt k.bits b).toNat))
 | .andNot=>some (.int k (k.wrap (BitVec.ofInt k.bits a &&& ~~~BitVec.ofInt k.bits b).toNat))
 | .eql=>some (.bool (a==b))
 | .neq=>some (.bool (a != b))
 | .lss=>some (.bool (decide (a<b)))
 | .leq=>some (.bool (decide (a≤b)))
 | .gtr=>some (.bool (decide (a>b)))
 | .geq=>some (.bool (decide (a≥b)))
 | .shl=>none
 | .shr=>none
def pC(op:BinOp)(k:IntKind)(a b:Int):Option D :=
 if b<0 then none else
 match op with
 | .shl=>some (.int k (k.wrap (a*2 ^ (min b.toNat k.bits))))
 | .shr=>some (.int k (a.fdiv (2 ^ (min b.toNat k.bits))))
 | _=>none
def strBin(op:BinOp)(a b:List UInt8):Option D :=
 match op with
 | .add=>if a.length+b.length≤9223372036854775807 then some (.str (a++b))else none
 | .eql=>some (.bool (a==b))
 | .neq=>some (.bool (!(a==b)))
 | .lss=>some (.bool (Op.bytesLess a b))
 | .leq=>some (.bool (Op.bytesLess a b||a==b))
 | .gtr=>some (.bool (!(Op.bytesLess a b||a==b)))
 | .geq=>some (.bool (!(Op.bytesLess a b)))
 | _=>none
def binD(op:BinOp)(x y:D):Option D :=
 match x,y with
 | .int k a,.int k' b =>
  match op with
  | .shl=>pC .shl k a b
  | .shr=>pC .shr k a b
  | _=>if k=k' then ky op k a b else none
 | .str a,.str b=>strBin op a b
 | _,_=>none
variable {op:BinOp}{xo yo:Operand}
theorem binD_ok  {F:Nat → Nat → Value → Prop}    {x y z:D} {u:Value} (hx : relD F x v) (hy : relD F y u) (h : binD op x y = some z) (w : World) :
    ∃r,((do eqGuard op t xo yo v u;binOp op t v u):Sem Value).run P w=.ok r w∧relD F z r:=by
  cases hx with
  | int k a =>
    cases hy with
    | int k' b =>
      have hg:(eqGuard op t xo yo (.int k a) (.int k' b)).run P w=.ok () w:=by
        simp_all[eqGuard]
      simp only[binD]at h
      cases op
      case shl =>
        simp only[pC]at h
        split at h
        · cases h
        · rename_i hn;injection h with h;subst h;exact⟨_,by simp[hg,binOp,Op.shift,hn],.int _ _⟩
      case shr =>
        simp only[pC]at h
        split at h
        · cases h
        · rename_i hn;injection h with h;subst h;exact⟨_,by simp[hg,binOp,Op.shift,hn],.int _ _⟩
      all_goals
        simp only at h
        split at h
        · rename_i hk
          subst hk
          simp only[ky]at h
          first
            | (injection h with h;subst h;exact⟨_,by simp only[Sem.run_bind,hg,Result.andThen_ok,binOp,ne_eq,not_true_eq_false,qW,Op.intArith,Op.intBits,Op.intCmp];rfl,by constructor⟩)
            | (split at h
               · cases h
               · rename_i hn;injection h with h;subst h;exact⟨_,by simp[hg,binOp,Op.intDiv,hn];rfl,by constructor⟩)
        · cases h
    | _=>simp[binD]at h
  | str a =>
    cases hy with
    | str b =>
      have hg:(eqGuard op t xo yo (.string ⟨a.toArray⟩) (.string ⟨b.toArray⟩)).run P w=.ok () w:=by
        simp_all[eqGuard]
      have hl:∀l:List UInt8,(⟨l.toArray⟩:ByteArray).toList=l:=λl=>by simp_all
      simp only[binD,strBin]at h
      cases op
      case add =>
        simp only at h
        split at h
        · rename_i hle
          injection h with h;subst h
          refine⟨_,?_,.str _⟩
          have hs:¬(((⟨a.toArray⟩:ByteArray).size+(⟨b.toArray⟩:ByteArray).size:Nat):Int)>IntKind.i64.max:=by
            grind[ByteArray.size,IntKind.max,IntKind.bits]
          have hap:(⟨a.toArray⟩:ByteArray)++⟨b.toArray⟩=⟨(a++b).toArray⟩:=by
            apply ByteArray.ext;simp
          simp_all[binOp,Op.stringOp]
        · cases h
      all_goals
        first
          | (simp only at h;cases h;done)
          | (injection h with h;subst h;exact⟨_,by simp only[Sem.run_bind,hg,Result.andThen_ok,binOp,Op.stringOp,hl];rfl,by constructor⟩)
    | _=>simp[binD]at h
  | _=>simp[binD]at h
def aggT(P:Program)(t:TypeId):Option Bool :=
 match P.underlying t with
 | some (.struct _)=>some true
 | some (.array _ _)=>some true
 | some _=>some false
 | none=>none
def bs(P:Program)(t:TypeId):Option Nat:=(P.info? t).map (·.size)
theorem cn(h:bs P t=some n)(w:World):(sizeOf t).run P w=.ok n w:=by
 unfold bs at h
 cases hi:P.info? t<;>simp_all[sizeOf,typeInfo]
theorem run_agg{b:Bool}(h:aggT P t=some b)(w:World):(isAgg t).run P w=.ok b w:=by
 unfold aggT at h
 cases hu:P.underlying t with
 | none=>simp_all
 | some d =>
  rw[hu]at h
  simp only[isAgg,Sem.run_bind,run_underlying hu,Result.andThen_ok]
  cases d<;>simp_all
def jv(P:Program)(t:TypeId)(cs:List V)(off:Nat):Option V :=
 match aggT P t with
 | some true=>match bs P t with
  | some n=>if off+n≤cs.length then some (.agg ((cs.drop off).take n))else none
  | none=>none
 | some false=>cs[off]?
 | none=>none
theorem ml(r:rels G cs vs)(off n:Nat):rels G ((cs.drop off).take n) ((vs.drop off).take n):=by
 refine⟨by simp[r.1],λi x v h1 h2=>?_⟩
 rw[List.getElem?_take]at h1 h2
 split at h1
 ·rename_i hi
  rw[qV hi]at h2
  rw[List.getElem?_drop]at h1 h2
  exact r.2 _ x v h1 h2
 ·cases h1
variable {off:Nat}
theorem partV_ok(h:jv P t cs off=some x)(r:rels G cs vs)(w:World):∃v,(part t ⟨vs⟩ off).run P w=.ok v w∧rel G x v:=by
 unfold jv at h
 cases ha:aggT P t with
 | none=>simp_all
 | some b =>
  rw[ha]at h
  cases b with
  | true =>
   cases hs:bs P t with
   | none=>simp_all
   | some n =>
    rw[hs]at h
    simp only at h
    split at h
    ·rename_i hle
     injection h with h;subst h
     refine⟨.agg ⟨(vs.drop off).take n⟩,?_,?_⟩
     simp_all[part,run_agg,cn]
     ·have:=ml r off n
      exact .agg _ _ this.1 this.2
    ·cases h
  | false =>
   simp only at h
   have hlt:off<cs.length:=by
    grind
   have hv:vs[off]? = some (vs[off]'(r.1▸hlt)):=List.getElem?_eq_getElem _
   refine⟨vs[off]'(r.1▸hlt),?_,r.2 off x _ h hv⟩
   simp[part,run_agg ha,r.1▸hlt]
theorem me        {o:Nat}  (h : jv P t cs off = some x) (r : rels G cs vs) (hc : ∀ (j : Nat) v, vs[j]? = some v → w.cell? ⟨b, o + j, none⟩ = some v) :
    ∃v,(loadVar t ⟨b,o+off,none⟩).run P w=.ok v w∧rel G x v:=by
  unfold jv at h
  cases ha:aggT P t with
  | none=>simp_all
  | some q =>
    rw[ha]at h
    cases q with
    | true =>
      cases hs:bs P t with
      | none=>simp_all
      | some n =>
        rw[hs]at h
        simp only at h
        split at h
        · rename_i hle
          injection h with h;subst h
          refine⟨.agg ⟨(vs.drop off).take n⟩,?_,?_⟩
          · have hl:((vs.drop off).take n).length=n:=by simp;have:=r.1;omega
            have:=run_loadCells_list (P:=P) w ⟨b,o+off,none⟩ ((vs.drop off).take n) (λj v hj=>by
              simp_all[Addr.add_lit,List.getElem?_take,zH])
            simp_all[loadVar,run_agg,cn]
          · have:=ml r off n
            exact .agg _ _ this.1 this.2
        · cases h
    | false =>
      simp only at h
      have hlt:off<cs.length:=by
        grind
      have hv:vs[off]? = some (vs[off]'(r.1▸hlt)):=List.getElem?_eq_getElem _
      refine⟨vs[off]'(r.1▸hlt),?_,r.2 off x _ h hv⟩
      simp[loadVar,run_agg ha,hc _ _ hv]
def gM(cs:List D):List V:=cs.map .d
theorem mQ{cs:List D}{u:Nat→Value}(hr:∀(j:Nat) (x:D),cs[j]? = some x→relD G.F x (u j)):rels G (gM cs) ((List.range cs.length).map u):=by
 refine⟨by simp[gM],λi x v h1 h2=>?_⟩
 unfold gM at h1
 rw[List.getElem?_map]at h1
 cases hq:cs[i]? with
 | none=>simp_all
 | some y =>
  rw[hq]at h1;simp at h1;subst h1
  have hlt:i<cs.length:=by
   grind
  rw[List.getElem?_map,List.getElem?_range hlt]at h2
  simp at h2;subst h2
  exact .d (hr i y hq)
def aJ(P:Program)(t:TypeId)(f:Nat):Option (Nat×TypeId):=match P.underlying t with | some (.struct fs)=>(fs[f]?).map λfd=>(fd.offset,fd.type) | _=>none
variable {f:Nat}{ty:TypeId}
theorem pP(h:aJ P t f=some (off,ty)):∃fs fd,P.underlying t=some (.struct fs)∧fs[f]? = some fd∧fd.offset=off∧fd.type=ty:=by
 grind[aJ]
def gw(P:Program)(t:TypeId)(x:V)(f:Nat):Option V :=
 match aJ P t f with
 | none=>none
 | some (fo,ty) =>
  match bs P ty with
  | none=>none
  | some n=>if n=0 then none else
   match x with
   | .ptr k off=>some (.ptr k (off+fo))
   | .iptr cs off=>some (.iptr cs (off+fo))
   | _=>none
variable {y:V}
theorem nW(r:rel G x v)(h:gw P t x f=some y)(w:World):∃u,(Instr.fieldAt t v f).run P w=.ok u w∧rel G y u:=by
 unfold gw at h
 split at h
 ·cases h
 ·rename_i fo ty hf
  obtain⟨fs,fd,hu,hfd,h1,h2⟩:=pP hf
  subst h1;subst h2
  cases hs:bs P fd.type with
  | none=>simp_all
  | some n =>
   rw[hs]at h
   simp only at h
   split at h
   ·cases h
   ·rename_i hn
    cases r with
    | ptr k off b q =>
     simp only at h;injection h with h;subst h
     refine⟨_,?_,.ptr k (off+fd.offset) b q⟩
     simp_all[Instr.fieldAt,run_underlying,Instr.sureAddr,fieldPlace,cn,Addr.add_lit]
    | iptr cs off b o u hF hr =>
     simp only at h;injection h with h;subst h
     refine⟨_,?_,.iptr cs (off+fd.offset) b o u hF hr⟩
     simp_all[Instr.fieldAt,run_underlying,Instr.sureAddr,fieldPlace,cn,Addr.add_lit]
    | _=>simp at h
def fieldV(P:Program)(t:TypeId)(x:V)(f:Nat):Option V :=
 match aJ P t f,x with
 | some (fo,ty),.agg cs=>jv P ty cs fo
 | _,_=>none
theorem fieldV_ok(r:rel G x v)(h:fieldV P t x f=some y)(w:World):∃u,(Instr.field t v f).run P w=.ok u w∧rel G y u:=by
 unfold fieldV at h
 split at h
 ·rename_i fo ty cs hf
  obtain⟨fs,fd,hu,hfd,h1,h2⟩:=pP hf
  subst h1;subst h2
  cases r with
  | agg _ vs hl hr =>
   obtain⟨u,h1,h2⟩:=partV_ok h ⟨hl,hr⟩ w
   simp_all[Instr.field,run_underlying,asAgg]
 ·cases h
def extractV(x:V)(i:Nat):Option V:=match x with | .tuple vs=>vs[i]? | _=>none
theorem extractV_ok{i:Nat}(r:rel G x v)(h:extractV x i=some y)(w:World):∃u,(Instr.extract v i).run P w=.ok u w∧rel G y u:=by
 unfold extractV at h
 cases r with
 | tuple cs vs hl hr =>
  simp only at h
  have hlt:i<cs.length:=by
   grind
  have hv:vs[i]? = some (vs[i]'(hl▸hlt)):=List.getElem?_eq_getElem _
  exact⟨_,by simp[Instr.extract,hl▸hlt],hr i y _ h hv⟩
 | _=>simp at h
def globA(x:V)(k:Nat):Option V:=match x with
 | .d (.other (.pointer (some ⟨b,off,none⟩)))=>some (.d (.other (.pointer (some ⟨b,off+k,none⟩))))
 | _=>none
def mZ(P:Program)(t:TypeId)(x i:V):Option V :=
 match i with
 | .d (.int _ n) =>
  if n<0 then none else
  match P.underlying t with
  | some (.slice e) =>
   match bs P e with
   | none=>none
   | some sz =>
    match x with
    | .sl k off len _=>if n.toNat<len then some (.ptr k (off+n.toNat*sz))else none
    | _=>match x.list? with
     | some es=>match es[n.toNat]? with
      | some c=>if c.length=sz then some (.iptr c 0)else none
      | none=>none
     | none=>none
  | some (.array len e) =>
   match bs P e with
   | none=>none
   | some sz=>if n.toNat<len then
     match x with
     | .ptr k off=>some (.ptr k (off+n.toNat*sz))
     | .iptr cs off=>some (.iptr cs (off+n.toNat*sz))
     | x=>globA x (n.toNat*sz)
    else none
  | _=>none
 | _=>none
theorem nJ(h:relD F (.list es) v):∃A c,v=.slice A es.length c:=by
 cases h<;>simp_all
theorem aF{l:List α}{i:Nat}{x:α}(h:l[i]? = some x):i<l.length:=by
 grind
theorem indexAddr_list{n:Int}{k:IntKind}{c:List D}(hv:relD G.F (.list es) v)(hu:P.underlying t=some (.slice e))(hs:bs P e=some sz)(hn:¬n<0)(hc:es[n.toNat]? = some c)(hl:c.length=sz)(w:World) :
  ∃u,(Instr.indexAt t v (.int k n)).run P w=.ok u w∧rel G (.iptr c 0) u:=by
 cases hv with
 | nil A c'=>simp at hc
 | list _ b off c' sz' u hne hcap hsz hF hr =>
  have hlt:=aF hc
  have e1:=hsz _ _ hc
  have e2:sz'=sz:=by omega
  subst e2
  refine⟨.pointer (some ⟨b,off+n.toNat*sz'+0,none⟩),?_,.iptr c 0 b (off+n.toNat*sz') (λj=>u n.toNat j) (λj x hx=>hF _ j c x hc hx) (λj x hx=>hr _ j c x hc hx)⟩
  have h1:(0:Int)≤n:=by omega
  have h2:n<(es.length:Int):=by omega
  simp[Instr.indexAt,asIntOf,run_underlying hu,h1,h2,cn hs,Addr.add_lit]
variable {vi:Value}
theorem indexAddrV_ok{i:V}(r:rel G x v)(ri:rel G i vi)(h:mZ P t x i=some y)(w:World):∃u,(Instr.indexAt t v vi).run P w=.ok u w∧rel G y u:=by
 unfold mZ at h
 split at h
 ·rename_i k n
  split at h
  ·cases h
  ·rename_i hn
   have hvi:vi=.int k n:=by cases ri with | d q=>cases q;rfl
   subst hvi
   have hn0:(0:Int)≤n:=by omega
   split at h
   ·rename_i e hu
    cases hs:bs P e with
    | none=>simp_all
    | some sz =>
     rw[hs]at h
     simp only at h
     split at h
     ·rename_i k' off len cap
      split at h
      ·rename_i hlt
       injection h with h;subst h
       cases r with
       | sl _ _ _ _ b q =>
        have h2:n<(len:Int):=by omega
        exact⟨_,by simp[Instr.indexAt,asIntOf,run_underlying hu,hn0,h2,cn hs,Addr.add_lit],.ptr _ _ b q⟩
      ·cases h
     ·split at h
      ·rename_i es hes
       split at h
       ·rename_i c hc
        split at h
        ·rename_i hl
         injection h with h;subst h
         exact indexAddr_list (nI r hes) hu hs hn hc hl w
        ·cases h
       ·cases h
      ·cases h
   ·rename_i len e hu
    cases hs:bs P e with
    | none=>simp_all
    | some sz =>
     rw[hs]at h
     simp only at h
     split at h
     ·rename_i hlt
      have h2:n<(len:Int):=by omega
      cases r with
      | ptr k' off b q =>
       simp only at h;injection h with h;subst h
       exact⟨_,by simp[Instr.indexAt,asIntOf,run_underlying hu,Instr.sureAddr,hn0,h2,cn hs,Addr.add_lit],.ptr _ _ b q⟩
      | iptr cs off b o u hF hr =>
       simp only at h;injection h with h;subst h
       exact⟨.pointer (some ⟨b,o+(off+n.toNat*sz),none⟩),by simp[Instr.indexAt,asIntOf,run_underlying hu,Instr.sureAddr,hn0,h2,cn hs,Addr.add_lit,zH],.iptr cs (off+n.toNat*sz) b o u hF hr⟩
      | d q =>
       cases q with
       | other v h1 =>
        have hg:globA (.d (.other v)) (n.toNat*sz)=some y:=h
        unfold globA at hg
        split at hg
        ·rename_i b off he
         injection he with he;injection he with he;subst he
         injection hg with hg;subst hg
         exact⟨_,by simp[Instr.indexAt,asIntOf,run_underlying hu,Instr.sureAddr,hn0,h2,cn hs,Addr.add_lit],.d (.other _ rfl)⟩
        ·cases hg
       | _=>simp[globA]at h
      | _=>simp[globA]at h
     ·cases h
   ·cases h
 ·cases h
def indexV(P:Program)(t:TypeId)(x i:V):Option V :=
 match i with
 | .d (.int _ n) =>
  if n<0 then none else
  match x with
  | .agg cs=>match P.underlying t with
   | some (.array len e)=>match bs P e with
    | some sz=>if n.toNat<len then jv P e cs (n.toNat*sz)else none
    | none=>none
   | _=>none
  | .d (.str s)=>match P.underlying t with
   | some .string=>match s[n.toNat]? with
    | some b=>some (.d (.int .u8 b.toNat))
    | none=>none
   | _=>none
  | _=>none
 | _=>none
theorem indexV_ok{i:V}(r:rel G x v)(ri:rel G i vi)(h:indexV P t x i=some y)(w:World):∃u,(Instr.index t v vi).run P w=.ok u w∧rel G y u:=by
 unfold indexV at h
 split at h
 ·rename_i k n
  split at h
  ·cases h
  ·rename_i hn
   have hvi:vi=.int k n:=by cases ri with | d q=>cases q;rfl
   subst hvi
   have hn0:(0:Int)≤n:=by omega
   split at h
   ·rename_i cs
    split at h
    ·rename_i len e hu
     cases hs:bs P e with
     | none=>simp_all
     | some sz =>
      rw[hs]at h
      simp only at h
      split at h
      ·rename_i hlt
       have h2:n<(len:Int):=by omega
       cases r with
       | agg _ vs hl hr =>
        obtain⟨u,q1,q2⟩:=partV_ok h ⟨hl,hr⟩ w
        simp_all[Instr.index,asIntOf,run_underlying,cn]
      ·cases h
    ·cases h
   ·rename_i s
    split at h
    ·rename_i hu
     split at h
     ·rename_i b hb
      injection h with h;subst h
      cases r with
      | d q =>
       cases q
       have hb':(⟨s.toArray⟩:ByteArray)[n.toNat]? = some b:=by
        have hlt:=aF hb
        have:n.toNat<(⟨s.toArray⟩:ByteArray).size:=by simp_all[ByteArray.size]
        rw[getElem?_pos (⟨s.toArray⟩:ByteArray) n.toNat this]
        rw[List.getElem?_eq_getElem hlt]at hb
        injection hb with hb
        rw[←hb]
        rfl
       exact⟨_,by simp_all[Instr.index,asIntOf,run_underlying],.d (.int _ _)⟩
     ·cases h
    ·cases h
   ·cases h
 ·cases h
def lenV(P:Program)(t:TypeId)(x:V):Option V :=
 match P.underlying t with
 | some .string=>match x with | .d (.str s)=>some (.d (.int .i64 s.length)) | _=>none
 | some (.slice _)=>match x with
  | .sl _ _ len _=>some (.d (.int .i64 len))
  | _=>match x.list? with | some es=>some (.d (.int .i64 es.length)) | none=>none
 | some (.array n _)=>some (.d (.int .i64 n))
 | _=>none
theorem lenV_ok(r:rel G x v)(h:lenV P t x=some y)(w:World):∃u,(Builtin.len_ #[t] ty #[v]).run P w=.ok u w∧rel G y u:=by
 unfold lenV at h
 split at h
 ·rename_i hu
  split at h
  ·rename_i s
   injection h with h;subst h
   cases r with
   | d q =>
    cases q
    have hz:(⟨s.toArray⟩:ByteArray).size=s.length:=rfl
    exact⟨_,by simp_all[Builtin.len_,run_underlying,goInt],.d (.int _ _)⟩
  ·cases h
 ·rename_i e hu
  split at h
  ·injection h with h;subst h
   cases r with
   | sl _ _ _ _ b q=>exact⟨_,by simp[Builtin.len_,run_underlying hu,goInt],.d (.int _ _)⟩
  ·split at h
   ·rename_i es hes
    injection h with h;subst h
    obtain⟨A,c,rfl⟩:=nJ (nI r hes)
    exact⟨_,by simp[Builtin.len_,run_underlying hu,goInt],.d (.int _ _)⟩
   ·cases h
 ·rename_i n e hu
  injection h with h;subst h
  exact⟨_,by simp[Builtin.len_,run_underlying hu,goInt],.d (.int _ _)⟩
 ·cases h
def convV(P:Program)(dst:TypeId)(x:V):Option V :=
 match x with
 | .d (.int _ n)=>match P.underlying dst with | some (.int k)=>some (.d (.int k (k.wrap n))) | _=>none
 | .d (.str s)=>match P.underlying dst with | some .string=>some (.d (.str s)) | _=>none
 | _=>none
theorem convV_ok{src dst:TypeId}(r:rel G x v)(hsrc:(P.underlying src).isSome=true)(h:convV P dst x=some y)(w:World):∃u,(convert src dst v).run P w=.ok u w∧rel G y u:=by
 obtain⟨ds,hs⟩:=Option.isSome_iff_exists.1 hsrc
 unfold convV at h
 split at h
 ·rename_i k0 n
  split at h
  ·rename_i k hu
   injection h with h;subst h
   cases r with
   | d q =>
    cases q
    exact⟨_,by simp_all[convert,run_underlying,Conv.intToInt],.d (.int _ _)⟩
  ·cases h
 ·rename_i s
  split at h
  ·rename_i hu
   injection h with h;subst h
   cases r with
   | d q =>
    cases q
    exact⟨_,by simp_all[convert,run_underlying],.d (.str _)⟩
  ·cases h
 ·cases h
def unV(op:UnOp)(x:V):Option V :=
 match op,x with
 | .neg,.d (.int k n)=>some (.d (.int k (k.wrap (0-n))))
 | .not,.d (.bool b)=>some (.d (.bool (!b)))
 | _,_=>none
theorem unV_ok{op:UnOp}(r:rel G x v)(h:unV op x=some y)(w:World):∃u,(Op.unary op v).run P w=.ok u w∧rel G y u:=by
 unfold unV at h
 split at h
 ·injection h with h;subst h
  cases r with
  | d q=>cases q;exact⟨_,by simp_all[Op.unary,Op.intArith],.d (.int _ _)⟩
 ·injection h with h;subst h
  cases r with
  | d q=>cases q;exact⟨_,by simp_all[Op.unary],.d (.bool _)⟩
 ·cases h
def lS(cs:List V)(off:Nat)(xs:List V):List V:=cs.take off++xs++cs.drop (off+xs.length)
def nV(place:Nat→Option (Nat×Nat))(cells:List V):List (Nat×V)→Option (List V)
 | []=>some cells
 | (i,x)::rest =>
  match place i,x.cells? with
  | some (off,size),some cs=>if cs.length=size∧off+cs.length≤cells.length then nV place (lS cells off cs) rest else none
  | _,_=>none
theorem fold_set(vs:List Value)(xs:List Value)(off:Nat)(h:off+xs.length≤vs.length) :
  (xs.zipIdx.foldl (λ(cs:Array Value) (p:Value×Nat)=>cs.setIfInBounds (off+p.2) p.1) ⟨vs⟩)=(⟨vs.take off++xs++vs.drop (off+xs.length)⟩:Array Value):=by
 have key:∀(xs:List Value) (k:Nat) (vs:List Value),off+k+xs.length≤vs.length→((xs.zipIdx k).foldl (λ(cs:Array Value) (p:Value×Nat)=>cs.setIfInBounds (off+p.2) p.1) ⟨vs⟩)=(⟨vs.take (off+k)++xs++vs.drop (off+k+xs.length)⟩:Array Value):=by
  intro xs
  induction xs with
  | nil=>simp_all
  | cons x xs ih =>
   intro k vs hl
   simp only[List.zipIdx_cons,List.foldl_cons]
   simp only[List.length_cons]at hl
   rw[show (⟨vs⟩:Array Value).setIfInBounds (off+k) x=⟨vs.set (off+k) x⟩ by simp]
   rw[ih (k+1) (vs.set (off+k) x) (by simp;omega)]
   congr 1
   rw[show off+(k+1)=(off+k)+1 by omega]
   generalize off+k=p at *
   grind[List.take_succ_eq_append_getElem,List.take_set_of_le,List.drop_set_of_lt]
 simp_all
theorem fillV_ok{G:Cx}{place:Nat→Option (Nat×Nat)}:∀(parts:List (Nat×V)) (us:List (Nat×Value)) (cells:List V) (vs:List Value) (out:List V),nV place cells parts=some out→rels G cells vs →
  parts.length=us.length→(∀(i:Nat) (p:Nat×V) (q:Nat×Value),parts[i]? = some p→us[i]? = some q→p.1=q.1∧rel G p.2 q.2)→∃ws,Instr.fill place ⟨vs⟩ us=some ⟨ws⟩∧rels G out ws
 | [],us,cells,vs,out,h,r,hl,_=>by
  have:us=[]:=zA hl.symm
  subst this
  simp only[nV]at h;injection h with h;subst h
  exact⟨vs,rfl,r⟩
 | (i,x)::rest,us,cells,vs,out,h,r,hl,hp=>by
  cases us with
  | nil=>simp at hl
  | cons q us =>
   obtain⟨j,v⟩:=q
   obtain⟨rfl,hx⟩:=hp 0 (i,x) (j,v) rfl rfl
   simp only at hx
   unfold nV at h
   split at h
   ·rename_i off size cs hpl hcs
    split at h
    ·rename_i hc
     have hr:=gQ hx hcs
     have hsz:v.cells.size=cs.length:=by rw[hr.1];simp
     have hr':rels G (lS cells off cs) (vs.take off++v.cells.toList++vs.drop (off+v.cells.size)):=by
      refine⟨by simp[lS,r.1,hsz],λm y u h1 h2=>?_⟩
      unfold lS at h1
      have hlen:=r.1
      have hoff:(cells.take off).length=(vs.take off).length:=by simp[hlen]
      rcases Nat.lt_or_ge m (cells.take off++cs).length with q | q
      ·rw[List.getElem?_append_left q]at h1
       rw[List.getElem?_append_left (by simp_all)]at h2
       rcases Nat.lt_or_ge m (cells.take off).length with q2 | q2
       ·rw[List.getElem?_append_left q2]at h1
        rw[List.getElem?_append_left (hoff▸q2)]at h2
        rw[List.getElem?_take]at h1 h2
        split at h1
        ·rename_i hm;rw[qV hm]at h2;exact r.2 m y u h1 h2
        ·cases h1
       ·rw[List.getElem?_append_right q2]at h1
        rw[List.getElem?_append_right (hoff▸q2),←hoff]at h2
        exact hr.2 _ y u h1 h2
      ·rw[List.getElem?_append_right q]at h1
       rw[List.getElem?_append_right (by simp_all)]at h2
       rw[List.getElem?_drop]at h1 h2
       refine r.2 _ y u h1 ?_
       simp_all
     obtain⟨ws,w1,w2⟩:=fillV_ok rest us _ _ out h hr' (by simp_all) (λi p q h1 h2=>hp (i+1) p q (by simp_all) (by simp_all))
     refine⟨ws,?_,w2⟩
     have hno:¬(v.cells.size≠size||decide (off+v.cells.size>(⟨vs⟩:Array Value).size))=true:=by
      simp only[zF,Bool.or_eq_true,rc]
      have:=r.1
      omega
     simp only[Instr.fill,hpl]
     rw[qU hno]
     have hz:v.cells.zipIdx.foldl (λcs x=>cs.setIfInBounds (off+x.2) x.1) (⟨vs⟩:Array Value)=⟨vs.take off++v.cells.toList++vs.drop (off+v.cells.size)⟩:=by
      have:=fold_set vs v.cells.toList off (by simp_all)
      grind[Array.toList_zipIdx]
     simp_all
    ·cases h
   ·cases h
def bnd(d:Nat):Option V→Option Nat
 | none=>some d
 | some (.d (.int _ n))=>if n<0 then none else some n.toNat
 | _=>none
theorem bnd_some(d d':Nat)(x:V):bnd d (some x)=bnd d' (some x):=by
 cases x<;>first | rfl | (rename_i q;cases q<;>rfl)
def relO(G:Cx):Option V→Option Value→Prop
 | none,none=>True
 | some x,some v=>rel G x v
 | _,_=>False
theorem iZ{d y:Nat}(r:rel G x v)(h:bnd d (some x)=some n)(hy:n≤y)(code:BoundsCode)(w:World):(Instr.sliceBound v y code).run P w=.ok n w:=by
 unfold bnd at h
 split at h
 simp_all
 ·rename_i k i hx
  injection hx with hx;subst hx
  split at h
  ·cases h
  ·rename_i hn
   injection h with h
   cases r with
   | d q =>
    cases q
    (simp_all[Instr.sliceBound,asIntOf];omega)
 ·cases h
variable {hi lo mx:Option V}{vh vl vm:Option Value}
theorem kN{l h len:Nat}(rl:relO G lo vl)(rh:relO G hi vh)(rm:relO G mx vm)
  (hm:bnd cap mx=some m) (hh:bnd len hi=some h) (hl:bnd 0 lo=some l) (h1:m≤cap) (h2:h≤m) (h3:l≤h) (hmx:mx.isSome=true→hi.isSome=true) (isS:Bool) (w:World) :
  (Instr.sliceBounds isS len cap vl vh vm).run P w=.ok (l,h,m) w:=by
 cases mx with
 | none =>
  cases vm with
  | some _=>exact rm.elim
  | none =>
   have hm':cap=m:=by simp_all[bnd]
   subst hm'
   cases hi with
   | none =>
    cases vh with
    | some _=>exact rh.elim
    | none =>
     have hh':len=h:=by simp_all[bnd]
     subst hh'
     cases lo with
     | none =>
      cases vl with
      | some _=>exact rl.elim
      | none =>
       simp_all[bnd,Instr.sliceBounds]
     | some x =>
      cases vl with
      | none=>exact rl.elim
      | some v=>simp[Instr.sliceBounds,iZ rl hl h3]
   | some y =>
    cases vh with
    | none=>exact rh.elim
    | some vy =>
     cases lo with
     | none =>
      cases vl with
      | some _=>exact rl.elim
      | none =>
       have hl':0=l:=by simp_all[bnd]
       subst hl'
       simp[Instr.sliceBounds,iZ rh hh h2]
     | some x =>
      cases vl with
      | none=>exact rl.elim
      | some v=>simp[Instr.sliceBounds,iZ rl hl h3,iZ rh hh h2]
 | some z =>
  cases vm with
  | none=>exact rm.elim
  | some vz =>
   cases hi with
   | none=>simp at hmx
   | some y =>
    cases vh with
    | none=>exact rh.elim
    | some vy =>
     cases lo with
     | none =>
      cases vl with
      | some _=>exact rl.elim
      | none =>
       have hl':0=l:=by simp_all[bnd]
       subst hl'
       simp[Instr.sliceBounds,iZ rm hm h1,iZ rh hh h2]
     | some x =>
      cases vl with
      | none=>exact rl.elim
      | some v=>simp[Instr.sliceBounds,iZ rm hm h1,iZ rl hl h3,iZ rh hh h2]
def sliceV(P:Program)(t:TypeId)(x:V)(lo hi mx:Option V):Option V :=
 match P.underlying t with
 | some .string=>match x with
  | .d (.str s)=>if mx.isSome then none else match bnd 0 lo,bnd s.length hi with
   | some l,some h=>if l≤h∧h≤s.length then some (.d (.str ((s.drop l).take (h-l))))else none
   | _,_=>none
  | _=>none
 | some (.slice e)=>match bs P e with
  | none=>none
  | some sz=>match x with
   | .sl k off len cap=>match bnd 0 lo,bnd len hi,bnd cap mx with
    | some l,some h,some m=>if l≤h∧h≤m∧m≤cap∧(mx.isSome=true→hi.isSome=true)then some (.sl k (if m=l then off else off+l*sz) (h-l) (m-l))else none
    | _,_,_=>none
   | _=>match x.list? with
    | some es=>match mx with
     | none=>match bnd 0 lo,bnd es.length hi with
      | some l,some h=>if l≤h∧h≤es.length∧es.all (·.length==sz)then some (.d (.list ((es.drop l).take (h-l))))else none
      | _,_=>none
     | some _=>match bnd 0 lo,bnd es.length hi,bnd 0 mx with
      | some l,some h,some m=>if l≤h∧h=m∧m≤es.length∧hi.isSome=true∧es.all (·.length==sz)then some (.full ((es.drop l).take (h-l)))else none
      | _,_,_=>none
    | none=>none
 | some (.array n e)=>match bs P e with
  | none=>none
  | some sz=>match x with
   | .ptr k off=>match bnd 0 lo,bnd n hi,bnd n mx with
    | some l,some h,some m=>if l≤h∧h≤m∧m≤n∧(mx.isSome=true→hi.isSome=true)then some (.sl k (if m=l then off else off+l*sz) (h-l) (m-l))else none
    | _,_,_=>none
   | _=>none
 | _=>none
theorem extract_str(s:List UInt8)(l h:Nat):(⟨s.toArray⟩:ByteArray).extract l h=⟨((s.drop l).take (h-l)).toArray⟩:=by
 apply ByteArray.ext
 simp
theorem sub_list{A:Option Addr}{c l h:Nat}(r:relD F (.list es) (.slice A n c))(hsz:es.all (·.length==sz)=true)(h1:l≤h)(h2:h≤es.length)(h3:h≤m) :
  relD F (.list ((es.drop l).take (h-l))) (.slice (if m=l then A else A.map (·.add (l*sz))) (h-l) (m-l)):=by
 have hlen:((es.drop l).take (h-l)).length=h-l:=by simp;omega
 by_cases hz:h=l
 ·subst hz
  have:(es.drop h).take (h-h)=[]:=by simp
  rw[this,Nat.sub_self]
  exact .nil _ _
 ·rw[qU (by omega)]
  cases r with
  | nil A c=>simp_all
  | list _ b off c sz' u hne hcap hs hF hr =>
   have e0:sz'=sz:=by
    have q:=List.all_eq_true.1 hsz es[0] (List.getElem_mem _)
    have q2:=hs 0 es[0] (List.getElem?_eq_getElem hne)
    simp_all
   subst e0
   have key:=relD.list (F:=F) ((es.drop l).take (h-l)) b (off+l*sz') (m-l) sz' (λi j=>u (l+i) j) (by omega) (by omega)
    (λi e he=>by
     grind)
    (λi j e x he hx=>by
     grind)
    (λi j e x he hx=>by
     grind)
   simp_all[Addr.add_lit]
theorem sliceV_ok(r:rel G x v)(rl:relO G lo vl)(rh:relO G hi vh)(rm:relO G mx vm)(h:sliceV P t x lo hi mx=some y)(w:World) :
  ∃u,(Instr.sliceAt t v vl vh vm).run P w=.ok u w∧rel G y u:=by
 unfold sliceV at h
 split at h
 ·rename_i hu
  split at h
  ·rename_i s
   split at h
   ·cases h
   ·rename_i hmx
    split at h
    ·rename_i l hh hl hhi
     split at h
     ·rename_i hc
      injection h with h;subst h
      cases mx with
      | some _=>simp at hmx
      | none =>
       cases vm with
       | some _=>exact rm.elim
       | none =>
        cases r with
        | d q =>
         cases q
         have hz:(⟨s.toArray⟩:ByteArray).size=s.length:=rfl
         have hb:=kN (P:=P) (cap:=s.length) (m:=s.length) (mx:=none) (vm:=none) rl rh trivial rfl hhi hl (zD _) hc.2 hc.1 (by simp) false w
         refine⟨.string ⟨((s.drop l).take (hh-l)).toArray⟩,?_,.d (.str _)⟩
         simp_all[Instr.sliceAt,Instr.slice,run_underlying,extract_str]
     ·cases h
    ·cases h
  ·cases h
 ·rename_i e hu
  cases hs:bs P e with
  | none=>simp_all
  | some sz =>
   rw[hs]at h
   simp only at h
   split at h
   ·rename_i k off len cap
    split at h
    ·rename_i l hh m hl hhi hm
     split at h
     ·rename_i hc
      injection h with h;subst h
      cases r with
      | sl _ _ _ _ b q =>
       have hb:=kN (P:=P) rl rh rm hm hhi hl hc.2.2.1 hc.2.1 hc.1 hc.2.2.2 true w
       refine⟨_,?_,.sl k (if m=l then off else off+l*sz) (hh-l) (m-l) b q⟩
       simp only[Instr.sliceAt,Instr.slice,Sem.run_bind,run_underlying hu,Result.andThen_ok,hb,cn hs,Sem.run_pure,Option.map_some,Addr.add_lit]
       split<;>rfl
     ·cases h
    ·cases h
   ·split at h
    ·rename_i es hes
     have hL:=nI r hes
     split at h
     ·split at h
      ·rename_i l hh hl hhi
       split at h
       ·rename_i hc
        injection h with h;subst h
        cases vm with
        | some _=>exact rm.elim
        | none =>
         obtain⟨A,c,rfl⟩:=nJ hL
         have hcap:es.length≤c:=by cases hL<;>simp_all
         have hb:=kN (P:=P) (len:=es.length) (cap:=c) (m:=c) (mx:=none) (vm:=none) rl rh trivial rfl hhi hl (zD _) (by omega) hc.1 (by simp) true w
         refine⟨_,?_,.d (sub_list hL hc.2.2 hc.1 hc.2.1 (m:=c) (by omega))⟩
         simp_all[Instr.sliceAt,Instr.slice,run_underlying,cn]
       ·cases h
      ·cases h
     ·rename_i mxv
      split at h
      ·rename_i l hh m hl hhi hm
       split at h
       ·rename_i hc
        obtain⟨c1,c2,c3,c4,c5⟩:=hc
        subst c2
        injection h with h;subst h
        obtain⟨A,c,rfl⟩:=nJ hL
        have hcap:es.length≤c:=by cases hL<;>simp_all
        have hm':bnd c (some mxv)=some hh:=by grind[bnd_some]
        have hb:=kN (P:=P) (len:=es.length) (cap:=c) (m:=hh) rl rh rm hm' hhi hl (by omega) (zD _) c1 (λ_=>c4) true w
        have hlen:((es.drop l).take (hh-l)).length=hh-l:=by simp;omega
        have hsub:=sub_list hL c5 c1 (by omega) (m:=hh) (zD _)
        have hf:=rel.full (G:=G) ((es.drop l).take (hh-l)) (if hh=l then A else A.map (·.add (l*sz))) (by simp_all)
        simp_all[Instr.sliceAt,Instr.slice,run_underlying,cn]
       ·cases h
      ·cases h
    ·cases h
 ·rename_i n e hu
  cases hs:bs P e with
  | none=>simp_all
  | some sz =>
   rw[hs]at h
   simp only at h
   split at h
   ·rename_i k off
    split at h
    ·rename_i l hh m hl hhi hm
     split at h
     ·rename_i hc
      injection h with h;subst h
      cases r with
      | ptr _ _ b q =>
       have hb:=kN (P:=P) rl rh rm hm hhi hl hc.2.2.1 hc.2.1 hc.1 hc.2.2.2 false w
       refine⟨_,?_,.sl k (if m=l then off else off+l*sz) (hh-l) (m-l) b q⟩
       simp only[Instr.sliceAt,Sem.run_bind,run_underlying hu,Result.andThen_ok,Instr.sureAddr,Sem.run_pure,hb,cn hs,Addr.add_lit]
       split<;>rfl
     ·cases h
    ·cases h
   ·cases h
 ·cases h
def ip:List V→Option (List D)
 | []=>some []
 | x::xs=>match x.data?,ip xs with | some a,some b=>some (a::b) | _,_=>none
theorem jl{G:Cx}:∀{xs:List V} {vs:List Value} {ds:List D},rels G xs vs→ip xs=some ds→ds.length=vs.length∧∀(i:Nat) (x:D) (v:Value),ds[i]? = some x→vs[i]? = some v→relD G.F x v
 | [],vs,ds,r,h=>by
  simp only[ip]at h;injection h with h;subst h
  exact⟨r.1,λi x v h=>by simp at h⟩
 | y::ys,vs,ds,r,h=>by
  cases vs with
  | nil=>have:=r.1;simp at this
  | cons v vs =>
   obtain⟨r1,r2⟩:=aV r
   unfold ip at h
   split at h
   ·rename_i a b ha hb
    injection h with h;subst h
    obtain⟨q1,q2⟩:=jl r2 hb
    grind[data_rel]
   ·cases h
theorem kind_val{x:D}{k:SK}(r:relD F x v)(h:x.kind? = some k):v=x.val:=by
 cases r<;>first | rfl | grind[D.kind?]
theorem kinds_vals{F:Nat→Nat→Value→Prop}:∀{ds:List D} {vs:List Value} {ks:List SK},ds.length=vs.length→(∀(i:Nat) (x:D) (v:Value),ds[i]? = some x→vs[i]? = some v→relD F x v)→ds.map D.kind? = ks.map some→vs=ds.map D.val
 | [],vs,ks,hl,_,_=>by
  grind
 | d::ds,vs,ks,hl,r,hk=>by
  cases vs with
  | nil=>simp at hl
  | cons v vs =>
   cases ks with
   | nil=>simp at hk
   | cons k ks =>
    simp only[List.map_cons,List.cons.injEq]at hk
    have h1:=kind_val (r 0 d v rfl rfl) hk.1
    have h2:=kinds_vals (ds:=ds) (vs:=vs) (ks:=ks) (by simp_all) (λi x u a b=>r (i+1) x u (by simpa using a) (by simpa using b)) hk.2
    simp_all
def binV{P:Program}(g:Pg P)(op:BinOp)(t:TypeId)(x y:V):Option V :=
 match x,y with
 | .d (.bool a),.d (.bool b) =>
  match P.underlying t with
  | some .bool=>match op with
   | .eql=>some (.d (.bool (a==b)))
   | .neq=>some (.d (.bool (!(a==b))))
   | _=>none
  | _=>none
 | .d a,.d b=>(binD op a b).map .d
 | .agg xs,.agg ys =>
  match g.E t,ip xs,ip ys with
  | some ks,some ds,some es =>
   if ds.map D.kind? = ks.map some∧es.map D.kind? = ks.map some then
    match op with
    | .eql=>some (.d (.bool (eqAll ds es)))
    | .neq=>some (.d (.bool (!(eqAll ds es))))
    | _=>none
   else none
  | _,_,_=>none
 | _,_=>none
theorem equal_bool(hu:P.underlying t=some .bool)(a b:Bool)(w:World):(Op.equal t (.bool a) (.bool b)).run P w=.ok (a==b) w:=by
 unfold Op.equal Op.maxDepth
 rw[show (10000:Nat)=9999+1 from rfl]
 unfold Op.equalIn
 simp_all[run_underlying]
theorem eqGuard_bool(op:BinOp)(t:TypeId)(xo yo:Operand)(a b:Bool)(w:World):(eqGuard op t xo yo (.bool a) (.bool b)).run P w=.ok () w:=by
 simp_all[eqGuard]
theorem inv_bool{t:Bool}(r:rel G (.d (.bool t)) v):v=.bool t:=by cases r with | d q=>cases q;rfl
theorem fw{k:IntKind}{n:Int}(r:rel G (.d (.int k n)) v):v=.int k n:=by cases r with | d q=>cases q;rfl
theorem ly(r:rel G (.ptr k off) v):∃b,G.ob k=some b∧v=.pointer (some ⟨b,off,none⟩):=by cases r<;>simp_all
theorem inv_iptr{cs:List D}(r:rel G (.iptr cs off) v):∃b o,∃u:Nat→Value,v=.pointer (some ⟨b,o+off,none⟩)∧(∀(j:Nat) (x:D),cs[j]? = some x→G.F b (o+j) (u j))∧(∀(j:Nat) (x:D),cs[j]? = some x→relD G.F x (u j)):=by
 cases r with | iptr _ _ b o u q1 q2=>exact⟨b,o,u,rfl,q1,q2⟩
theorem binV_ok{g:Pg P}{z:V}{u:Value}(rx:rel G x v)(ry:rel G y u)(h:binV g op t x y=some z)(w:World) :
  ∃r,((do eqGuard op t xo yo v u;binOp op t v u):Sem Value).run P w=.ok r w∧rel G z r:=by
 unfold binV at h
 split at h
 ·rename_i a b
  cases rx with
  | d q1 =>
   cases q1
   cases ry with
   | d q2 =>
    cases q2
    split at h
    ·rename_i hu
     split at h
     ·injection h with h;subst h
      exact⟨.bool (a==b),by simp_all[eqGuard_bool,binOp,equal_bool],.d (.bool _)⟩
     ·injection h with h;subst h
      exact⟨.bool (!(a==b)),by simp_all[eqGuard_bool,binOp,equal_bool],.d (.bool _)⟩
     ·cases h
    ·cases h
 ·rename_i a b _
  cases rx with
  | d q1 =>
   cases ry with
   | d q2 =>
    cases hb:binD op a b with
    | none=>simp_all
    | some c =>
     rw[hb]at h
     simp at h;subst h
     obtain⟨r,h1,h2⟩:=binD_ok (P:=P) (t:=t) (xo:=xo) (yo:=yo) q1 q2 hb w
     exact⟨r,h1,.d h2⟩
 ·rename_i xs ys
  split at h
  ·rename_i ks ds es hE hx hy
   split at h
   ·rename_i hk
    cases rx with
    | agg _ vs l1 r1 =>
     cases ry with
     | agg _ us l2 r2 =>
      obtain⟨d1,d2⟩:=jl ⟨l1,r1⟩ hx
      obtain⟨e1,e2⟩:=jl ⟨l2,r2⟩ hy
      have hv:=kinds_vals d1 d2 hk.1
      have hu:=kinds_vals e1 e2 hk.2
      subst hv;subst hu
      obtain⟨g1,g2⟩:=g.hE t ks hE
      have hg:(eqGuard op t xo yo (.agg ⟨ds.map D.val⟩) (.agg ⟨es.map D.val⟩)).run P w=.ok () w:=by
       unfold eqGuard;cases op<;>simp[g1,program,Sem.run]
      have heq:=g2 ds es hk.1 hk.2 w
      split at h
      ·injection h with h;subst h
       exact⟨.bool (eqAll ds es),by simp only[Sem.run_bind,hg,Result.andThen_ok,binOp,heq,Sem.run_pure],.d (.bool _)⟩
      ·injection h with h;subst h
       exact⟨.bool (!(eqAll ds es)),by simp only[Sem.run_bind,hg,Result.andThen_ok,binOp,heq,Sem.run_pure],.d (.bool _)⟩
      ·cases h
   ·cases h
  ·cases h
 ·cases h
theorem run_mapM_list{P:Program}{α β:Type}(f:α→Sem β)(g:α→β)(w:World):∀(l:List α),(∀a∈l,(f a).run P w=.ok (g a) w)→(l.mapM f).run P w=.ok (l.map g) w
 | [],_=>by simp
 | a::l,h=>by
  have ih:=run_mapM_list f g w l (λb hb=>h b (by simp[hb]))
  simp_all
theorem run_mapM_array{β:Type}(f:α→Sem β)(g:α→β)(w:World)(l:Array α)(h:∀a∈l.toList,(f a).run P w=.ok (g a) w):(l.mapM f).run P w=.ok (l.map g) w:=by
 rw[Array.mapM_eq_mapM_toList]
 simp only[Sem.run_map,run_mapM_list f g w l.toList h,Result.andThen_ok]
 congr 1
 grind
def eT(P:Program)(t:TypeId):Option V:=match P.info? t with | some i=>(match i.zero with | some z=>some (lit z) | none=>none) | none=>none
theorem nc(h:eT P t=some x)(G:Cx)(w:World):∃z,(zeroValue t).run P w=.ok z w∧rel G x z∧x=lit z:=by
 unfold eT at h
 cases hi:P.info? t with
 | none=>simp_all
 | some i =>
  rw[hi]at h
  cases hz:i.zero with
  | none=>simp_all
  | some z =>
   simp only[hz]at h
   injection h with h;subst h
   simp_all[zeroValue,typeInfo,lit_rel]
inductive Pl where
 | struct (l:List (Nat×Nat))
 | array (sz:Nat)
def dG(P:Program)(t:TypeId):Option Pl :=
 match P.underlying t with
 | some (.struct fields)=>if fields.toList.all (λf=>(bs P f.type).isSome)then some (.struct (fields.toList.map λf=>(f.offset,(bs P f.type).getD 0)))else none
 | some (.array _ e)=>match bs P e with | some sz=>some (.array sz) | none=>none
 | _=>none
def buildV(P:Program)(t:TypeId)(parts:List (Nat×V)):Option V :=
 match eT P t with
 | none=>none
 | some z=>match z.cells? with
  | none=>none
  | some zs=>match dG P t with
   | some (.struct l)=>(nV (λi=>l[i]?) zs parts).map .agg
   | some (.array sz)=>(nV (λi=>some (i*sz,sz)) zs parts).map .agg
   | none=>none
theorem buildV_ok{parts:List (Nat×V)}{us:List (Nat×Value)}(hl:parts.length=us.length)(hp:∀(i:Nat) (p:Nat×V) (q:Nat×Value),parts[i]? = some p→us[i]? = some q→p.1=q.1∧rel G p.2 q.2)(h:buildV P t parts=some y)(w:World) :
  ∃v,(Instr.build t ⟨us⟩).run P w=.ok v w∧rel G y v:=by
 unfold buildV at h
 cases hz:eT P t with
 | none=>simp_all
 | some z =>
  rw[hz]at h
  simp only at h
  cases hc:z.cells? with
  | none=>simp_all
  | some zs =>
   rw[hc]at h
   simp only at h
   obtain⟨zv,z1,z2,_⟩:=nc hz G w
   have hzr:=gQ z2 hc
   unfold dG at h
   cases hu:P.underlying t with
   | none=>simp_all
   | some dd =>
   cases dd with
   | struct fields =>
    simp only[hu]at h
    cases hall:fields.toList.all (λf=>(bs P f.type).isSome)with
    | false=>simp_all
    | true =>
     simp only[hall,qX]at h
     have hpl0:(λ(i:Nat)=>(fields.toList.map λ(f:Field)=>(f.offset,(bs P f.type).getD 0))[i]?)=(λi=>(fields[i]?).map λ(f:Field)=>(f.offset,(bs P f.type).getD 0)):=by
      simp_all
     rw[hpl0]at h
     cases hf:nV (λi=>(fields[i]?).map λf=>(f.offset,(bs P f.type).getD 0)) zs parts with
     | none=>simp_all
     | some out =>
      rw[hf]at h
      simp at h;subst h
      obtain⟨ws,w1,w2⟩:=fillV_ok parts us zs zv.cells.toList out hf hzr hl hp
      refine⟨.agg ⟨ws⟩,?_,.agg _ _ w2.1 w2.2⟩
      have hm:(fields.mapM (λ(f:Field)=>(do pure (f.offset,←sizeOf f.type):Sem (Nat×Nat)))).run P w=.ok (fields.map λ(f:Field)=>(f.offset,(bs P f.type).getD 0)) w:=by
       refine run_mapM_array _ _ w fields (λf hf=>?_)
       have:=List.all_eq_true.1 hall f hf
       obtain⟨n,hn⟩:=Option.isSome_iff_exists.1 this
       simp[cn hn,hn]
      have hpl:(λ(i:Nat)=>(fields.map λ(f:Field)=>(f.offset,(bs P f.type).getD 0))[i]?)=(λi=>(fields[i]?).map λ(f:Field)=>(f.offset,(bs P f.type).getD 0)):=by
       simp_all
      have hcell:(⟨zv.cells.toList⟩:Array Value)=zv.cells:=by simp
      rw[hcell]at w1
      simp only[Instr.build,Sem.run_bind,z1,Result.andThen_ok,run_underlying hu,hm,hpl,w1,Sem.run_pure]
   | array n e =>
    simp only[hu]at h
    cases hs:bs P e with
    | none=>simp_all
    | some sz =>
     simp only[hs]at h
     cases hf:nV (λi=>some (i*sz,sz)) zs parts with
     | none=>simp_all
     | some out =>
      rw[hf]at h
      simp at h;subst h
      obtain⟨ws,w1,w2⟩:=fillV_ok parts us zs zv.cells.toList out hf hzr hl hp
      refine⟨.agg ⟨ws⟩,?_,.agg _ _ w2.1 w2.2⟩
      simp_all[Instr.build,run_underlying,cn]
   | _=>simp only[hu]at h;cases h
def oK{P:Program}(g:Pg P)(o:Oper)(ρ:Operand→V):Option V :=
 match o.op with
 | .move x=>some (ρ x)
 | .assign x=>some (ρ x)
 | .pick c a b=>match ρ c with | .d (.bool t)=>some (if t then ρ a else ρ b) | _=>none
 | .build t parts=>buildV P t (parts.toList.map λp=>(p.1,ρ p.2))
 | .nilCheck x=>match ρ x with | .ptr k off=>some (.ptr k off) | .iptr cs off=>some (.iptr cs off) | _=>none
 | .binOp op t x y _=>binV g op t (ρ x) (ρ y)
 | .unOp op _ x=>unV op (ρ x)
 | .convert src dst x=>if (P.underlying src).isSome then convV P dst (ρ x)else none
 | .makeFunc (.func f) first captured=>if first.toList=[]then some (.fn f (captured.toList.map ρ))else none
 | .slice t x lo hi mx=>sliceV P t (ρ x) (lo.map ρ) (hi.map ρ) (mx.map ρ)
 | .fieldAddr t x f=>gw P t (ρ x) f
 | .field t x f=>fieldV P t (ρ x) f
 | .indexAddr t x i=>mZ P t (ρ x) (ρ i)
 | .index t x i=>indexV P t (ρ x) (ρ i)
 | .extract x i=>extractV (ρ x) i
 | .load t a=>match ρ a with | .iptr cs off=>jv P t (gM cs) off | _=>none
 | .call c=>match c.callee,c.args.toList,c.argTypes.toList with | .builtin .len,[x],[t]=>lenV P t (ρ x) | _,_,_=>none
 | _=>none
theorem relO_map{a:Act}(h:FR G fr a)(x:Option Operand):relO G (x.map (aN fr)) (x.map a.eval):=by
 cases x with
 | none=>trivial
 | some x=>exact aK h x
theorem pureS_ok  {g:Pg P}  {o:Oper}  {a:Act}   (hF : ∀ b o v, G.F b o v → w.cell? ⟨b, o, none⟩ = some v) (hfr : FR G fr a) (h : oK g o (aN fr) = some y) :
    ∃v,(execOp a.eval o).run P w=.ok (.value v) w∧rel G y v:=by
  have ev:=λx=>aK hfr x
  have fin:∀(s:Sem Value) ,(∃u,s.run P w=.ok u w∧rel G y u)→∃v,((do pure (.value (←s)):Sem Next)).run P w=.ok (.value v) w∧rel G y v:=by
    simp_all
  unfold oK at h
  split at h<;>rename_i hop
  · injection h with h;subst h;simp_all[execOp]
  · injection h with h;subst h;simp_all[execOp]
  · rename_i c x z
    split at h
    · rename_i t hc
      injection h with h;subst h
      have hcv:a.eval c=.bool t:=inv_bool (hc▸ev c)
      cases t<;>simp_all[execOp,asBool]
    · cases h
  · rename_i t parts
    have:=buildV_ok (G:=G) (us:=parts.toList.map λp=>(p.1,a.eval p.2)) (by simp) (λi p q h1 h2=>by
      grind) h w
    obtain⟨v,h1,h2⟩:=this
    refine⟨v,?_,h2⟩
    have he:(parts.map λx=>(x.1,a.eval x.2))=(⟨parts.toList.map λp=>(p.1,a.eval p.2)⟩:Array (Nat×Value)):=by grind
    simp_all[execOp]
  · rename_i x
    have e:=ev x
    split at h
    · rename_i k off hx
      injection h with h;subst h
      rw[hx]at e
      obtain⟨b,q,hv⟩:=ly e
      simp_all[execOp]
    · rename_i cs off hx
      injection h with h;subst h
      rw[hx]at e
      obtain⟨b,o',u,hv,q1,q2⟩:=inv_iptr e
      simp_all[execOp]
    · cases h
  · simp only[execOp,hop];exact fin _ (binV_ok (ev _) (ev _) h w)
  · simp only[execOp,hop];exact fin _ (unV_ok (ev _) h w)
  · split at h
    · simp only[execOp,hop];exact fin _ (convV_ok (ev _) ‹_› h w)
    · cases h
  · rename_i f first captured
    split at h
    · rename_i hfirst
      injection h with h;subst h
      have hf:first=#[]:=by simp_all
      subst hf
      refine⟨.func (.func f) #[] ⟨captured.toList.map a.eval⟩,?_,.fn _ _ _ (by simp) (λi x v h1 h2=>?_)⟩
      · have he:(captured.map a.eval)=(⟨captured.toList.map a.eval⟩:Array Value):=by grind
        simp_all[execOp,Instr.makeFunc]
      grind
    · cases h
  · simp only[execOp,hop];exact fin _ (sliceV_ok (ev _) (relO_map hfr _) (relO_map hfr _) (relO_map hfr _) h w)
  · simp only[execOp,hop];exact fin _ (nW (ev _) h w)
  · simp only[execOp,hop];exact fin _ (fieldV_ok (ev _) h w)
  · simp only[execOp,hop];exact fin _ (indexAddrV_ok (ev _) (ev _) h w)
  · simp only[execOp,hop];exact fin _ (indexV_ok (ev _) (ev _) h w)
  · simp only[execOp,hop];exact fin _ (extractV_ok (ev _) h w)
  · rename_i t x
    split at h
    · rename_i cs off hx
      have e:=ev x
      rw[hx]at e
      obtain⟨b,o',u,hv,q1,q2⟩:=inv_iptr e
      have hr:=mQ (G:=G) q2
      obtain⟨v,h1,h2⟩:=me (b:=b) (o:=o') (w:=w) h hr (λj v hj=>by
        rw[List.getElem?_map]at hj
        cases hc:cs[j]?<;>grind)
      simp_all[execOp,Instr.loadAt,Instr.sureAddr]
    · cases h
  · rename_i c
    split at h
    · rename_i x t hcal hargs htys
      obtain⟨u,h1,h2⟩:=lenV_ok (ty:=o.type) (ev x) h w
      have ha:c.args=#[x]:=by grind
      have ht:c.argTypes=#[t]:=by grind
      simp_all[execOp,resolve,invoke,builtin]
    · cases h
  · cases h
end Go.Proofs.YtphbhdoljnokkaaGreatDoor
