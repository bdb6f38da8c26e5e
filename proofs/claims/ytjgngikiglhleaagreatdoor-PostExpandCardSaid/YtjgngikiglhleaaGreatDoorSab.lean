/-
  Sa, Sb in one text.
-/
import Derived.Test.YtjgngikiglhleaaGreatDoorBase
namespace Go.Proofs.YtjgngikiglhleaaGreatDoor
open Go.RowKit
inductive D where
 | int (k : IntKind) (n : Int)
 | bool (b : Bool)
 | str (s : List UInt8)
 | list (es : List (List D))
 | other (v : Value)
inductive relD (F : Nat → Nat → Value → Prop) : D → Value → Prop
 | int (k : IntKind) (n : Int) : relD F (.int k n) (.int k n)
 | bool (b : Bool) : relD F (.bool b) (.bool b)
 | str (s : List UInt8) : relD F (.str s) (.string ⟨s.toArray⟩)
 | nil (A : Option Addr) (c : Nat) : relD F (.list []) (.slice A 0 c)
 | list (es : List (List D)) (b off c sz : Nat) (u : Nat → Nat → Value) (hne : 0 < es.length) (hcap : es.length ≤ c) (hsz : ∀ (i : Nat) (e : List D),es[i]? = some e → e.length = sz)
   (hF : ∀ (i j : Nat) (e : List D) (x : D),es[i]? = some e → e[j]? = some x → F b (off + i * sz + j) (u i j))
   (hr : ∀ (i j : Nat) (e : List D) (x : D),es[i]? = some e → e[j]? = some x → relD F x (u i j)) : relD F (.list es) (.slice (some ⟨b,off,none⟩) es.length c)
 | other (v : Value) (h1 : v.oneCell' = true) : relD F (.other v) v
theorem relD_mono {F F' : Nat → Nat → Value → Prop} (h : ∀ b o v,F b o v → F' b o v) {x : D} {v : Value} (r : relD F x v) : relD F' x v := by
 induction r with
 | int k n=>exact .int k n
 | bool b=>exact .bool b
 | str s=>exact .str s
 | nil A c=>exact .nil A c
 | list es b off c sz u hne hcap hsz hF _ ih=>exact .list es b off c sz u hne hcap hsz (fun i j e x h1 h2=>h _ _ _ (hF i j e x h1 h2)) ih
 | other v h1=>exact .other v h1
def glT : Nat → Option (List D)
 | 0=>some [.int .i64 0,.int .i64 0,.int .i64 1,.int .i64 2,.int .i64 3]
  | _=>none
def tabT : Nat → Option (IntKind × List Int)
 | 1=>some (.u64,[1,10,100,1000,10000,100000,1000000,10000000,100000000,1000000000,10000000000,100000000000,1000000000000,10000000000000,100000000000000,1000000000000000,10000000000000000,100000000000000000,1000000000000000000,10000000000000000000])
  | _=>none
def errT : Nat → Bool
 | _=>false
def Errs (w : World) : Prop := ∀ b,errT b = true → ∃ ev,w.cell? ⟨b,0,none⟩ = some ev ∧ (ev = .nilIface ∨ ∃ te pe,ev = .iface te pe)
def intT : Nat → Bool
 | _=>false
def Ints (w : World) : Prop := ∀ b,intT b = true → ∃ m,w.cell? ⟨b,0,none⟩ = some (.int .i64 m)
def mapG : Nat → Option (List (Int × List UInt8))
 | _=>none
def Maps (w : World) : Prop := ∀ b kvs,mapG b = some kvs → ∃ bm es clock,w.cell? ⟨b,0,none⟩ = some (.map (some bm)) ∧ w.heap[bm]? = some (.map es clock) ∧ (∀ x ∈ es.toList,x.born < clock) ∧ (es.toList.map (·.born)).Nodup ∧ (∀ x ∈ es.toList,∃ p ∈ kvs,x.key = .int .i64 p.1 ∧ x.val = .string ⟨p.2.toArray⟩) ∧ ∀ p ∈ kvs,∃ x ∈ es.toList,x.key = .int .i64 p.1 ∧ x.val = .string ⟨p.2.toArray⟩
def Tabs (w : World) : Prop := (∀ b k zs,tabT b = some (k,zs) → ∃ t f,w.heap[b]? = some (.cells (zs.map fun z=>Value.int k z).toArray t f)) ∧ Errs w ∧ Ints w ∧ Maps w
def GlobOk (w : World) (F : Nat → Nat → Value → Prop) : Prop := (∀ b cs,glT b = some cs → ∃ u : Nat → Value,∀ (j : Nat) (x : D),cs[j]? = some x → F b j (u j) ∧ relD F x (u j)) ∧ Tabs w
theorem GlobOk.mono {w : World} {F F' : Nat → Nat → Value → Prop} (h : GlobOk w F) (hi : ∀ b o v,F b o v → F' b o v) : GlobOk w F' := ⟨fun b cs hb=>by
 obtain ⟨u,hu⟩ := h.1 b cs hb
 exact ⟨u,fun j x hx=>⟨hi _ _ _ (hu j x hx).1,relD_mono hi (hu j x hx).2⟩⟩,h.2⟩
theorem GlobOk.kp {w w' : World} {F : Nat → Nat → Value → Prop} (h : GlobOk w F) (hk : Kp w w') : GlobOk w' F := ⟨h.1,fun b k zs hb=>by
 obtain ⟨t,f,q⟩ := h.2.1 b k zs hb
 have hlt : b < w.heap.size := by
  rcases Nat.lt_or_ge b w.heap.size with z | z
  ·exact z
  ·rw [Array.getElem?_eq_none z] at q; cases q
 exact ⟨t,f,(hk.below.block b hlt).trans q⟩,fun b hb=>by
 obtain ⟨ev,q,hv⟩ := h.2.2.1 b hb
 exact ⟨ev,(hk.see.1 b 0 (World.block_lt_of_cell? w ⟨b,0,none⟩ q)).trans q,hv⟩,fun b hb=>by
 obtain ⟨m,q⟩ := h.2.2.2.1 b hb
 exact ⟨m,(hk.see.1 b 0 (World.block_lt_of_cell? w ⟨b,0,none⟩ q)).trans q⟩,fun b kvs hb=>by
 obtain ⟨bm,es,clock,q1,q2,q3⟩ := h.2.2.2.2 b kvs hb
 have hlt : bm < w.heap.size := by
  rcases Nat.lt_or_ge bm w.heap.size with z | z
  ·exact z
  ·rw [Array.getElem?_eq_none z] at q2; cases q2
 exact ⟨bm,es,clock,(hk.see.1 b 0 (World.block_lt_of_cell? w ⟨b,0,none⟩ q1)).trans q1,(hk.below.block bm hlt).trans q2,q3⟩⟩
inductive V where
 | undef
 | d (x : D)
 | agg (cs : List V)
 | tuple (vs : List V)
 | ptr (k off : Nat)
 | iptr (cs : List D) (off : Nat)
 | own (t : Nat) (es : List (List D))
 | full (es : List (List D))
 | nil
 | skip
 | sl (k off len cap : Nat)
 | fn (f : FuncId) (caps : List V)
 | mp (k : Nat)
 | mapc (ik : IntKind) (kvs : List (Int × D))
 | gr (k n : Nat)
 | gp (k n i off : Nat)
 | rowc (e : TypeId) (ver : Nat) (es : List (List D))
 | adr (k : Nat)
 | gs (k n off len : Nat)
structure Lv where
 n : Nat
 sz : Nat
 v : Value
structure Cx where
 base : Nat → Nat → Value → Prop
 F : Nat → Nat → Value → Prop
 ob : Nat → Option Nat
 lv : Nat → Option Lv
 mp : Nat → Option Nat
 rv : Nat → Option Lv
 tg : Nat → Option TypeId
structure Cx.le (G G' : Cx) : Prop where
 base : G'.base = G.base
 F : ∀ b o v,G.F b o v → G'.F b o v
 ob : ∀ k b,G.ob k = some b → G'.ob k = some b
 lv : ∀ t L,G.lv t = some L → ∃ L',G'.lv t = some L' ∧ L'.sz = L.sz ∧ (L' = L ∨ L.n < L'.n)
 mp : ∀ k b,G.mp k = some b → G'.mp k = some b
 rv : ∀ k L,G.rv k = some L → ∃ L',G'.rv k = some L' ∧ L'.sz = L.sz ∧ (L' = L ∨ L.n < L'.n)
 tg : ∀ b t,G.tg b = some t → G'.tg b = some t
theorem Cx.le.refl (G : Cx) : G.le G := ⟨rfl,fun _ _ _ h=>h,fun _ _ h=>h,fun _ L h=>⟨L,h,rfl,.inl rfl⟩,fun _ _ h=>h,fun _ L h=>⟨L,h,rfl,.inl rfl⟩,fun _ _ q=>q⟩
theorem Lv_trans {f g h : Nat → Option Lv} (a : ∀ t L,f t = some L → ∃ L',g t = some L' ∧ L'.sz = L.sz ∧ (L' = L ∨ L.n < L'.n)) (b : ∀ t L,g t = some L → ∃ L',h t = some L' ∧ L'.sz = L.sz ∧ (L' = L ∨ L.n < L'.n)) (t : Nat) (L : Lv) (q : f t = some L) : ∃ L',h t = some L' ∧ L'.sz = L.sz ∧ (L' = L ∨ L.n < L'.n) := by
 obtain ⟨L1,q1,s1,r1⟩ := a t L q
 obtain ⟨L2,q2,s2,r2⟩ := b t L1 q1
 refine ⟨L2,q2,s2.trans s1,?_⟩
 rcases r1 with rfl | r1
 ·exact r2
 ·rcases r2 with rfl | r2
  ·exact .inr r1
  ·exact .inr (by omega)
theorem Cx.le.trans {A B C : Cx} (h : A.le B) (k : B.le C) : A.le C :=
 ⟨k.base.trans h.base,fun _ _ _ q=>k.F _ _ _ (h.F _ _ _ q),fun _ _ q=>k.ob _ _ (h.ob _ _ q),Lv_trans h.lv k.lv,fun _ _ q=>k.mp _ _ (h.mp _ _ q),Lv_trans h.rv k.rv,fun _ _ q=>k.tg _ _ (h.tg _ _ q)⟩
def bT : TypeId :=
 132
inductive rel (G : Cx) : V → Value → Prop
 | undef (v : Value) : rel G .undef v
 | d {x : D} {v : Value} (h : relD G.F x v) : rel G (.d x) v
 | agg (cs : List V) (vs : List Value) (hl : cs.length = vs.length) (h : ∀ (i : Nat) (x : V) (v : Value),cs[i]? = some x → vs[i]? = some v → rel G x v) : rel G (.agg cs) (.agg ⟨vs⟩)
 | tuple (cs : List V) (vs : List Value) (hl : cs.length = vs.length) (h : ∀ (i : Nat) (x : V) (v : Value),cs[i]? = some x → vs[i]? = some v → rel G x v) : rel G (.tuple cs) (.tuple ⟨vs⟩)
 | ptr (k off b : Nat) (h : G.ob k = some b) : rel G (.ptr k off) (.pointer (some ⟨b,off,none⟩))
 | iptr (cs : List D) (off b o : Nat) (u : Nat → Value) (hF : ∀ (j : Nat) (x : D),cs[j]? = some x → G.F b (o + j) (u j)) (hr : ∀ (j : Nat) (x : D),cs[j]? = some x → relD G.F x (u j)) : rel G (.iptr cs off) (.pointer (some ⟨b,o + off,none⟩))
 | own (t : Nat) (es : List (List D)) (v : Value) (h : relD G.F (.list es) v) (L : Lv) (hL : G.lv t = some L) (hsz : ∀ (i : Nat) (e : List D),es[i]? = some e → e.length = L.sz) (hl : (es.length = L.n ∧ v = L.v) ∨ es.length < L.n) : rel G (.own t es) v
 | full (es : List (List D)) (A : Option Addr) (h : relD G.F (.list es) (.slice A es.length es.length)) : rel G (.full es) (.slice A es.length es.length)
 | nil : rel G .nil (.slice none 0 0)
 | skip : rel G .skip Go.undef
 | sl (k off len cap b : Nat) (h : G.ob k = some b) : rel G (.sl k off len cap) (.slice (some ⟨b,off,none⟩) len cap)
 | fn (f : FuncId) (cs : List V) (vs : List Value) (hl : cs.length = vs.length) (h : ∀ (i : Nat) (x : V) (v : Value),cs[i]? = some x → vs[i]? = some v → rel G x v) : rel G (.fn f cs) (.func (.func f) #[] ⟨vs⟩)
 | mp (k b : Nat) (h : G.mp k = some b) : rel G (.mp k) (.map (some b))
 | gr (k n : Nat) (v : Value) (h1 : v.oneCell' = true) (L : Lv) (hL : G.rv k = some L) (hl : (n = L.n ∧ v = L.v) ∨ n < L.n) : rel G (.gr k n) v
 | gp (k n i off : Nat) (v : Value) (h1 : v.oneCell' = true) (L : Lv) (hL : G.rv k = some L) (hl : (n = L.n ∧ ∃ b,L.v.ownBlock = some b ∧ v = .pointer (some ⟨b,i * L.sz + off,none⟩)) ∨ n < L.n) : rel G (.gp k n i off) v
 | adr (k : Nat) (v : Value) (b : Nat) (hb : G.ob k = some b) (ht : G.tg b = some bT) (h : v = .pointer none ∨ v = .pointer (some ⟨b,0,none⟩)) : rel G (.adr k) v
 | gs (k n off len : Nat) (v : Value) (h1 : v.oneCell' = true) (L : Lv) (hL : G.rv k = some L) (hl : (n = L.n ∧ ((∃ b c,L.v.ownBlock = some b ∧ v = .slice (some ⟨b,off * L.sz,none⟩) len c ∧ len ≤ c) ∨ (len = 0 ∧ ∃ A c,v = .slice A 0 c))) ∨ n < L.n) : rel G (.gs k n off len) v
theorem rel_mono {G G' : Cx} (h : G.le G') {x : V} {v : Value} (r : rel G x v) : rel G' x v := by
 induction r with
 | undef v=>exact .undef v
 | d q=>exact .d (relD_mono h.F q)
 | agg cs vs hl _ ih=>exact .agg cs vs hl ih
 | tuple cs vs hl _ ih=>exact .tuple cs vs hl ih
 | ptr k off b q=>exact .ptr k off b (h.ob _ _ q)
 | iptr cs off b o u hF hr=>exact .iptr cs off b o u (fun j x q=>h.F _ _ _ (hF j x q)) (fun j x q=>relD_mono h.F (hr j x q))
 | own t es v q L hL hsz hl =>
  obtain ⟨L1,q1,s1,r1⟩ := h.lv t L hL
  refine .own t es v (relD_mono h.F q) L1 q1 (fun i e he=>by rw [s1]; exact hsz i e he) ?_
  rcases r1 with rfl | r1
  ·exact hl
  ·right
   rcases hl with hl | hl <;> omega
 | full es A q=>exact .full es A (relD_mono h.F q)
 | nil=>exact .nil
 | skip=>exact .skip
 | sl k off len cap b q=>exact .sl k off len cap b (h.ob _ _ q)
 | fn f cs vs hl _ ih=>exact .fn f cs vs hl ih
 | mp k b q=>exact .mp k b (h.mp _ _ q)
 | gr k n v h1 L hL hl =>
  obtain ⟨L1,q1,s1,r1⟩ := h.rv k L hL
  refine .gr k n v h1 L1 q1 ?_
  rcases r1 with rfl | r1
  ·exact hl
  ·right
   rcases hl with hl | hl <;> omega
 | gp k n i off v h1 L hL hl =>
  obtain ⟨L1,q1,s1,r1⟩ := h.rv k L hL
  refine .gp k n i off v h1 L1 q1 ?_
  rcases r1 with rfl | r1
  ·exact hl
  ·right
   rcases hl with hl | hl <;> omega
 | adr k v b hb ht q=>exact .adr k v b (h.ob _ _ hb) (h.tg _ _ ht) q
 | gs k n off len v h1 L hL hl =>
  obtain ⟨L1,q1,s1,r1⟩ := h.rv k L hL
  refine .gs k n off len v h1 L1 q1 ?_
  rcases r1 with rfl | r1
  ·exact hl
  ·right
   rcases hl with hl | hl <;> omega
def rels (G : Cx) (cs : List V) (vs : List Value) : Prop := cs.length = vs.length ∧ ∀ (i : Nat) (x : V) (v : Value),cs[i]? = some x → vs[i]? = some v → rel G x v
theorem rels_mono {G G' : Cx} (h : G.le G') {cs : List V} {vs : List Value} (r : rels G cs vs) : rels G' cs vs := ⟨r.1,fun i x v a b=>rel_mono h (r.2 i x v a b)⟩
theorem rels_nil (G : Cx) : rels G [] [] := ⟨rfl,fun i x v h=>by simp at h⟩
theorem rels_cons {G : Cx} {x : V} {v : Value} {cs : List V} {vs : List Value} (h : rel G x v) (r : rels G cs vs) : rels G (x :: cs) (v :: vs) := by
 refine ⟨by simp [r.1],fun i y u a b=>?_⟩
 cases i with
 | zero=>simp at a b; subst a; subst b; exact h
 | succ i=>simp at a b; exact r.2 i y u a b
theorem rels_cons_inv {G : Cx} {x : V} {v : Value} {cs : List V} {vs : List Value} (r : rels G (x :: cs) (v :: vs)) : rel G x v ∧ rels G cs vs :=
 ⟨r.2 0 x v rfl rfl,by simpa using r.1,fun i y u a b=>r.2 (i + 1) y u (by simpa using a) (by simpa using b)⟩
structure Sg where
 obs : List (List V)
 lns : List (TypeId × Nat)
def D.val : D → Value
 | .int k n=>.int k n
 | .bool b=>.bool b
 | .str s=>.string ⟨s.toArray⟩
 | .other v=>v
 | .list _=>undef
def relM (F : Nat → Nat → Value → Prop) (ik : IntKind) (kvs : List (Int × D)) (es : List MapEntry) : Prop :=
 kvs.length = es.length ∧ ∀ (i : Nat) (p : Int × D) (e : MapEntry),kvs[i]? = some p → es[i]? = some e → e.key = .int ik p.1 ∧ relD F p.2 e.val
theorem relM_mono {F F' : Nat → Nat → Value → Prop} (h : ∀ b o v,F b o v → F' b o v) {ik : IntKind} {kvs : List (Int × D)} {es : List MapEntry} (r : relM F ik kvs es) : relM F' ik kvs es :=
 ⟨r.1,fun i p e a b=>⟨(r.2 i p e a b).1,relD_mono h (r.2 i p e a b).2⟩⟩
def relRow (F : Nat → Nat → Value → Prop) (sz : Nat) (es : List (List D)) (xs : List Value) : Prop :=
 (∀ (i : Nat) (e : List D),es[i]? = some e → e.length = sz) ∧ ∀ (i j : Nat) (e : List D) (x : D),es[i]? = some e → e[j]? = some x → ∃ v,xs[i * sz + j]? = some v ∧ relD F x v
theorem relRow_mono {F F' : Nat → Nat → Value → Prop} (h : ∀ b o v,F b o v → F' b o v) {sz : Nat} {es : List (List D)} {xs : List Value} (r : relRow F sz es xs) : relRow F' sz es xs :=
 ⟨r.1,fun i j e x a b=>by obtain ⟨v,h1,h2⟩ := r.2 i j e x a b; exact ⟨v,h1,relD_mono h h2⟩⟩
def _root_.Go.World.holds (w : World) (base : Nat) (e : TypeId) (size : Nat) (v : Value) (n : Nat) (xs : List Value) : Prop := v = Go.undef ∨ w.ownsRow base e size v n xs
theorem holds_kp {w w' : World} {base : Nat} {e : TypeId} {size : Nat} {v : Value} {n : Nat} {xs : List Value} (h : w.holds base e size v n xs) (hk : Kp w w') : w'.holds base e size v n xs := h.imp id fun q=>own_kp q hk
theorem holds_lt {w : World} {base : Nat} {e : TypeId} {size : Nat} {v : Value} {n : Nat} {xs : List Value} (h : w.holds base e size v n xs) : ∀ k,v.ownBlock = some k → base ≤ k ∧ k < w.heap.size := by
 rcases h with rfl | h
 ·intro k hk; simp [Go.undef,Value.ownBlock] at hk
 ·exact h.lt
theorem holds_kept {w w' : World} {base : Nat} {e : TypeId} {size : Nat} {v : Value} {n : Nat} {xs : List Value} {row : Option Nat} (h : w.holds base e size v n xs) (hg : w.grownBy w' row) (hne : v.ownBlock = none ∨ v.ownBlock ≠ row) : w'.holds base e size v n xs := h.imp id fun q=>q.kept hg hne
def tagOf (w : World) (b : Nat) : Option TypeId := match w.heap[b]? with | some (.cells _ t _)=>some t | _=>none
def TK (w w' : World) : Prop := ∀ b t,tagOf w b = some t → tagOf w' b = some t
theorem tag_lt {w : World} {b : Nat} {t : TypeId} (h : tagOf w b = some t) : b < w.heap.size := by
 rcases Nat.lt_or_ge b w.heap.size with z | z
 ·exact z
 ·unfold tagOf at h; rw [Array.getElem?_eq_none z] at h; cases h
theorem tk_kp {w w' : World} (h : Kp w w') : TK w w' := fun b t q=>by
 have hl := tag_lt q
 unfold tagOf at q ⊢
 rw [h.below.block b hl]; exact q
theorem tk_grown {w w' : World} {g : Nat} (h : w.grownBy w' (some g)) (hg : ∀ t,tagOf w g = some t → tagOf w' g = some t) : TK w w' := fun b t q=>by
 by_cases e : b = g
 ·subst e; exact hg t q
 ·have hl := tag_lt q
  unfold tagOf at q ⊢
  rw [h.block b hl (fun e2=>e (by injection e2))]; exact q
theorem tag_own {w : World} {base : Nat} {e : TypeId} {sz n : Nat} {v : Value} {xs : List Value} {b : Nat} (h : w.ownsRow base e sz v n xs) (hb : v.ownBlock = some b) : tagOf w b = some e := by
 rcases h.2 with ⟨rfl,_⟩ | ⟨g,cap,cur,rfl,_,hg,_⟩
 ·cases hb
 ·injection hb with hb
  have hb : g = b := hb
  subst hb
  unfold tagOf; rw [hg]
structure HRp (P : Program) (w0 w : World) (G : Cx) (obs : Nat → Option (List V)) (lns : Nat → Option (TypeId × Nat)) : Prop where
 kp : Kp w0 w
 fs : ∀ b o v,G.F b o v → b < w.heap.size ∧ w.cell? ⟨b,o,none⟩ = some v
 fb : ∀ b o v,G.F b o v → G.base b o v ∨ w0.heap.size ≤ b
 obd : ∀ k b,G.ob k = some b → obs k ≠ none
 obl : ∀ k cs,obs k = some cs → G.mp k = none → G.rv k = none → ∃ b vs t,G.ob k = some b ∧ w0.heap.size ≤ b ∧ w.heap[b]? = some (.cells ⟨vs⟩ t (0,0)) ∧ rels G cs vs ∧ ∀ o v,¬ G.F b o v
 obi : ∀ k k' b,G.ob k = some b → G.ob k' = some b → k = k'
 lvd : ∀ t L,G.lv t = some L → lns t ≠ none
 lvl : ∀ t e n,lns t = some (e,n) → ∃ v xs,G.lv t = some ⟨n,P.cellsOf e,v⟩ ∧ w.holds w0.heap.size e (P.cellsOf e) v n xs ∧ ∀ b,v.ownBlock = some b → (∀ k,G.ob k ≠ some b) ∧ ∀ o u,G.F b o u → o < n * P.cellsOf e
 lvi : ∀ t t' L L' b,G.lv t = some L → G.lv t' = some L' → L.v.ownBlock = some b → L'.v.ownBlock = some b → t = t'
 gb : GlobOk w0 G.F
 obm : ∀ k b,G.ob k = some b → G.mp k = none
 mpl : ∀ k b,G.mp k = some b → w0.heap.size ≤ b ∧ ∃ es n ik kvs,obs k = some [.mapc ik kvs] ∧ w.heap[b]? = some (.map ⟨es⟩ n) ∧ relM G.F ik kvs es
 mpi : ∀ k k' b,G.mp k = some b → G.mp k' = some b → k = k'
 obr : ∀ k b,G.ob k = some b → G.rv k = none
 rvl : ∀ k L,G.rv k = some L → ∃ e es xs,obs k = some [.rowc e L.n es] ∧ L.sz = P.cellsOf e ∧ True ∧ w.ownsRow w0.heap.size e L.sz L.v es.length xs ∧ relRow G.F L.sz es xs ∧
  ∀ b,L.v.ownBlock = some b → (∀ j,G.ob j ≠ some b) ∧ (∀ o u,¬ G.F b o u) ∧ ∀ t L',G.lv t = some L' → L'.v.ownBlock ≠ some b
 rvi : ∀ k k' L L' b,G.rv k = some L → G.rv k' = some L' → L.v.ownBlock = some b → L'.v.ownBlock = some b → k = k'
 tgs : ∀ b t,G.tg b = some t → tagOf w b = some t
def HR (P : Program) (w0 w : World) (G : Cx) (s : Sg) : Prop := HRp P w0 w G (fun k=>s.obs[k]?) (fun t=>s.lns[t]?)
def fresh (w w' : World) (b o : Nat) (v : Value) : Prop := w.heap.size ≤ b ∧ w'.cell? ⟨b,o,none⟩ = some v
def Cx.withF (G : Cx) (N : Nat → Nat → Value → Prop) : Cx := { G with F := fun b o v=>G.F b o v ∨ N b o v }
theorem Cx.le_withF (G : Cx) (N : Nat → Nat → Value → Prop) : G.le (G.withF N) := ⟨rfl,fun _ _ _ h=>.inl h,fun _ _ h=>h,fun _ L h=>⟨L,h,rfl,.inl rfl⟩,fun _ _ h=>h,fun _ L h=>⟨L,h,rfl,.inl rfl⟩,fun _ _ q=>q⟩
theorem cell_lt {w : World} {b o : Nat} {v : Value} (h : w.cell? ⟨b,o,none⟩ = some v) : b < w.heap.size := World.block_lt_of_cell? w ⟨b,o,none⟩ h
theorem heap_lt' {W : World} {B : Nat} {o : Obj} (h : W.heap[B]? = some o) : B < W.heap.size := by
 rcases Nat.lt_or_ge B W.heap.size with hlt | hge
 ·exact hlt
 ·rw [Array.getElem?_eq_none hge] at h; cases h
theorem HRp.grow {P : Program} {w0 w w' : World} {G : Cx} {obs : Nat → Option (List V)} {lns : Nat → Option (TypeId × Nat)} (h : HRp P w0 w G obs lns) (hk : Kp w w') : HRp P w0 w' (G.withF (fresh w w')) obs lns := by
 have hb : ∀ b o,b < w.heap.size → w'.cell? ⟨b,o,none⟩ = w.cell? ⟨b,o,none⟩ := hk.see.1
 refine ⟨h.kp.trans hk,?_,?_,h.obd,?_,h.obi,h.lvd,?_,h.lvi,h.gb.mono fun _ _ _ q=>.inl q,h.obm,fun k b q=>?_,h.mpi,h.obr,fun k L q=>?_,h.rvi,fun b t q=>tk_kp hk _ _ (h.tgs b t q)⟩
 ·rintro b o v (q | ⟨q1,q2⟩)
  ·have := h.fs b o v q
   exact ⟨Nat.lt_of_lt_of_le this.1 hk.size,(hb b o this.1).trans this.2⟩
  ·exact ⟨cell_lt q2,q2⟩
 ·rintro b o v (q | ⟨q1,q2⟩)
  ·exact h.fb b o v q
  ·exact .inr (Nat.le_trans h.kp.size q1)
 ·intro k cs q hm hv
  obtain ⟨b,vs,t,h1,h2,h3,h4,h5⟩ := h.obl k cs q hm hv
  refine ⟨b,vs,t,h1,h2,(hk.below.block b (heap_lt' h3)).trans h3,rels_mono (G.le_withF _) h4,?_⟩
  rintro o v (q | ⟨q1,q2⟩)
  ·exact h5 o v q
  ·have := heap_lt' h3; omega
 ·intro t e n q
  obtain ⟨v,xs,h1,h2,h3⟩ := h.lvl t e n q
  refine ⟨v,xs,h1,holds_kp h2 hk,fun b hbk=>⟨(h3 b hbk).1,?_⟩⟩
  rintro o u (q | ⟨q1,q2⟩)
  ·exact (h3 b hbk).2 o u q
  ·have := (holds_lt h2 b hbk).2; omega
 ·obtain ⟨h1,es,n,ik,kvs,h2,h3,h4⟩ := h.mpl k b q
  exact ⟨h1,es,n,ik,kvs,h2,(hk.below.block b (heap_lt' h3)).trans h3,relM_mono (fun _ _ _ q=>.inl q) h4⟩
 ·obtain ⟨e,es,xs,h1,h2,h3,h4,h5,h6⟩ := h.rvl k L q
  refine ⟨e,es,xs,h1,h2,h3,own_kp h4 hk,relRow_mono (fun _ _ _ q=>.inl q) h5,fun b hb=>⟨(h6 b hb).1,?_,(h6 b hb).2.2⟩⟩
  rintro o u (q | ⟨q1,q2⟩)
  ·exact (h6 b hb).2.1 o u q
  ·have := (h4.lt b hb).2; omega
theorem HRp.kept {P : Program} {w0 w w' : World} {G : Cx} {obs : Nat → Option (List V)} {lns : Nat → Option (TypeId × Nat)} (h : HRp P w0 w G obs lns) (hk : Kp w w') : HRp P w0 w' G obs lns := by
 have hb : ∀ b o,b < w.heap.size → w'.cell? ⟨b,o,none⟩ = w.cell? ⟨b,o,none⟩ := hk.see.1
 refine ⟨h.kp.trans hk,?_,h.fb,h.obd,?_,h.obi,h.lvd,?_,h.lvi,h.gb,h.obm,fun k b q=>?_,h.mpi,h.obr,fun k L q=>?_,h.rvi,fun b t q=>tk_kp hk _ _ (h.tgs b t q)⟩
 ·intro b o v q
  have := h.fs b o v q
  exact ⟨Nat.lt_of_lt_of_le this.1 hk.size,(hb b o this.1).trans this.2⟩
 ·intro k cs q hm hv
  obtain ⟨b,vs,t,h1,h2,h3,h4,h5⟩ := h.obl k cs q hm hv
  exact ⟨b,vs,t,h1,h2,(hk.below.block b (heap_lt' h3)).trans h3,h4,h5⟩
 ·intro t e n q
  obtain ⟨v,xs,h1,h2,h3⟩ := h.lvl t e n q
  exact ⟨v,xs,h1,holds_kp h2 hk,h3⟩
 ·obtain ⟨h1,es,n,ik,kvs,h2,h3,h4⟩ := h.mpl k b q
  exact ⟨h1,es,n,ik,kvs,h2,(hk.below.block b (heap_lt' h3)).trans h3,h4⟩
 ·obtain ⟨e,es,xs,h1,h2,h3,h4,h5,h6⟩ := h.rvl k L q
  exact ⟨e,es,xs,h1,h2,h3,own_kp h4 hk,h5,h6⟩
end Go.Proofs.YtjgngikiglhleaaGreatDoor
namespace Go.Proofs.YtjgngikiglhleaaGreatDoor
open Go.RowKit
def upd {α : Type} (f : Nat → Option α) (k : Nat) (c : α) : Nat → Option α := fun j=>if j = k then some c else f j
theorem upd_same {α : Type} (f : Nat → Option α) (k : Nat) (c : α) : upd f k c k = some c := by simp [upd]
theorem upd_ne {α : Type} (f : Nat → Option α) {j k : Nat} (c : α) (h : j ≠ k) : upd f k c j = f j := by simp [upd,h]
theorem HRp.new {P : Program} {w0 w : World} {G : Cx} {obs : Nat → Option (List V)} {lns : Nat → Option (TypeId × Nat)} (h : HRp P w0 w G obs lns) (k : Nat) (hk : obs k = none) (cs : List V) (vs : List Value) (t : TypeId) (hr : rels G cs vs) :
  let G' : Cx := { G with ob := upd G.ob k w.heap.size }
  G.le G' ∧ HRp P w0 (w.alloc (.cells ⟨vs⟩ t)) G' (upd obs k cs) lns := by
 intro G'
 have hnone : G.ob k = none := by
  cases hq : G.ob k with
  | none=>rfl
  | some b=>exact absurd hk (h.obd k b hq)
 have hle : G.le G' := by
  refine ⟨rfl,fun _ _ _ q=>q,fun j b q=>?_,fun _ L q=>⟨L,q,rfl,.inl rfl⟩,fun _ _ q=>q,fun _ L q=>⟨L,q,rfl,.inl rfl⟩,fun _ _ q=>q⟩
  show upd G.ob k w.heap.size j = some b
  rw [upd_ne _ _ (fun e=>by rw [e,hnone] at q; cases q)]; exact q
 have hkp : Kp w (w.alloc (.cells ⟨vs⟩ t)) := (Kp.refl w).alloc _
 have hob : ∀ j b,G'.ob j = some b → (j = k ∧ b = w.heap.size) ∨ (j ≠ k ∧ G.ob j = some b) := by
  intro j b q
  by_cases e : j = k
  ·left
   subst e
   have q' : upd G.ob j w.heap.size j = some b := q
   rw [upd_same] at q'
   injection q' with q'
   exact ⟨rfl,q'.symm⟩
  ·right
   have q' : upd G.ob k w.heap.size j = some b := q
   rw [upd_ne _ _ e] at q'
   exact ⟨e,q'⟩
 have hlt : ∀ j b,G.ob j = some b → b < w.heap.size := by
  intro j b q
  cases hq : obs j with
  | none=>exact absurd hq (h.obd j b q)
  | some cs =>
   obtain ⟨b',vs',t',h1,_,h3,_⟩ := h.obl j cs hq (h.obm j b q) (h.obr j b q)
   rw [q] at h1; injection h1 with h1; subst h1
   exact heap_lt' h3
 have hmk : G.mp k = none := by
  cases hq : G.mp k with
  | none=>rfl
  | some b=>obtain ⟨_,_,_,_,_,h2,_⟩ := h.mpl k b hq; rw [hk] at h2; cases h2
 have hrk : G.rv k = none := by
  cases hq : G.rv k with
  | none=>rfl
  | some L=>obtain ⟨_,_,_,h1,_⟩ := h.rvl k L hq; rw [hk] at h1; cases h1
 refine ⟨hle,h.kp.trans hkp,?_,h.fb,?_,?_,?_,h.lvd,?_,h.lvi,h.gb,?_,?_,h.mpi,?_,?_,h.rvi,fun b t q=>tk_kp hkp _ _ (h.tgs b t q)⟩
 ·intro b o v q
  have := h.fs b o v q
  exact ⟨Nat.lt_of_lt_of_le this.1 hkp.size,(hkp.see.1 b o this.1).trans this.2⟩
 ·intro j b q
  rcases hob j b q with ⟨rfl,_⟩ | ⟨e,q⟩
  ·rw [upd_same]; simp
  ·rw [upd_ne _ _ e]; exact h.obd j b q
 ·intro j cs' q hm hrv
  by_cases e : j = k
  ·subst e
   rw [upd_same] at q
   injection q with q
   subst q
   refine ⟨w.heap.size,vs,t,upd_same _ _ _,h.kp.size,heap_alloc_new w _,rels_mono hle hr,fun o v q=>?_⟩
   have := (h.fs _ _ _ q).1
   omega
  ·rw [upd_ne _ _ e] at q
   obtain ⟨b,vs',t',h1,h2,h3,h4,h5⟩ := h.obl j cs' q hm hrv
   exact ⟨b,vs',t',hle.ob _ _ h1,h2,(hkp.below.block b (heap_lt' h3)).trans h3,rels_mono hle h4,h5⟩
 ·intro j j' b q q'
  rcases hob j b q with ⟨e1,e2⟩ | ⟨e1,q1⟩ <;> rcases hob j' b q' with ⟨e3,e4⟩ | ⟨e3,q2⟩
  ·rw [e1,e3]
  ·exact absurd (hlt _ _ q2) (by omega)
  ·exact absurd (hlt _ _ q1) (by omega)
  ·exact h.obi j j' b q1 q2
 ·intro t' e n q
  obtain ⟨v,xs,h1,h2,h3⟩ := h.lvl t' e n q
  refine ⟨v,xs,h1,holds_kp h2 hkp,fun b hb=>⟨fun j q=>?_,(h3 b hb).2⟩⟩
  rcases hob j b q with ⟨_,rfl⟩ | ⟨_,q⟩
  ·exact absurd (holds_lt h2 _ hb).2 (by omega)
  ·exact (h3 b hb).1 j q
 ·intro j b q
  rcases hob j b q with ⟨rfl,_⟩ | ⟨_,q⟩
  ·exact hmk
  ·exact h.obm j b q
 ·intro j b q
  obtain ⟨h1,es,n,ik,kvs,h2,h3,h4⟩ := h.mpl j b q
  have hj : j ≠ k := fun e=>by rw [e] at h2; rw [hk] at h2; cases h2
  exact ⟨h1,es,n,ik,kvs,by rw [upd_ne _ _ hj]; exact h2,(hkp.below.block b (heap_lt' h3)).trans h3,h4⟩
 ·intro j b q
  rcases hob j b q with ⟨rfl,_⟩ | ⟨_,q⟩
  ·exact hrk
  ·exact h.obr j b q
 ·intro j L q
  obtain ⟨e,es,xs,h1,h2,h3,h4,h5,h6⟩ := h.rvl j L q
  have hj : j ≠ k := fun e=>by rw [e] at h1; rw [hk] at h1; cases h1
  refine ⟨e,es,xs,by rw [upd_ne _ _ hj]; exact h1,h2,h3,own_kp h4 hkp,h5,fun b hb=>⟨fun j' q'=>?_,(h6 b hb).2⟩⟩
  rcases hob j' b q' with ⟨_,rfl⟩ | ⟨_,q'⟩
  ·exact absurd (h4.lt _ hb).2 (by omega)
  ·exact (h6 b hb).1 j' q'
theorem HRp.put {P : Program} {w0 w w' : World} {G : Cx} {obs : Nat → Option (List V)} {lns : Nat → Option (TypeId × Nat)} (h : HRp P w0 w G obs lns) {k b : Nat} (hk : G.ob k = some b) (hg : w.grownBy w' (some b)) (hkt : TK w w') {cs : List V} {vs : List Value} {t : TypeId} (hb : w'.heap[b]? = some (.cells ⟨vs⟩ t (0,0))) (hr : rels G cs vs) :
  HRp P w0 w' G (upd obs k cs) lns := by
 have hcs : ∃ cs0,obs k = some cs0 := by
  cases hq : obs k with
  | none=>exact absurd hq (h.obd k b hk)
  | some c=>exact ⟨c,rfl⟩
 obtain ⟨cs0,hq⟩ := hcs
 obtain ⟨b',vs0,t0,g1,g2,g3,g4,g5⟩ := h.obl k cs0 hq (h.obm k b hk) (h.obr k b hk)
 rw [hk] at g1; injection g1 with g1; subst g1
 have hbk : ∀ b',b' < w.heap.size → b' ≠ b → w'.heap[b']? = w.heap[b']? := fun b' hl hn=>hg.block b' hl (fun e=>hn (by injection e))
 refine ⟨h.kp.grown hg (fun j hj=>by injection hj with hj; subst hj; exact g2),?_,h.fb,?_,?_,h.obi,h.lvd,?_,h.lvi,h.gb,h.obm,?_,h.mpi,h.obr,?_,h.rvi,fun b t q=>hkt _ _ (h.tgs b t q)⟩
 ·intro b' o v q
  have q1 := h.fs b' o v q
  have hne : b' ≠ b := fun e=>by subst e; exact g5 o v q
  exact ⟨Nat.lt_of_lt_of_le q1.1 hg.size,(World.cell?_of_block (a := ⟨b',o,none⟩) (hbk b' q1.1 hne)).trans q1.2⟩
 ·intro j b' q
  by_cases e : j = k
  ·subst e; rw [upd_same]; simp
  ·rw [upd_ne _ _ e]; exact h.obd j b' q
 ·intro j cs' q hm hrv
  by_cases e : j = k
  ·subst e
   rw [upd_same] at q; injection q with q; subst q
   exact ⟨b,vs,t,hk,g2,hb,hr,g5⟩
  ·rw [upd_ne _ _ e] at q
   obtain ⟨b',vs',t',h1,h2,h3,h4,h5⟩ := h.obl j cs' q hm hrv
   have hne : b' ≠ b := fun e'=>e (h.obi j k b (e' ▸ h1) hk)
   exact ⟨b',vs',t',h1,h2,(hbk b' (heap_lt' h3) hne).trans h3,h4,h5⟩
 ·intro t' e n q
  obtain ⟨v,xs,h1,h2,h3⟩ := h.lvl t' e n q
  refine ⟨v,xs,h1,?_,h3⟩
  refine holds_kept h2 hg (.inr fun hv=>(h3 b hv).1 k hk)
 ·intro j b' q
  obtain ⟨h1,es,n,ik,kvs,h2,h3,h4⟩ := h.mpl j b' q
  have hj : j ≠ k := fun e=>by rw [e,h.obm k b hk] at q; cases q
  have hne : b' ≠ b := fun e=>by rw [e,g3] at h3; cases h3
  exact ⟨h1,es,n,ik,kvs,by rw [upd_ne _ _ hj]; exact h2,(hbk b' (heap_lt' h3) hne).trans h3,h4⟩
 ·intro j L q
  obtain ⟨e,es,xs,h1,h2,h3,h4,h5,h6⟩ := h.rvl j L q
  have hj : j ≠ k := fun e=>by rw [e,h.obr k b hk] at q; cases q
  exact ⟨e,es,xs,by rw [upd_ne _ _ hj]; exact h1,h2,h3,h4.kept hg (.inr fun hv=>(h6 b hv).1 k hk),h5,h6⟩
theorem run_append_any {P : Program} (w : World) (t ty e : TypeId) (i : TypeInfo) (z : Value) (base : Nat) (ht : P.underlying t = some (.slice e)) (hi : P.info? e = some i) (hz : i.zero = some z)
  (hzs : z.cells.size = i.size) (v : Value) (n : Nat) (xs : List Value) (hown : w.ownsRow base e i.size v n xs)
  (a : Addr) (m c : Nat) (news : List Value) (hl : news.length = m * i.size) (hnews : ∀ j u,news[j]? = some u → w.cell? (a.add j) = some u) (h1 : ∀ u ∈ news,u.oneCell' = true)
  (hm : 0 < m) (h63 : n + m ≤ maxLen) (hbytes : (n + m) * i.bytes ≤ 140737488355328) (hbase : base ≤ w.heap.size) :
  ∃ g cap w',(Builtin.append_ #[t,t] ty #[v,.slice (some a) m c]).run P w = .ok (.slice (some ⟨g,0,none⟩) (n + m) cap) w' ∧
   w'.ownsRow base e i.size (.slice (some ⟨g,0,none⟩) (n + m) cap) (n + m) (xs ++ news) ∧ ((v.ownBlock = some g ∧ w.grownBy w' (some g)) ∨ (g = w.heap.size ∧ Kp w w')) := by
 have hsmall : n + m ≤ 9223372036854775807 := by simp only [maxLen] at h63; omega
 have hlen : (xs ++ news).length = (n + m) * i.size := by rw [List.length_append,hown.1,hl,Nat.add_mul]
 have grown : ∀ (old : Nat),old < n + m →
   (w.drew.alloc (.cells (xs.toArray ++ news.toArray ++ Builtin.zeroCells z.cells (grownCap w (n + m) old e - (n + m))) e)).ownsRow base e i.size
    (.slice (some ⟨w.heap.size,0,none⟩) (n + m) (grownCap w (n + m) old e)) (n + m) (xs ++ news) := by
  intro old ho
  have hge := grownCap_ge w (n + m) old e
  have hcm : grownCap w (n + m) old e ≤ maxLen := grownCap_le_maxLen w (n + m) old e h63
  refine ⟨hlen,.inr ⟨w.heap.size,_,_,rfl,hbase,heap_alloc_new w.drew _,hge,hcm,?_,?_⟩⟩
  ·simp only [Array.size_append,List.size_toArray,size_zeroCells,hzs,hown.1,hl,← Nat.add_mul]
   congr 1
   omega
  ·simp only [Array.toList_append,List.append_assoc]
   rw [← List.append_assoc,← hlen]
   exact List.take_left
 rcases hown.2 with ⟨rfl,rfl⟩ | ⟨g,cap,cur,rfl,hbg,hg,hnc,hcm,hcs,htake⟩
 ·have hx : xs = [] := List.eq_nil_of_length_eq_zero (by simpa using hown.1)
  subst hx
  have hr := run_append_nil (P := P) w t ty e i z ht hi hz a m c news hl hnews (by omega) (by omega) (by have hb := hbytes; simp only [Nat.zero_add] at hb; omega)
  have hgr := grown 0 (by omega)
  simp only [Nat.zero_add,List.nil_append,Array.empty_append] at hgr ⊢
  exact ⟨_,_,_,hr,hgr,.inr ⟨rfl,((Kp.refl w).drew).alloc _⟩⟩
 ·by_cases hroom : n + m ≤ cap
  ·have hfit : n * i.size + news.length ≤ cur.size := by rw [hl,hcs,← Nat.add_mul]; exact Nat.mul_le_mul_right _ hroom
   have hr := run_append_room (P := P) w t ty e i ht hi g n cap cur hg a m c news hl hnews h1 hroom hfit
   refine ⟨_,_,_,hr,⟨hlen,.inr ⟨g,cap,_,rfl,hbg,setRow_heap w g cur _ e _ hg,hroom,hcm,?_,?_⟩⟩,.inl ⟨rfl,⟨rfl,rfl,rfl,by simp,fun k _ hk=>setRow_other w g k _ (fun e=>hk (by simp [e]))⟩⟩⟩
   ·simp only [List.size_toArray,List.length_append,List.length_take,List.length_drop,Array.length_toList]
    omega
   ·rw [htake,← hlen]
    exact List.take_left
  ·have holds : ∀ j u,xs[j]? = some u → w.cell? ((⟨g,0,none⟩ : Addr).add j) = some u := hown.cells (g := g) rfl
   have hr := run_append_grow (P := P) w t ty e i z ht hi hz ⟨g,0,none⟩ n cap xs hown.1 holds a m c news hl hnews (by omega) (by omega) (growslice_fits (by omega) hbytes)
   have hgr := grown cap (by omega)
   exact ⟨_,_,_,hr,hgr,.inr ⟨rfl,((Kp.refl w).drew).alloc _⟩⟩
theorem HRp.begin {P : Program} {w0 w : World} {G : Cx} {obs : Nat → Option (List V)} {lns : Nat → Option (TypeId × Nat)} (h : HRp P w0 w G obs lns) (t : Nat) (ht : lns t = none) (e : TypeId) :
  let G' : Cx := { G with lv := upd G.lv t ⟨0,P.cellsOf e,.slice none 0 0⟩ }
  G.le G' ∧ HRp P w0 w G' obs (upd lns t (e,0)) := by
 intro G'
 have hnone : G.lv t = none := by
  cases hq : G.lv t with
  | none=>rfl
  | some b=>exact absurd ht (h.lvd t b hq)
 have hlv : ∀ j L,G'.lv j = some L → (j = t ∧ L = ⟨0,P.cellsOf e,.slice none 0 0⟩) ∨ (j ≠ t ∧ G.lv j = some L) := by
  intro j L q
  have q' : upd G.lv t ⟨0,P.cellsOf e,.slice none 0 0⟩ j = some L := q
  by_cases e : j = t
  ·subst e; rw [upd_same] at q'; injection q' with q'; exact .inl ⟨rfl,q'.symm⟩
  ·rw [upd_ne _ _ e] at q'; exact .inr ⟨e,q'⟩
 have hle : G.le G' := by
  refine ⟨rfl,fun _ _ _ q=>q,fun _ _ q=>q,fun j L q=>⟨L,?_,rfl,.inl rfl⟩,fun _ _ q=>q,fun _ L q=>⟨L,q,rfl,.inl rfl⟩,fun _ _ q=>q⟩
  show upd G.lv t _ j = some L
  rw [upd_ne _ _ (fun e=>by rw [e,hnone] at q; cases q)]; exact q
 refine ⟨hle,h.kp,h.fs,h.fb,h.obd,?_,h.obi,?_,?_,?_,h.gb,h.obm,h.mpl,h.mpi,h.obr,fun k L q=>?_,h.rvi,h.tgs⟩
 ·intro k cs q hm hrv
  obtain ⟨b,vs,t',h1,h2,h3,h4,h5⟩ := h.obl k cs q hm hrv
  exact ⟨b,vs,t',h1,h2,h3,rels_mono hle h4,h5⟩
 ·intro j L q
  rcases hlv j L q with ⟨rfl,_⟩ | ⟨e,q⟩
  ·rw [upd_same]; simp
  ·rw [upd_ne _ _ e]; exact h.lvd j L q
 ·intro j e' n q
  by_cases ej : j = t
  ·subst ej
   rw [upd_same] at q; injection q with q; injection q with q1 q2; subst q1; subst q2
   exact ⟨.slice none 0 0,[],upd_same _ _ _,.inr (World.ownsRow_nil _ _ _ _),fun b hb=>by simp [Value.ownBlock] at hb⟩
  ·rw [upd_ne _ _ ej] at q
   obtain ⟨v,xs,h1,h2,h3⟩ := h.lvl j e' n q
   exact ⟨v,xs,(by show upd G.lv t _ j = _; rw [upd_ne _ _ ej]; exact h1),h2,h3⟩
 ·intro j j' L L' b q q' h1 h2
  rcases hlv j L q with ⟨_,rfl⟩ | ⟨_,q⟩
  ·simp [Value.ownBlock] at h1
  ·rcases hlv j' L' q' with ⟨_,rfl⟩ | ⟨_,q'⟩
   ·simp [Value.ownBlock] at h2
   ·exact h.lvi j j' L L' b q q' h1 h2
 ·obtain ⟨e',es,xs,h1,h2,h3,h4,h5,h6⟩ := h.rvl k L q
  refine ⟨e',es,xs,h1,h2,h3,h4,h5,fun b hb=>⟨(h6 b hb).1,(h6 b hb).2.1,fun j L' q'=>?_⟩⟩
  rcases hlv j L' q' with ⟨_,rfl⟩ | ⟨_,q'⟩
  ·simp [Value.ownBlock]
  ·exact (h6 b hb).2.2 j L' q'
theorem HRp.app {P : Program} {w0 w w' : World} {G : Cx} {obs : Nat → Option (List V)} {lns : Nat → Option (TypeId × Nat)} (h : HRp P w0 w G obs lns) {t n m g cap : Nat} {e : TypeId} {v : Value} {xs news : List Value} (hl : lns t = some (e,n)) (hv : G.lv t = some ⟨n,P.cellsOf e,v⟩)
  (hown : w.ownsRow w0.heap.size e (P.cellsOf e) v n xs) (hown' : w'.ownsRow w0.heap.size e (P.cellsOf e) (.slice (some ⟨g,0,none⟩) (n + m) cap) (n + m) (xs ++ news)) (hm : 0 < m)
  (hat : (v.ownBlock = some g ∧ w.grownBy w' (some g)) ∨ (g = w.heap.size ∧ Kp w w')) :
  let G' : Cx := { base := G.base,F := fun b o u=>G.F b o u ∨ (b = g ∧ o < (n + m) * P.cellsOf e ∧ w'.cell? ⟨g,o,none⟩ = some u),ob := G.ob,mp := G.mp,rv := G.rv,tg := G.tg,lv := upd G.lv t ⟨n + m,P.cellsOf e,.slice (some ⟨g,0,none⟩) (n + m) cap⟩ }
  G.le G' ∧ HRp P w0 w' G' obs (upd lns t (e,n + m)) := by
 intro G'
 obtain ⟨v0,xs0,g1,g2,g3⟩ := h.lvl t e n hl
 rw [hv] at g1
 injection g1 with g1
 injection g1 with _ _ g1
 subst g1
 have hlt' : g < w'.heap.size := (hown'.lt g rfl).2
 -- blocks other than g are as they were
 have hblk : ∀ b,b < w.heap.size → b ≠ g → w'.heap[b]? = w.heap[b]? := by
  intro b hb hn
  rcases hat with ⟨_,hg⟩ | ⟨_,hk⟩
  ·exact hg.block b hb (fun e=>hn (by injection e))
  ·exact hk.below.block b hb
 have hsize : w.heap.size ≤ w'.heap.size := by
  rcases hat with ⟨_,hg⟩ | ⟨_,hk⟩
  ·exact hg.size
  ·exact hk.size
 have hFg : ∀ o u,G.F g o u → o < n * P.cellsOf e ∧ w'.cell? ⟨g,o,none⟩ = some u := by
  intro o u q
  rcases hat with ⟨hb,hg⟩ | ⟨hb,hk⟩
  ·have ho := (g3 g hb).2 o u q
   refine ⟨ho,?_⟩
   have hx : o < xs.length := by rw [hown.1]; exact ho
   have c1 := hown.cells hb o xs[o] (List.getElem?_eq_getElem hx)
   have c2 := hown'.cells (g := g) rfl o xs[o] (by rw [List.getElem?_append_left hx,List.getElem?_eq_getElem hx])
   have hadd : (⟨g,0,none⟩ : Addr).add o = ⟨g,o,none⟩ := by unfold Addr.add; split <;> simp_all
   rw [hadd] at c1 c2
   rw [c2,← c1]
   exact (h.fs g o u q).2
  ·have := (h.fs g o u q).1; omega
 have hgob : ∀ k,G.ob k ≠ some g := by
  intro k q
  rcases hat with ⟨hb,hg⟩ | ⟨hb,hk⟩
  ·exact (g3 g hb).1 k q
  ·cases hq : obs k with
   | none=>exact absurd hq (h.obd k g q)
   | some cs =>
    obtain ⟨b',_,_,h1,_,h3,_⟩ := h.obl k cs hq (h.obm k g q) (h.obr k g q)
    rw [q] at h1; injection h1 with h1; subst h1
    have := heap_lt' h3; omega
 have hlv : ∀ j L,G'.lv j = some L → (j = t ∧ L = ⟨n + m,P.cellsOf e,.slice (some ⟨g,0,none⟩) (n + m) cap⟩) ∨ (j ≠ t ∧ G.lv j = some L) := by
  intro j L q
  have q' : upd G.lv t ⟨n + m,P.cellsOf e,.slice (some ⟨g,0,none⟩) (n + m) cap⟩ j = some L := q
  by_cases e : j = t
  ·subst e; rw [upd_same] at q'; injection q' with q'; exact .inl ⟨rfl,q'.symm⟩
  ·rw [upd_ne _ _ e] at q'; exact .inr ⟨e,q'⟩
 -- other growing lists lie elsewhere
 have hoth : ∀ j L,j ≠ t → G.lv j = some L → L.v.ownBlock ≠ some g := by
  intro j L hj q hb'
  rcases hat with ⟨hb,hg⟩ | ⟨hb,hk⟩
  ·exact hj (h.lvi j t L _ g q hv hb' hb)
  ·cases hq : lns j with
   | none=>exact absurd hq (h.lvd j L q)
   | some en =>
    obtain ⟨v',xs',h1,h2,_⟩ := h.lvl j en.1 en.2 hq
    rw [q] at h1; injection h1 with h1; subst h1
    have := (holds_lt h2 g hb').2; omega
 have hle : G.le G' := by
  refine ⟨rfl,fun _ _ _ q=>.inl q,fun _ _ q=>q,fun j L q=>?_,fun _ _ q=>q,fun _ L q=>⟨L,q,rfl,.inl rfl⟩,fun _ _ q=>q⟩
  by_cases ej : j = t
  ·subst ej
   rw [hv] at q; injection q with q; subst q
   exact ⟨_,upd_same _ _ _,rfl,.inr (by show n < n + m; omega)⟩
  ·exact ⟨L,(by show upd G.lv t _ j = _; rw [upd_ne _ _ ej]; exact q),rfl,.inl rfl⟩
 refine ⟨hle,?_,?_,?_,h.obd,?_,h.obi,?_,?_,?_,h.gb.mono fun _ _ _ q=>.inl q,h.obm,fun j b q=>?_,h.mpi,h.obr,fun j L q=>?_,h.rvi,fun b t q=>?_⟩
 ·rcases hat with ⟨hb,hg⟩ | ⟨hb,hk⟩
  ·exact h.kp.grown hg (fun k hk=>by injection hk with hk; subst hk; exact (hown.lt _ hb).1)
  ·exact h.kp.trans hk
 ·rintro b o u (q | ⟨rfl,_,q2⟩)
  ·have q1 := h.fs b o u q
   refine ⟨Nat.lt_of_lt_of_le q1.1 hsize,?_⟩
   by_cases hbg : b = g
   ·subst hbg; exact (hFg o u q).2
   ·exact (World.cell?_of_block (a := ⟨b,o,none⟩) (hblk b q1.1 hbg)).trans q1.2
  ·exact ⟨hlt',q2⟩
 ·rintro b o u (q | ⟨rfl,_,q2⟩)
  ·exact h.fb b o u q
  ·exact .inr (hown'.lt _ rfl).1
 ·intro k cs q hm hrv
  obtain ⟨b,vs,t',h1,h2,h3,h4,h5⟩ := h.obl k cs q hm hrv
  have hbg : b ≠ g := fun e=>hgob k (e ▸ h1)
  refine ⟨b,vs,t',h1,h2,(hblk b (heap_lt' h3) hbg).trans h3,rels_mono hle h4,?_⟩
  rintro o u (q | ⟨q1,_⟩)
  ·exact h5 o u q
  ·exact hbg q1
 ·intro j L q
  rcases hlv j L q with ⟨rfl,_⟩ | ⟨e,q⟩
  ·rw [upd_same]; simp
  ·rw [upd_ne _ _ e]; exact h.lvd j L q
 ·intro j e' n' q
  by_cases ej : j = t
  ·subst ej
   rw [upd_same] at q; injection q with q; injection q with q1 q2; subst q1; subst q2
   refine ⟨_,xs ++ news,upd_same _ _ _,.inr hown',fun b hb=>?_⟩
   have hbg : g = b := by injection hb
   subst hbg
   refine ⟨hgob,?_⟩
   rintro o u (q | ⟨_,q,_⟩)
   ·exact Nat.lt_of_lt_of_le (hFg o u q).1 (Nat.mul_le_mul_right _ (by omega))
   ·exact q
  ·rw [upd_ne _ _ ej] at q
   obtain ⟨v',xs',h1,h2,h3⟩ := h.lvl j e' n' q
   refine ⟨v',xs',(by show upd G.lv t _ j = _; rw [upd_ne _ _ ej]; exact h1),?_,fun b hb=>⟨(h3 b hb).1,?_⟩⟩
   ·rcases hat with ⟨hb,hg⟩ | ⟨hb,hk⟩
    ·exact holds_kept h2 hg (.inr (hoth j _ ej h1))
    ·exact holds_kp h2 hk
   ·rintro o u (q | ⟨q,_⟩)
    ·exact (h3 b hb).2 o u q
    ·exact absurd (q ▸ hb) (hoth j _ ej h1)
 ·intro j j' L L' b q q' h1 h2
  rcases hlv j L q with ⟨e1,r1⟩ | ⟨e1,q1⟩ <;> rcases hlv j' L' q' with ⟨e2,r2⟩ | ⟨e2,q2⟩
  ·rw [e1,e2]
  ·subst r1
   have hbg : g = b := by injection h1
   exact absurd (hbg ▸ h2) (hoth j' L' e2 q2)
  ·subst r2
   have hbg : g = b := by injection h2
   exact absurd (hbg ▸ h1) (hoth j L e1 q1)
  ·exact h.lvi j j' L L' b q1 q2 h1 h2
 ·obtain ⟨h1,es,n',ik,kvs,h2,h3,h4⟩ := h.mpl j b q
  have hbg : b ≠ g := by
   rintro rfl
   rcases hat with ⟨hb,hg⟩ | ⟨hb,hk⟩
   ·rcases hown.2 with ⟨rfl,_⟩ | ⟨g',cap',cur,rfl,_,hgc,_⟩
    ·cases hb
    ·have : g' = b := by injection hb
     subst this
     rw [hgc] at h3; cases h3
   ·have := heap_lt' h3; omega
  exact ⟨h1,es,n',ik,kvs,h2,(hblk b (heap_lt' h3) hbg).trans h3,relM_mono (fun _ _ _ q=>.inl q) h4⟩
 ·obtain ⟨e',es,xs',h1,h2,h3,h4,h5,h6⟩ := h.rvl j L q
  have hbg : ∀ b,L.v.ownBlock = some b → b ≠ g := by
   rintro b hb rfl
   rcases hat with ⟨hb',hg⟩ | ⟨hb',hk⟩
   ·exact (h6 b hb).2.2 t _ hv hb'
   ·have := (h4.lt b hb).2; omega
  refine ⟨e',es,xs',h1,h2,h3,?_,relRow_mono (fun _ _ _ q=>.inl q) h5,fun b hb=>⟨(h6 b hb).1,?_,fun j' L' q'=>?_⟩⟩
  ·rcases hat with ⟨hb',hg⟩ | ⟨hb',hk⟩
   ·exact h4.kept hg (.inr fun hv'=>hbg g hv' rfl)
   ·exact own_kp h4 hk
  ·rintro o u (q | ⟨q1,_⟩)
   ·exact (h6 b hb).2.1 o u q
   ·exact hbg b hb q1
  ·rcases hlv j' L' q' with ⟨_,rfl⟩ | ⟨_,q'⟩
   ·intro hh
    have : g = b := by injection hh
    exact hbg b hb this.symm
   ·exact (h6 b hb).2.2 j' L' q'
 ·refine (show TK w w' from ?_) b t (h.tgs b t q)
  rcases hat with ⟨hb,hg⟩ | ⟨_,hk⟩
  ·exact tk_grown hg fun t' q'=>by
    have h1 := tag_own hown hb
    have h2 := tag_own hown' (b := g) rfl
    rw [h1] at q'; rw [h2]; exact q'
  ·exact tk_kp hk
end Go.Proofs.YtjgngikiglhleaaGreatDoor
