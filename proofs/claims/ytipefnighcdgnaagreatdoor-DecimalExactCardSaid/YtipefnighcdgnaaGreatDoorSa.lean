import Derived.Test.YtipefnighcdgnaaGreatDoorBase
namespace Go.Proofs.YtipefnighcdgnaaGreatDoor
open Go.RowKit
inductive D where
 | int (k : IntKind) (n : Int)
 | bool (b : Bool)
 | str (s : List UInt8)
 | list (es : List (List D))
 | other (v : Value)
inductive relD (F : Nat → Nat → Value → Prop) : D → Value → Prop
 | int (k : IntKind) (n : Int) : relD F (.int k n) (.int k n)
 | bool (b : Bool) : relD F (.bool b) (.bool b)
 | str (s : List UInt8) : relD F (.str s) (.string ⟨s.toArray⟩)
 | nil (A : Option Addr) (c : Nat) : relD F (.list []) (.slice A 0 c)
 | list (es : List (List D)) (b off c sz : Nat) (u : Nat → Nat → Value) (hne : 0 < es.length) (hcap : es.length ≤ c) (hsz : ∀ (i : Nat) (e : List D), es[i]? = some e → e.length = sz)
   (hF : ∀ (i j : Nat) (e : List D) (x : D), es[i]? = some e → e[j]? = some x → F b (off + i * sz + j) (u i j))
   (hr : ∀ (i j : Nat) (e : List D) (x : D), es[i]? = some e → e[j]? = some x → relD F x (u i j)) : relD F (.list es) (.slice (some ⟨b, off, none⟩) es.length c)
 | other (v : Value) (h1 : v.oneCell' = true) : relD F (.other v) v
theorem relD_mono {F F' : Nat → Nat → Value → Prop} (h : ∀ b o v, F b o v → F' b o v) {x : D} {v : Value} (r : relD F x v) : relD F' x v := by
 induction r with
 | int k n => exact .int k n
 | bool b => exact .bool b
 | str s => exact .str s
 | nil A c => exact .nil A c
 | list es b off c sz u hne hcap hsz hF _ ih => exact .list es b off c sz u hne hcap hsz (fun i j e x h1 h2 => h _ _ _ (hF i j e x h1 h2)) ih
 | other v h1 => exact .other v h1
def glT : Nat → Option (List D)
 | _ => none
def tabT : Nat → Option (IntKind × List Int)
 | 0 => some (.u64, [1, 10, 100, 1000, 10000, 100000, 1000000, 10000000, 100000000, 1000000000, 10000000000, 100000000000, 1000000000000, 10000000000000, 100000000000000, 1000000000000000, 10000000000000000, 100000000000000000, 1000000000000000000, 10000000000000000000])
  | _ => none
def Tabs (w : World) : Prop := ∀ b k zs, tabT b = some (k, zs) → ∃ t f, w.heap[b]? = some (.cells (zs.map fun z => Value.int k z).toArray t f)
def GlobOk (w : World) (F : Nat → Nat → Value → Prop) : Prop := (∀ b cs, glT b = some cs → ∃ u : Nat → Value, ∀ (j : Nat) (x : D), cs[j]? = some x → F b j (u j) ∧ relD F x (u j)) ∧ Tabs w
theorem GlobOk.mono {w : World} {F F' : Nat → Nat → Value → Prop} (h : GlobOk w F) (hi : ∀ b o v, F b o v → F' b o v) : GlobOk w F' := ⟨fun b cs hb => by
 obtain ⟨u, hu⟩ := h.1 b cs hb
 exact ⟨u, fun j x hx => ⟨hi _ _ _ (hu j x hx).1, relD_mono hi (hu j x hx).2⟩⟩, h.2⟩
theorem GlobOk.kp {w w' : World} {F : Nat → Nat → Value → Prop} (h : GlobOk w F) (hk : Kp w w') : GlobOk w' F := ⟨h.1, fun b k zs hb => by
 obtain ⟨t, f, q⟩ := h.2 b k zs hb
 have hlt : b < w.heap.size := by
  rcases Nat.lt_or_ge b w.heap.size with z | z
  ·exact z
  ·rw [Array.getElem?_eq_none z] at q; cases q
 exact ⟨t, f, (hk.below.block b hlt).trans q⟩⟩
inductive V where
 | undef
 | d (x : D)
 | agg (cs : List V)
 | tuple (vs : List V)
 | ptr (k off : Nat)
 | iptr (cs : List D) (off : Nat)
 | own (t : Nat) (es : List (List D))
 | full (es : List (List D))
 | nil
 | skip
 | sl (k off len cap : Nat)
 | fn (f : FuncId) (caps : List V)
 | mp (k : Nat)
 | mapc (ik : IntKind) (kvs : List (Int × D))
 | gr (k n : Nat)
 | gp (k n i off : Nat)
 | rowc (e : TypeId) (ver : Nat) (es : List (List D))
 | adr (k : Nat)
 | gs (k n off len : Nat)
structure Lv where
 n : Nat
 sz : Nat
 v : Value
structure Cx where
 base : Nat → Nat → Value → Prop
 F : Nat → Nat → Value → Prop
 ob : Nat → Option Nat
 lv : Nat → Option Lv
 mp : Nat → Option Nat
 rv : Nat → Option Lv
 tg : Nat → Option TypeId
structure Cx.le (G G' : Cx) : Prop where
 base : G'.base = G.base
 F : ∀ b o v, G.F b o v → G'.F b o v
 ob : ∀ k b, G.ob k = some b → G'.ob k = some b
 lv : ∀ t L, G.lv t = some L → ∃ L', G'.lv t = some L' ∧ L'.sz = L.sz ∧ (L' = L ∨ L.n < L'.n)
 mp : ∀ k b, G.mp k = some b → G'.mp k = some b
 rv : ∀ k L, G.rv k = some L → ∃ L', G'.rv k = some L' ∧ L'.sz = L.sz ∧ (L' = L ∨ L.n < L'.n)
 tg : ∀ b t, G.tg b = some t → G'.tg b = some t
theorem Cx.le.refl (G : Cx) : G.le G := ⟨rfl, fun _ _ _ h => h, fun _ _ h => h, fun _ L h => ⟨L, h, rfl, .inl rfl⟩, fun _ _ h => h, fun _ L h => ⟨L, h, rfl, .inl rfl⟩, fun _ _ q => q⟩
theorem Lv_trans {f g h : Nat → Option Lv} (a : ∀ t L, f t = some L → ∃ L', g t = some L' ∧ L'.sz = L.sz ∧ (L' = L ∨ L.n < L'.n)) (b : ∀ t L, g t = some L → ∃ L', h t = some L' ∧ L'.sz = L.sz ∧ (L' = L ∨ L.n < L'.n)) (t : Nat) (L : Lv) (q : f t = some L) : ∃ L', h t = some L' ∧ L'.sz = L.sz ∧ (L' = L ∨ L.n < L'.n) := by
 obtain ⟨L1, q1, s1, r1⟩ := a t L q
 obtain ⟨L2, q2, s2, r2⟩ := b t L1 q1
 refine ⟨L2, q2, s2.trans s1, ?_⟩
 rcases r1 with rfl | r1
 ·exact r2
 ·rcases r2 with rfl | r2
  ·exact .inr r1
  ·exact .inr (by omega)
theorem Cx.le.trans {A B C : Cx} (h : A.le B) (k : B.le C) : A.le C :=
 ⟨k.base.trans h.base, fun _ _ _ q => k.F _ _ _ (h.F _ _ _ q), fun _ _ q => k.ob _ _ (h.ob _ _ q), Lv_trans h.lv k.lv, fun _ _ q => k.mp _ _ (h.mp _ _ q), Lv_trans h.rv k.rv, fun _ _ q => k.tg _ _ (h.tg _ _ q)⟩
def bT : TypeId :=
 134
inductive rel (G : Cx) : V → Value → Prop
 | undef (v : Value) : rel G .undef v
 | d {x : D} {v : Value} (h : relD G.F x v) : rel G (.d x) v
 | agg (cs : List V) (vs : List Value) (hl : cs.length = vs.length) (h : ∀ (i : Nat) (x : V) (v : Value), cs[i]? = some x → vs[i]? = some v → rel G x v) : rel G (.agg cs) (.agg ⟨vs⟩)
 | tuple (cs : List V) (vs : List Value) (hl : cs.length = vs.length) (h : ∀ (i : Nat) (x : V) (v : Value), cs[i]? = some x → vs[i]? = some v → rel G x v) : rel G (.tuple cs) (.tuple ⟨vs⟩)
 | ptr (k off b : Nat) (h : G.ob k = some b) : rel G (.ptr k off) (.pointer (some ⟨b, off, none⟩))
 | iptr (cs : List D) (off b o : Nat) (u : Nat → Value) (hF : ∀ (j : Nat) (x : D), cs[j]? = some x → G.F b (o + j) (u j)) (hr : ∀ (j : Nat) (x : D), cs[j]? = some x → relD G.F x (u j)) : rel G (.iptr cs off) (.pointer (some ⟨b, o + off, none⟩))
 | own (t : Nat) (es : List (List D)) (v : Value) (h : relD G.F (.list es) v) (L : Lv) (hL : G.lv t = some L) (hsz : ∀ (i : Nat) (e : List D), es[i]? = some e → e.length = L.sz) (hl : (es.length = L.n ∧ v = L.v) ∨ es.length < L.n) : rel G (.own t es) v
 | full (es : List (List D)) (A : Option Addr) (h : relD G.F (.list es) (.slice A es.length es.length)) : rel G (.full es) (.slice A es.length es.length)
 | nil : rel G .nil (.slice none 0 0)
 | skip : rel G .skip Go.undef
 | sl (k off len cap b : Nat) (h : G.ob k = some b) : rel G (.sl k off len cap) (.slice (some ⟨b, off, none⟩) len cap)
 | fn (f : FuncId) (cs : List V) (vs : List Value) (hl : cs.length = vs.length) (h : ∀ (i : Nat) (x : V) (v : Value), cs[i]? = some x → vs[i]? = some v → rel G x v) : rel G (.fn f cs) (.func (.func f) #[] ⟨vs⟩)
 | mp (k b : Nat) (h : G.mp k = some b) : rel G (.mp k) (.map (some b))
 | gr (k n : Nat) (v : Value) (h1 : v.oneCell' = true) (L : Lv) (hL : G.rv k = some L) (hl : (n = L.n ∧ v = L.v) ∨ n < L.n) : rel G (.gr k n) v
 | gp (k n i off : Nat) (v : Value) (h1 : v.oneCell' = true) (L : Lv) (hL : G.rv k = some L) (hl : (n = L.n ∧ ∃ b, L.v.ownBlock = some b ∧ v = .pointer (some ⟨b, i * L.sz + off, none⟩)) ∨ n < L.n) : rel G (.gp k n i off) v
 | adr (k : Nat) (v : Value) (b : Nat) (hb : G.ob k = some b) (ht : G.tg b = some bT) (h : v = .pointer none ∨ v = .pointer (some ⟨b, 0, none⟩)) : rel G (.adr k) v
 | gs (k n off len : Nat) (v : Value) (h1 : v.oneCell' = true) (L : Lv) (hL : G.rv k = some L) (hl : (n = L.n ∧ ((∃ b c, L.v.ownBlock = some b ∧ v = .slice (some ⟨b, off * L.sz, none⟩) len c ∧ len ≤ c) ∨ (len = 0 ∧ ∃ A c, v = .slice A 0 c))) ∨ n < L.n) : rel G (.gs k n off len) v
theorem rel_mono {G G' : Cx} (h : G.le G') {x : V} {v : Value} (r : rel G x v) : rel G' x v := by
 induction r with
 | undef v => exact .undef v
 | d q => exact .d (relD_mono h.F q)
 | agg cs vs hl _ ih => exact .agg cs vs hl ih
 | tuple cs vs hl _ ih => exact .tuple cs vs hl ih
 | ptr k off b q => exact .ptr k off b (h.ob _ _ q)
 | iptr cs off b o u hF hr => exact .iptr cs off b o u (fun j x q => h.F _ _ _ (hF j x q)) (fun j x q => relD_mono h.F (hr j x q))
 | own t es v q L hL hsz hl =>
  obtain ⟨L1, q1, s1, r1⟩ := h.lv t L hL
  refine .own t es v (relD_mono h.F q) L1 q1 (fun i e he => by rw [s1]; exact hsz i e he) ?_
  rcases r1 with rfl | r1
  ·exact hl
  ·right
   rcases hl with hl | hl <;> omega
 | full es A q => exact .full es A (relD_mono h.F q)
 | nil => exact .nil
 | skip => exact .skip
 | sl k off len cap b q => exact .sl k off len cap b (h.ob _ _ q)
 | fn f cs vs hl _ ih => exact .fn f cs vs hl ih
 | mp k b q => exact .mp k b (h.mp _ _ q)
 | gr k n v h1 L hL hl =>
  obtain ⟨L1, q1, s1, r1⟩ := h.rv k L hL
  refine .gr k n v h1 L1 q1 ?_
  rcases r1 with rfl | r1
  ·exact hl
  ·right
   rcases hl with hl | hl <;> omega
 | gp k n i off v h1 L hL hl =>
  obtain ⟨L1, q1, s1, r1⟩ := h.rv k L hL
  refine .gp k n i off v h1 L1 q1 ?_
  rcases r1 with rfl | r1
  ·exact hl
  ·right
   rcases hl with hl | hl <;> omega
 | adr k v b hb ht q => exact .adr k v b (h.ob _ _ hb) (h.tg _ _ ht) q
 | gs k n off len v h1 L hL hl =>
  obtain ⟨L1, q1, s1, r1⟩ := h.rv k L hL
  refine .gs k n off len v h1 L1 q1 ?_
  rcases r1 with rfl | r1
  ·exact hl
  ·right
   rcases hl with hl | hl <;> omega
def rels (G : Cx) (cs : List V) (vs : List Value) : Prop := cs.length = vs.length ∧ ∀ (i : Nat) (x : V) (v : Value), cs[i]? = some x → vs[i]? = some v → rel G x v
theorem rels_mono {G G' : Cx} (h : G.le G') {cs : List V} {vs : List Value} (r : rels G cs vs) : rels G' cs vs := ⟨r.1, fun i x v a b => rel_mono h (r.2 i x v a b)⟩
theorem rels_nil (G : Cx) : rels G [] [] := ⟨rfl, fun i x v h => by simp at h⟩
theorem rels_cons {G : Cx} {x : V} {v : Value} {cs : List V} {vs : List Value} (h : rel G x v) (r : rels G cs vs) : rels G (x :: cs) (v :: vs) := by
 refine ⟨by simp [r.1], fun i y u a b => ?_⟩
 cases i with
 | zero => simp at a b; subst a; subst b; exact h
 | succ i => simp at a b; exact r.2 i y u a b
theorem rels_cons_inv {G : Cx} {x : V} {v : Value} {cs : List V} {vs : List Value} (r : rels G (x :: cs) (v :: vs)) : rel G x v ∧ rels G cs vs :=
 ⟨r.2 0 x v rfl rfl, by simpa using r.1, fun i y u a b => r.2 (i + 1) y u (by simpa using a) (by simpa using b)⟩
structure Sg where
 obs : List (List V)
 lns : List (TypeId × Nat)
def D.val : D → Value
 | .int k n => .int k n
 | .bool b => .bool b
 | .str s => .string ⟨s.toArray⟩
 | .other v => v
 | .list _ => undef
def relM (F : Nat → Nat → Value → Prop) (ik : IntKind) (kvs : List (Int × D)) (es : List MapEntry) : Prop :=
 kvs.length = es.length ∧ ∀ (i : Nat) (p : Int × D) (e : MapEntry), kvs[i]? = some p → es[i]? = some e → e.key = .int ik p.1 ∧ relD F p.2 e.val
theorem relM_mono {F F' : Nat → Nat → Value → Prop} (h : ∀ b o v, F b o v → F' b o v) {ik : IntKind} {kvs : List (Int × D)} {es : List MapEntry} (r : relM F ik kvs es) : relM F' ik kvs es :=
 ⟨r.1, fun i p e a b => ⟨(r.2 i p e a b).1, relD_mono h (r.2 i p e a b).2⟩⟩
def relRow (F : Nat → Nat → Value → Prop) (sz : Nat) (es : List (List D)) (xs : List Value) : Prop :=
 (∀ (i : Nat) (e : List D), es[i]? = some e → e.length = sz) ∧ ∀ (i j : Nat) (e : List D) (x : D), es[i]? = some e → e[j]? = some x → ∃ v, xs[i * sz + j]? = some v ∧ relD F x v
theorem relRow_mono {F F' : Nat → Nat → Value → Prop} (h : ∀ b o v, F b o v → F' b o v) {sz : Nat} {es : List (List D)} {xs : List Value} (r : relRow F sz es xs) : relRow F' sz es xs :=
 ⟨r.1, fun i j e x a b => by obtain ⟨v, h1, h2⟩ := r.2 i j e x a b; exact ⟨v, h1, relD_mono h h2⟩⟩
def _root_.Go.World.holds (w : World) (base : Nat) (e : TypeId) (size : Nat) (v : Value) (n : Nat) (xs : List Value) : Prop := v = Go.undef ∨ w.ownsRow base e size v n xs
theorem holds_kp {w w' : World} {base : Nat} {e : TypeId} {size : Nat} {v : Value} {n : Nat} {xs : List Value} (h : w.holds base e size v n xs) (hk : Kp w w') : w'.holds base e size v n xs := h.imp id fun q => own_kp q hk
theorem holds_lt {w : World} {base : Nat} {e : TypeId} {size : Nat} {v : Value} {n : Nat} {xs : List Value} (h : w.holds base e size v n xs) : ∀ k, v.ownBlock = some k → base ≤ k ∧ k < w.heap.size := by
 rcases h with rfl | h
 ·intro k hk; simp [Go.undef, Value.ownBlock] at hk
 ·exact h.lt
theorem holds_kept {w w' : World} {base : Nat} {e : TypeId} {size : Nat} {v : Value} {n : Nat} {xs : List Value} {row : Option Nat} (h : w.holds base e size v n xs) (hg : w.grownBy w' row) (hne : v.ownBlock = none ∨ v.ownBlock ≠ row) : w'.holds base e size v n xs := h.imp id fun q => q.kept hg hne
def tagOf (w : World) (b : Nat) : Option TypeId := match w.heap[b]? with | some (.cells _ t _) => some t | _ => none
def TK (w w' : World) : Prop := ∀ b t, tagOf w b = some t → tagOf w' b = some t
theorem tag_lt {w : World} {b : Nat} {t : TypeId} (h : tagOf w b = some t) : b < w.heap.size := by
 rcases Nat.lt_or_ge b w.heap.size with z | z
 ·exact z
 ·unfold tagOf at h; rw [Array.getElem?_eq_none z] at h; cases h
theorem tk_kp {w w' : World} (h : Kp w w') : TK w w' := fun b t q => by
 have hl := tag_lt q
 unfold tagOf at q ⊢
 rw [h.below.block b hl]; exact q
theorem tk_grown {w w' : World} {g : Nat} (h : w.grownBy w' (some g)) (hg : ∀ t, tagOf w g = some t → tagOf w' g = some t) : TK w w' := fun b t q => by
 by_cases e : b = g
 ·subst e; exact hg t q
 ·have hl := tag_lt q
  unfold tagOf at q ⊢
  rw [h.block b hl (fun e2 => e (by injection e2))]; exact q
theorem tag_own {w : World} {base : Nat} {e : TypeId} {sz n : Nat} {v : Value} {xs : List Value} {b : Nat} (h : w.ownsRow base e sz v n xs) (hb : v.ownBlock = some b) : tagOf w b = some e := by
 rcases h.2 with ⟨rfl, _⟩ | ⟨g, cap, cur, rfl, _, hg, _⟩
 ·cases hb
 ·injection hb with hb
  have hb : g = b := hb
  subst hb
  unfold tagOf; rw [hg]
structure HRp (P : Program) (w0 w : World) (G : Cx) (obs : Nat → Option (List V)) (lns : Nat → Option (TypeId × Nat)) : Prop where
 kp : Kp w0 w
 fs : ∀ b o v, G.F b o v → b < w.heap.size ∧ w.cell? ⟨b, o, none⟩ = some v
 fb : ∀ b o v, G.F b o v → G.base b o v ∨ w0.heap.size ≤ b
 obd : ∀ k b, G.ob k = some b → obs k ≠ none
 obl : ∀ k cs, obs k = some cs → G.mp k = none → G.rv k = none → ∃ b vs t, G.ob k = some b ∧ w0.heap.size ≤ b ∧ w.heap[b]? = some (.cells ⟨vs⟩ t (0, 0)) ∧ rels G cs vs ∧ ∀ o v, ¬ G.F b o v
 obi : ∀ k k' b, G.ob k = some b → G.ob k' = some b → k = k'
 lvd : ∀ t L, G.lv t = some L → lns t ≠ none
 lvl : ∀ t e n, lns t = some (e, n) → ∃ v xs, G.lv t = some ⟨n, P.cellsOf e, v⟩ ∧ w.holds w0.heap.size e (P.cellsOf e) v n xs ∧ ∀ b, v.ownBlock = some b → (∀ k, G.ob k ≠ some b) ∧ ∀ o u, G.F b o u → o < n * P.cellsOf e
 lvi : ∀ t t' L L' b, G.lv t = some L → G.lv t' = some L' → L.v.ownBlock = some b → L'.v.ownBlock = some b → t = t'
 gb : GlobOk w0 G.F
 obm : ∀ k b, G.ob k = some b → G.mp k = none
 mpl : ∀ k b, G.mp k = some b → w0.heap.size ≤ b ∧ ∃ es n ik kvs, obs k = some [.mapc ik kvs] ∧ w.heap[b]? = some (.map ⟨es⟩ n) ∧ relM G.F ik kvs es
 mpi : ∀ k k' b, G.mp k = some b → G.mp k' = some b → k = k'
 obr : ∀ k b, G.ob k = some b → G.rv k = none
 rvl : ∀ k L, G.rv k = some L → ∃ e es xs, obs k = some [.rowc e L.n es] ∧ L.sz = P.cellsOf e ∧ True ∧ w.ownsRow w0.heap.size e L.sz L.v es.length xs ∧ relRow G.F L.sz es xs ∧
  ∀ b, L.v.ownBlock = some b → (∀ j, G.ob j ≠ some b) ∧ (∀ o u, ¬ G.F b o u) ∧ ∀ t L', G.lv t = some L' → L'.v.ownBlock ≠ some b
 rvi : ∀ k k' L L' b, G.rv k = some L → G.rv k' = some L' → L.v.ownBlock = some b → L'.v.ownBlock = some b → k = k'
 tgs : ∀ b t, G.tg b = some t → tagOf w b = some t
def HR (P : Program) (w0 w : World) (G : Cx) (s : Sg) : Prop := HRp P w0 w G (fun k => s.obs[k]?) (fun t => s.lns[t]?)
def fresh (w w' : World) (b o : Nat) (v : Value) : Prop := w.heap.size ≤ b ∧ w'.cell? ⟨b, o, none⟩ = some v
def Cx.withF (G : Cx) (N : Nat → Nat → Value → Prop) : Cx := { G with F := fun b o v => G.F b o v ∨ N b o v }
theorem Cx.le_withF (G : Cx) (N : Nat → Nat → Value → Prop) : G.le (G.withF N) := ⟨rfl, fun _ _ _ h => .inl h, fun _ _ h => h, fun _ L h => ⟨L, h, rfl, .inl rfl⟩, fun _ _ h => h, fun _ L h => ⟨L, h, rfl, .inl rfl⟩, fun _ _ q => q⟩
theorem cell_lt {w : World} {b o : Nat} {v : Value} (h : w.cell? ⟨b, o, none⟩ = some v) : b < w.heap.size := World.block_lt_of_cell? w ⟨b, o, none⟩ h
theorem heap_lt' {W : World} {B : Nat} {o : Obj} (h : W.heap[B]? = some o) : B < W.heap.size := by
 rcases Nat.lt_or_ge B W.heap.size with hlt | hge
 ·exact hlt
 ·rw [Array.getElem?_eq_none hge] at h; cases h
theorem HRp.grow {P : Program} {w0 w w' : World} {G : Cx} {obs : Nat → Option (List V)} {lns : Nat → Option (TypeId × Nat)} (h : HRp P w0 w G obs lns) (hk : Kp w w') : HRp P w0 w' (G.withF (fresh w w')) obs lns := by
 have hb : ∀ b o, b < w.heap.size → w'.cell? ⟨b, o, none⟩ = w.cell? ⟨b, o, none⟩ := hk.see.1
 refine ⟨h.kp.trans hk, ?_, ?_, h.obd, ?_, h.obi, h.lvd, ?_, h.lvi, h.gb.mono fun _ _ _ q => .inl q, h.obm, fun k b q => ?_, h.mpi, h.obr, fun k L q => ?_, h.rvi, fun b t q => tk_kp hk _ _ (h.tgs b t q)⟩
 ·rintro b o v (q | ⟨q1, q2⟩)
  ·have := h.fs b o v q
   exact ⟨Nat.lt_of_lt_of_le this.1 hk.size, (hb b o this.1).trans this.2⟩
  ·exact ⟨cell_lt q2, q2⟩
 ·rintro b o v (q | ⟨q1, q2⟩)
  ·exact h.fb b o v q
  ·exact .inr (Nat.le_trans h.kp.size q1)
 ·intro k cs q hm hv
  obtain ⟨b, vs, t, h1, h2, h3, h4, h5⟩ := h.obl k cs q hm hv
  refine ⟨b, vs, t, h1, h2, (hk.below.block b (heap_lt' h3)).trans h3, rels_mono (G.le_withF _) h4, ?_⟩
  rintro o v (q | ⟨q1, q2⟩)
  ·exact h5 o v q
  ·have := heap_lt' h3; omega
 ·intro t e n q
  obtain ⟨v, xs, h1, h2, h3⟩ := h.lvl t e n q
  refine ⟨v, xs, h1, holds_kp h2 hk, fun b hbk => ⟨(h3 b hbk).1, ?_⟩⟩
  rintro o u (q | ⟨q1, q2⟩)
  ·exact (h3 b hbk).2 o u q
  ·have := (holds_lt h2 b hbk).2; omega
 ·obtain ⟨h1, es, n, ik, kvs, h2, h3, h4⟩ := h.mpl k b q
  exact ⟨h1, es, n, ik, kvs, h2, (hk.below.block b (heap_lt' h3)).trans h3, relM_mono (fun _ _ _ q => .inl q) h4⟩
 ·obtain ⟨e, es, xs, h1, h2, h3, h4, h5, h6⟩ := h.rvl k L q
  refine ⟨e, es, xs, h1, h2, h3, own_kp h4 hk, relRow_mono (fun _ _ _ q => .inl q) h5, fun b hb => ⟨(h6 b hb).1, ?_, (h6 b hb).2.2⟩⟩
  rintro o u (q | ⟨q1, q2⟩)
  ·exact (h6 b hb).2.1 o u q
  ·have := (h4.lt b hb).2; omega
theorem HRp.kept {P : Program} {w0 w w' : World} {G : Cx} {obs : Nat → Option (List V)} {lns : Nat → Option (TypeId × Nat)} (h : HRp P w0 w G obs lns) (hk : Kp w w') : HRp P w0 w' G obs lns := by
 have hb : ∀ b o, b < w.heap.size → w'.cell? ⟨b, o, none⟩ = w.cell? ⟨b, o, none⟩ := hk.see.1
 refine ⟨h.kp.trans hk, ?_, h.fb, h.obd, ?_, h.obi, h.lvd, ?_, h.lvi, h.gb, h.obm, fun k b q => ?_, h.mpi, h.obr, fun k L q => ?_, h.rvi, fun b t q => tk_kp hk _ _ (h.tgs b t q)⟩
 ·intro b o v q
  have := h.fs b o v q
  exact ⟨Nat.lt_of_lt_of_le this.1 hk.size, (hb b o this.1).trans this.2⟩
 ·intro k cs q hm hv
  obtain ⟨b, vs, t, h1, h2, h3, h4, h5⟩ := h.obl k cs q hm hv
  exact ⟨b, vs, t, h1, h2, (hk.below.block b (heap_lt' h3)).trans h3, h4, h5⟩
 ·intro t e n q
  obtain ⟨v, xs, h1, h2, h3⟩ := h.lvl t e n q
  exact ⟨v, xs, h1, holds_kp h2 hk, h3⟩
 ·obtain ⟨h1, es, n, ik, kvs, h2, h3, h4⟩ := h.mpl k b q
  exact ⟨h1, es, n, ik, kvs, h2, (hk.below.block b (heap_lt' h3)).trans h3, h4⟩
 ·obtain ⟨e, es, xs, h1, h2, h3, h4, h5, h6⟩ := h.rvl k L q
  exact ⟨e, es, xs, h1, h2, h3, own_kp h4 hk, h5, h6⟩
end Go.Proofs.YtipefnighcdgnaaGreatDoor
