import Derived.Test.YtjgngikiglhleaaGreatDoorSr
namespace Go.Proofs.YtjgngikiglhleaaGreatDoor
open Go.RowKit
def D.scal (x : D) : Bool := x.kind?.isSome
theorem scal_any {F F' : Nat → Nat → Value → Prop} {x : D} {v : Value} (h : x.scal = true) (r : relD F x v) : relD F' x v := by
 cases r with
 | int k n=>exact .int k n
 | bool b=>exact .bool b
 | str s=>exact .str s
 | nil A c=>simp [D.scal,D.kind?] at h
 | list es b off c sz u hne hcap hsz hF hr=>simp [D.scal,D.kind?] at h
 | other v h1=>exact .other v h1
def scalE (es : List (List D)) : Bool := es.all fun e=>e.all D.scal
theorem scalE_at {es : List (List D)} (h : scalE es = true) {i j : Nat} {e : List D} {x : D} (he : es[i]? = some e) (hx : e[j]? = some x) : x.scal = true := by
 have h1 := List.all_eq_true.1 h e (List.mem_of_getElem? he)
 exact List.all_eq_true.1 h1 x (List.mem_of_getElem? hx)
theorem HRp.newRow {P : Program} {w0 w w' : World} {G : Cx} {obs : Nat → Option (List V)} {lns : Nat → Option (TypeId × Nat)} (h : HRp P w0 w G obs lns) (hk : Kp w w') (k : Nat) (hko : obs k = none) {e : TypeId} {es : List (List D)} {v : Value} {xs : List Value}
  (ho : w'.ownsRow w.heap.size e (P.cellsOf e) v es.length xs) (hr : relRow G.F (P.cellsOf e) es xs) :
  let G' : Cx := { G with rv := upd G.rv k ⟨0,P.cellsOf e,v⟩ }
  G.le G' ∧ HRp P w0 w' G' (upd obs k [.rowc e 0 es]) lns := by
 intro G'
 have h' := h.kept hk
 have hnone : G.rv k = none := by
  cases hq : G.rv k with
  | none=>rfl
  | some L=>obtain ⟨_,_,_,h1,_⟩ := h.rvl k L hq; rw [hko] at h1; cases h1
 have hno : G.ob k = none := by
  cases hq : G.ob k with
  | none=>rfl
  | some b=>exact absurd hko (h.obd k b hq)
 have hle : G.le G' := by
  refine ⟨rfl,fun _ _ _ q=>q,fun _ _ q=>q,fun _ L q=>⟨L,q,rfl,.inl rfl⟩,fun _ _ q=>q,fun j L q=>⟨L,?_,rfl,.inl rfl⟩,fun _ _ q=>q⟩
  show upd G.rv k _ j = some L
  rw [upd_ne _ _ (fun e=>by rw [e,hnone] at q; cases q)]; exact q
 have hrv : ∀ j L,G'.rv j = some L → (j = k ∧ L = ⟨0,P.cellsOf e,v⟩) ∨ (j ≠ k ∧ G.rv j = some L) := by
  intro j L q
  have q' : upd G.rv k ⟨0,P.cellsOf e,v⟩ j = some L := q
  by_cases e : j = k
  ·subst e; rw [upd_same] at q'; injection q' with q'; exact .inl ⟨rfl,q'.symm⟩
  ·rw [upd_ne _ _ e] at q'; exact .inr ⟨e,q'⟩
 have hnew : ∀ b,v.ownBlock = some b → w.heap.size ≤ b := fun b hb=>(ho.lt b hb).1
 have hobl : ∀ j b,G.ob j = some b → b < w.heap.size := by
  intro j b q
  cases hq : obs j with
  | none=>exact absurd hq (h.obd j b q)
  | some cs =>
   obtain ⟨b',_,_,h1,_,h3,_⟩ := h.obl j cs hq (h.obm j b q) (h.obr j b q)
   rw [q] at h1; injection h1 with h1; subst h1
   exact heap_lt' h3
 have hlvl : ∀ t L b,G.lv t = some L → L.v.ownBlock = some b → b < w.heap.size := by
  intro t L b q hb
  cases hq : lns t with
  | none=>exact absurd hq (h.lvd t L q)
  | some en =>
   obtain ⟨v',xs',h1,h2,_⟩ := h.lvl t en.1 en.2 hq
   rw [q] at h1; injection h1 with h1; subst h1
   exact (holds_lt h2 b hb).2
 refine ⟨hle,h'.kp,h'.fs,h'.fb,?_,?_,h'.obi,h'.lvd,h'.lvl,h'.lvi,h'.gb,h'.obm,?_,h'.mpi,?_,?_,?_,h'.tgs⟩
 ·intro j b q
  by_cases e : j = k
  ·rw [e,upd_same]; simp
  ·rw [upd_ne _ _ e]; exact h.obd j b q
 ·intro j cs' q hm hq
  have e : j ≠ k := fun e=>by
   have : upd G.rv k ⟨0,P.cellsOf _,v⟩ j = none := hq
   rw [e,upd_same] at this; cases this
  rw [upd_ne _ _ e] at q
  have hq' : G.rv j = none := by
   have : upd G.rv k ⟨0,P.cellsOf _,v⟩ j = none := hq
   rwa [upd_ne _ _ e] at this
  obtain ⟨b,vs',t',h1,h2,h3,h4,h5⟩ := h'.obl j cs' q hm hq'
  exact ⟨b,vs',t',h1,h2,h3,rels_mono hle h4,h5⟩
 ·intro j b q
  obtain ⟨h1,es',n,ik,kvs,h2,h3,h4⟩ := h'.mpl j b q
  have hj : j ≠ k := fun e=>by rw [e] at h2; rw [hko] at h2; cases h2
  exact ⟨h1,es',n,ik,kvs,by rw [upd_ne _ _ hj]; exact h2,h3,h4⟩
 ·intro j b q
  have e : j ≠ k := fun e=>by rw [e,hno] at q; cases q
  show upd G.rv k _ j = none
  rw [upd_ne _ _ e]; exact h.obr j b q
 ·intro j L q
  rcases hrv j L q with ⟨rfl,rfl⟩ | ⟨e',q⟩
  ·refine ⟨e,es,xs,upd_same _ _ _,rfl,trivial,own_mono ho h.kp.size,hr,fun b hb=>⟨fun j' q'=>?_,fun o u q'=>?_,fun t L' q' hb'=>?_⟩⟩
   ·have := hobl j' b q'; have := hnew b hb; omega
   ·have := (h.fs b o u q').1; have := hnew b hb; omega
   ·have := hlvl t L' b q' hb'; have := hnew b hb; omega
  ·obtain ⟨e2,es2,xs2,h1,h2,h3,h4,h5,h6⟩ := h'.rvl j L q
   exact ⟨e2,es2,xs2,by rw [upd_ne _ _ e']; exact h1,h2,h3,h4,h5,h6⟩
 ·intro j j' L L' b q q' h1 h2
  rcases hrv j L q with ⟨e1,r1⟩ | ⟨e1,q1⟩ <;> rcases hrv j' L' q' with ⟨e2,r2⟩ | ⟨e2,q2⟩
  ·rw [e1,e2]
  ·subst r1
   obtain ⟨_,_,_,_,_,_,h4,_⟩ := h.rvl j' L' q2
   have := (h4.lt b h2).2; have := hnew b h1; omega
  ·subst r2
   obtain ⟨_,_,_,_,_,_,h4,_⟩ := h.rvl j L q1
   have := (h4.lt b h1).2; have := hnew b h2; omega
  ·exact h.rvi j j' L L' b q1 q2 h1 h2
def SpecX {P : Program} (_ : Pg P) (f : FuncId) (args : List V) (e : TypeId) (es : List (List D)) (r2 : List V) : Prop :=
 enterable P f = true ∧ ∀ (w : World) (F : Nat → Nat → Value → Prop) (vs : List Value),(∀ b o v,F b o v → b < w.heap.size ∧ w.cell? ⟨b,o,none⟩ = some v) → GlobOk w F → rels (bareG F) args vs →
  Calls P f ⟨vs⟩ w fun en w'=>∃ v us xs,en = .returned (.tuple ⟨v :: us⟩) ∧ Kp w w' ∧ w'.ownsRow w.heap.size e (P.cellsOf e) v es.length xs ∧ (∀ F',relRow F' (P.cellsOf e) es xs) ∧ ∀ G,rels G r2 us
theorem SpecX.toS {P : Program} {g : Pg P} {f : FuncId} {args args' : List V} {e : TypeId} {es : List (List D)} {r2 : List V} {s : Sg} {R : V → Sg → Prop} (h : SpecX g f args' e es r2) (ha : args.map V.clean = args') (hR : R (.tuple (.gr s.obs.length 0 :: r2)) ⟨s.obs ++ [[.rowc e 0 es]],s.lns⟩) : SpecS g f args s R := by
 subst ha
 refine ⟨h.1,fun w0 w G vs hH hr=>?_⟩
 refine (h.2 w G.F vs hH.fs (hH.gb.kp hH.kp) ?_).mono ?_
 ·refine ⟨by simp [hr.1],fun i x v h1 h2=>?_⟩
  rw [List.getElem?_map] at h1
  cases hq : args[i]? with
  | none=>rw [hq] at h1; cases h1
  | some y=>rw [hq] at h1; simp at h1; subst h1; exact clean_rel (hr.2 i y v hq h2) G.F (fun _ _ _ q=>q)
 ·rintro en w' ⟨v,us,xs,rfl,hk,ho,hx,hu⟩
  obtain ⟨hle,hN⟩ := HRp.newRow hH hk s.obs.length (by simp) ho (hx G.F)
  rw [sg_push] at hN
  have hN' : HR P w0 w' { G with rv := upd G.rv s.obs.length ⟨0,P.cellsOf e,v⟩ } ⟨s.obs ++ [[.rowc e 0 es]],s.lns⟩ := hN
  have hone : v.oneCell' = true := by
   obtain ⟨A,c,hv⟩ := own_slice ho
   rw [hv]; rfl
  refine ⟨_,_,⟨s.obs ++ [[.rowc e 0 es]],s.lns⟩,_,rfl,hle,hN',.tuple _ _ ?_ ?_,hR⟩
  ·have := (hu G).1; simp [this]
  ·have h1 : rels { G with rv := upd G.rv s.obs.length ⟨0,P.cellsOf e,v⟩ } (.gr s.obs.length 0 :: r2) (v :: us) :=
    rels_cons (.gr _ _ _ hone _ (upd_same _ _ _) (.inl ⟨rfl,rfl⟩)) (hu _)
   exact h1.2
def V.plainR : V → Bool
 | .d x=>x.scal
 | .agg cs=>cs.all fun | .d x=>x.scal | _=>false
 | _=>false
theorem plain_any {G G' : Cx} {x : V} {v : Value} (h : x.plainR = true) (r : rel G x v) : rel G' x v := by
 cases r with
 | d q=>exact .d (scal_any h q)
 | agg cs vs hl hr =>
  simp only [V.plainR,List.all_eq_true] at h
  refine .agg cs vs hl fun i y u h1 h2=>?_
  have hy := h y (List.mem_of_getElem? h1)
  have r := hr i y u h1 h2
  cases r with
  | d q=>exact .d (scal_any hy q)
  | _=>simp at hy
 | _=>simp [V.plainR] at h
section
variable {P : Program} {g : Pg P} {d : Option Tmp} {t ty : TypeId} {p : String} {af : Array Edge} {gd : Option (Nat × Bool)} {fr : Fr} {s : Sg} {R : V → Sg → Prop}
theorem inv_gr {w0 w : World} {G : Cx} {k n : Nat} {v : Value} {e : TypeId} {es : List (List D)} (hH : HR P w0 w G s) (r : rel G (.gr k n) v) (ho : s.obs[k]? = some [.rowc e n es]) :
  ∃ L xs,G.rv k = some L ∧ v = L.v ∧ L.n = n ∧ L.sz = P.cellsOf e ∧ w.ownsRow w0.heap.size e L.sz v es.length xs ∧ relRow G.F L.sz es xs := by
 cases r with
 | gr _ _ _ h1 L hL hl =>
  obtain ⟨e',es',xs,a1,a2,a3,a4,a5,a6⟩ := hH.rvl k L hL
  have a1' : s.obs[k]? = some [.rowc e' L.n es'] := a1
  rw [ho] at a1'; injection a1' with a1'; injection a1' with a1' _; injection a1' with e1 e2 e3; subst e1; subst e3
  have hv : v = L.v := by rcases hl with q | q; exact q.2; omega
  refine ⟨L,xs,hL,hv,e2.symm,a2,?_,a5⟩
  rw [hv]; exact a4
theorem alt_lenR {x : Operand} {k n : Nat} {e e' : TypeId} {es : List (List D)} (hx : evalO fr x = .gr k n) (ho : s.obs[k]? = some [.rowc e n es]) (ht : P.underlying t = some (.slice e')) (h : R (.d (.int .i64 (es.length : Int))) s) : altR g ⟨d,.call ⟨.builtin .len,#[x],#[t]⟩,ty,p,af,gd⟩ fr s R := by
 intro w0 w G a hH hfr
 obtain ⟨L,xs,_,_,_,_,a4,_⟩ := inv_gr hH (hx ▸ evalO_rel hfr x) ho
 obtain ⟨A,c,hv⟩ := own_slice a4
 refine ⟨.value (.int .i64 es.length),w,_,s,G,?_,.inl ⟨_,rfl,.d (.int _ _)⟩,Cx.le.refl G,hH,h⟩
 simp [execOp,resolve,invoke,builtin,Builtin.len_,hv,run_underlying ht]
 rfl
theorem alt_indexR {x i : Operand} {k n : Nat} {e : TypeId} {es : List (List D)} {ki : IntKind} {m : Int} {sz : Nat} (hx : evalO fr x = .gr k n) (ho : s.obs[k]? = some [.rowc e n es]) (hi : evalO fr i = .d (.int ki m)) (ht : P.underlying t = some (.slice e)) (hs : sizeT P e = some sz) (h0 : 0 ≤ m) (hm : m < (es.length : Int)) (h : R (.gp k n m.toNat 0) s) : altR g ⟨d,.indexAddr t x i,ty,p,af,gd⟩ fr s R := by
 intro w0 w G a hH hfr
 obtain ⟨L,xs,a1,a2,a3,a4,a5,_⟩ := inv_gr hH (hx ▸ evalO_rel hfr x) ho
 have hiv := inv_int (hi ▸ evalO_rel hfr i)
 obtain ⟨b,cap,hv,_⟩ := a5.form (by omega)
 have hsz : L.sz = sz := by
  rw [a4]; simp only [sizeT,Option.map_eq_some_iff] at hs
  obtain ⟨i,h1,h2⟩ := hs
  simp [Program.cellsOf,h1,h2]
 refine ⟨.value (.pointer (some ⟨b,m.toNat * sz,none⟩)),w,_,s,G,?_,.inl ⟨_,rfl,.gp k n m.toNat 0 _ rfl L a1 (.inl ⟨a3.symm,b,?_,?_⟩)⟩,Cx.le.refl G,hH,h⟩
 ·simp [execOp,hv,hiv,Instr.indexAt,asIntOf,run_underlying ht,h0,hm,run_size hs,Addr.add_lit]
 ·rw [← a2,hv]; rfl
 ·rw [hsz]; rfl
theorem inv_gp {w0 w : World} {G : Cx} {k n i off : Nat} {v : Value} {e : TypeId} {es : List (List D)} (hH : HR P w0 w G s) (r : rel G (.gp k n i off) v) (ho : s.obs[k]? = some [.rowc e n es]) :
  ∃ L xs b,G.rv k = some L ∧ L.n = n ∧ L.sz = P.cellsOf e ∧ L.v.ownBlock = some b ∧ v = .pointer (some ⟨b,i * L.sz + off,none⟩) ∧ w.ownsRow w0.heap.size e L.sz L.v es.length xs ∧ relRow G.F L.sz es xs := by
 cases r with
 | gp _ _ _ _ _ h1 L hL hl =>
  obtain ⟨e',es',xs,a1,a2,a3,a4,a5,a6⟩ := hH.rvl k L hL
  have a1' : s.obs[k]? = some [.rowc e' L.n es'] := a1
  rw [ho] at a1'; injection a1' with a1'; injection a1' with a1' _; injection a1' with e1 e2 e3; subst e1; subst e3
  rcases hl with ⟨q1,b,q2,q3⟩ | q
  ·exact ⟨L,xs,b,hL,q1.symm,a2,q2,q3,a4,a5⟩
  ·omega
theorem own_at {w0 w : World} {e : TypeId} {sz n b : Nat} {v : Value} {xs : List Value} (h : w.ownsRow w0.heap.size e sz v n xs) (hb : v.ownBlock = some b) : ∃ cap cur,v = .slice (some ⟨b,0,none⟩) n cap ∧ w0.heap.size ≤ b ∧ w.heap[b]? = some (.cells cur e (0,0)) ∧ n ≤ cap ∧ cap ≤ maxLen ∧ cur.size = cap * sz ∧ cur.toList.take (n * sz) = xs := by
 rcases h.2 with ⟨rfl,_⟩ | ⟨g,cap,cur,rfl,r⟩
 ·cases hb
 ·have : g = b := by injection hb
  subst this
  exact ⟨cap,cur,rfl,r⟩
theorem alt_loadR {x : Operand} {k n i off : Nat} {e : TypeId} {es : List (List D)} {c : List D} {y : V} (hx : evalO fr x = .gp k n i off) (ho : s.obs[k]? = some [.rowc e n es]) (hc : es[i]? = some c) (hy : partV P t (dcells c) off = some y) (h : R y s) : altR g ⟨d,.load t x,ty,p,af,gd⟩ fr s R := by
 intro w0 w G a hH hfr
 obtain ⟨L,xs,b,a1,a3,a4,a5,a6,a7,a8⟩ := inv_gp hH (hx ▸ evalO_rel hfr x) ho
 obtain ⟨cap,cur,c1,c2,c3,c4,c5,c6,c7⟩ := own_at a7 a5
 have hlen := a8.1 i c hc
 have hi := getElem_lt hc
 have hg : ∀ j,j < c.length → ∃ v,xs[i * L.sz + j]? = some v := by
  intro j hj
  obtain ⟨v,h1,h2⟩ := a8.2 i j c c[j] hc (List.getElem?_eq_getElem hj)
  exact ⟨v,h1⟩
 have hr : rels G (dcells c) ((List.range c.length).map fun j=>(xs[i * L.sz + j]?).getD Go.undef) := by
  refine ⟨by simp [dcells],fun j y v h1 h2=>?_⟩
  unfold dcells at h1
  rw [List.getElem?_map] at h1
  cases hq : c[j]? with
  | none=>rw [hq] at h1; cases h1
  | some z =>
   rw [hq] at h1; simp at h1; subst h1
   have hj := getElem_lt hq
   rw [List.getElem?_map,List.getElem?_range hj] at h2
   simp at h2; subst h2
   obtain ⟨v,u1,u2⟩ := a8.2 i j c z hc hq
   rw [u1]; exact .d u2
 obtain ⟨v,r1,r2⟩ := loadF_ok (P := P) (b := b) (o := i * L.sz) (w := w) hy hr (fun j v hj=>by
  rw [List.getElem?_map] at hj
  cases hq : (List.range c.length)[j]? with
  | none=>rw [hq] at hj; cases hj
  | some q =>
   have hjl : j < c.length := by have := getElem_lt hq; simpa using this
   rw [List.getElem?_range hjl] at hj
   simp at hj
   obtain ⟨u,u1⟩ := hg j hjl
   rw [u1] at hj; simp at hj; subst hj
   rw [cell_of_row w b _ _ _ _ c3]
   rw [← c7,List.getElem?_take] at u1
   split at u1
   ·simpa using u1
   ·cases u1)
 refine ⟨.value v,w,y,s,G,?_,.inl ⟨_,rfl,r2⟩,Cx.le.refl G,hH,h⟩
 simp only [execOp,Instr.loadAt,a6,Instr.sureAddr,Sem.run_bind,Sem.run_pure,Result.andThen_ok,r1]
def spliceD (c : List D) (off : Nat) (ds : List D) : List D := c.take off ++ ds ++ c.drop (off + ds.length)
theorem splice_at {α : Type} (l xs : List α) (o : Nat) (h : o + xs.length ≤ l.length) (j : Nat) : (l.take o ++ xs ++ l.drop (o + xs.length))[j]? = if j < o then l[j]? else if j < o + xs.length then xs[j - o]? else l[j]? := by
 have hl : (l.take o).length = o := by simp; omega
 split
 ·rename_i h1
  rw [List.append_assoc,List.getElem?_append_left (by omega),List.getElem?_take,if_pos h1]
 ·rename_i h1
  split
  ·rename_i h2
   rw [List.getElem?_append_left (by simp; omega),List.getElem?_append_right (by omega),hl]
  ·rename_i h2
   rw [List.getElem?_append_right (by simp; omega),List.getElem?_drop]
   congr 1
   simp; omega
theorem HRp.putRow {w0 w w' : World} {G : Cx} {obs : Nat → Option (List V)} {lns : Nat → Option (TypeId × Nat)} (h : HRp P w0 w G obs lns) {k b : Nat} {L : Lv} (hk : G.rv k = some L) (hb : L.v.ownBlock = some b) (hg : w.grownBy w' (some b)) {e : TypeId} {es : List (List D)} {xs : List Value} (he : ∃ es0,obs k = some [.rowc e L.n es0]) (ho : w'.ownsRow w0.heap.size e L.sz L.v es.length xs) (hr : relRow G.F L.sz es xs) :
  HRp P w0 w' G (upd obs k [.rowc e L.n es]) lns := by
 obtain ⟨e0,es0,xs0,g1,g2,g3,g4,g5,g6⟩ := h.rvl k L hk
 obtain ⟨es1,he⟩ := he
 rw [g1] at he; injection he with he; injection he with he _; injection he with e1 _ e2; subst e1
 have hbk : ∀ b',b' < w.heap.size → b' ≠ b → w'.heap[b']? = w.heap[b']? := fun b' hl hn=>hg.block b' hl (fun e=>hn (by injection e))
 have hnF := (g6 b hb).2.1
 refine ⟨h.kp.grown hg (fun j hj=>by injection hj with hj; subst hj; exact (g4.lt _ hb).1),?_,h.fb,?_,?_,h.obi,h.lvd,?_,h.lvi,h.gb,h.obm,?_,h.mpi,h.obr,?_,h.rvi,fun b' t q=>tk_grown hg (fun t' q'=>by rw [tag_own g4 hb] at q'; rw [tag_own ho hb]; exact q') _ _ (h.tgs b' t q)⟩
 ·intro b' o v q
  have q1 := h.fs b' o v q
  have hne : b' ≠ b := fun e=>by subst e; exact hnF o v q
  exact ⟨Nat.lt_of_lt_of_le q1.1 hg.size,(World.cell?_of_block (a := ⟨b',o,none⟩) (hbk b' q1.1 hne)).trans q1.2⟩
 ·intro j b' q
  have e : j ≠ k := fun e=>by rw [e] at q; rw [h.obr k b' q] at hk; cases hk
  rw [upd_ne _ _ e]; exact h.obd j b' q
 ·intro j cs' q hm hrv
  have e : j ≠ k := fun e=>by rw [e,hk] at hrv; cases hrv
  rw [upd_ne _ _ e] at q
  obtain ⟨b',vs',t',h1,h2,h3,h4,h5⟩ := h.obl j cs' q hm hrv
  have hne : b' ≠ b := fun e=>(g6 b hb).1 j (e ▸ h1)
  exact ⟨b',vs',t',h1,h2,(hbk b' (heap_lt' h3) hne).trans h3,h4,h5⟩
 ·intro t' e n q
  obtain ⟨v,xs',h1,h2,h3⟩ := h.lvl t' e n q
  exact ⟨v,xs',h1,holds_kept h2 hg (.inr fun hv=>(g6 b hb).2.2 t' _ h1 hv),h3⟩
 ·intro j b' q
  obtain ⟨h1,es',n',ik',kvs',h2,h3,h4⟩ := h.mpl j b' q
  have hj : j ≠ k := fun e=>by rw [e,g1] at h2; cases h2
  have hne : b' ≠ b := fun e=>by
   obtain ⟨_,cur,_,_,c3,_⟩ := own_at g4 hb
   rw [e,c3] at h3; cases h3
  exact ⟨h1,es',n',ik',kvs',by rw [upd_ne _ _ hj]; exact h2,(hbk b' (heap_lt' h3) hne).trans h3,h4⟩
 ·intro j L' q
  by_cases e : j = k
  ·subst e
   rw [hk] at q; injection q with q; subst q
   exact ⟨e0,es,xs,upd_same _ _ _,g2,trivial,ho,hr,g6⟩
  ·obtain ⟨e',es',xs',h1,h2,h3,h4,h5,h6⟩ := h.rvl j L' q
   exact ⟨e',es',xs',by rw [upd_ne _ _ e]; exact h1,h2,h3,h4.kept hg (.inr fun hv=>e (h.rvi j k L' L b q hk hv hb)),h5,h6⟩
theorem alt_storeR {x z : Operand} {k n i off m : Nat} {e : TypeId} {es : List (List D)} {c : List D} {cs : List V} {ds : List D} (hx : evalO fr x = .gp k n i off) (ho : s.obs[k]? = some [.rowc e n es]) (hc : es[i]? = some c) (hz : (evalO fr z).cells? = some cs) (hd : datas cs = some ds) (hm : sizeT P t = some m) (hl : ds.length = m) (hf : off + m ≤ c.length)
  (h : R .undef ⟨s.obs.set k [.rowc e n (es.set i (spliceD c off ds))],s.lns⟩) : altR g ⟨d,.store t x z,ty,p,af,gd⟩ fr s R := by
 intro w0 w G a hH hfr
 obtain ⟨L,xs,b,a1,a3,a4,a5,a6,a7,a8⟩ := inv_gp hH (hx ▸ evalO_rel hfr x) ho
 obtain ⟨cap,cur,c1,c2,c3,c4,c5,c6,c7⟩ := own_at a7 a5
 have hlen := a8.1 i c hc
 have hi := getElem_lt hc
 generalize hnl : es.length = nl at *
 have hr := cells_rel (evalO_rel hfr z) hz
 obtain ⟨d1,d2⟩ := datas_rel hr hd
 have hone : ∀ v ∈ (a.eval z).cells.toList,v.oneCell' = true := by
  intro v hv
  obtain ⟨j,hj,rfl⟩ := List.getElem_of_mem hv
  have hjd : j < ds.length := by rw [d1]; exact hj
  exact relD_one (d2 j ds[j] _ (List.getElem?_eq_getElem hjd) (List.getElem?_eq_getElem hj))
 have hsz : (a.eval z).cells.size = m := by rw [← hl,d1]; simp
 have hin : i * L.sz + off + m ≤ nl * L.sz := by
  have : (i + 1) * L.sz ≤ nl * L.sz := Nat.mul_le_mul_right _ (by omega)
  rw [Nat.add_mul,Nat.one_mul] at this
  omega
 have hxl := a7.1
 have hcap : nl * L.sz ≤ cur.size := by rw [c6]; exact Nat.mul_le_mul_right _ c4
 have hst := run_storeCells_at (P := P) b (i * L.sz + off) e (a.eval z).cells.toList 0 cur w c3 (by simp only [Nat.add_zero,Array.length_toList]; omega) hone
 simp only [Nat.add_zero] at hst
 have hvl : (a.eval z).cells.toList.length = m := by simpa using hsz
 generalize hW : w.setRow b (cur.toList.take (i * L.sz + off) ++ (a.eval z).cells.toList ++ cur.toList.drop (i * L.sz + off + (a.eval z).cells.toList.length)).toArray = w' at hst
 have hheap := setRow_heap w b cur (cur.toList.take (i * L.sz + off) ++ (a.eval z).cells.toList ++ cur.toList.drop (i * L.sz + off + (a.eval z).cells.toList.length)).toArray e (0,0) c3
 rw [hW] at hheap
 have hg : w.grownBy w' (some b) := by rw [← hW]; exact ⟨rfl,rfl,rfl,by simp,fun k _ hk=>setRow_other w b k _ (fun e=>hk (by simp [e]))⟩
 have hel : i * L.sz + off + (a.eval z).cells.toList.length ≤ cur.toList.length := by rw [hvl]; simp; omega
 have hat := splice_at cur.toList (a.eval z).cells.toList (i * L.sz + off) hel
 have hcurl : cur.toList.length = cur.size := by simp
 generalize hN : cur.toList.take (i * L.sz + off) ++ (a.eval z).cells.toList ++ cur.toList.drop (i * L.sz + off + (a.eval z).cells.toList.length) = N at hat hheap
 have hNl : N.length = cur.size := by rw [← hN]; simp; omega
 have hxs : ∀ j,j < nl * L.sz → xs[j]? = cur.toList[j]? := fun j hj=>by rw [← c7,List.getElem?_take,if_pos hj]
 have hown : w'.ownsRow w0.heap.size e L.sz L.v nl (N.take (nl * L.sz)) := by
  refine ⟨by rw [List.length_take,hNl]; omega,.inr ⟨b,cap,N.toArray,c1,c2,hheap,c4,c5,by simp [hNl,c6],rfl⟩⟩
 have hrow : relRow G.F L.sz (es.set i (spliceD c off ds)) (N.take (nl * L.sz)) := by
  have hsl : (spliceD c off ds).length = c.length := by simp [spliceD]; omega
  refine ⟨fun i' c' hc'=>?_,fun i' j c' x' hc' hx'=>?_⟩
  ·by_cases ei : i = i'
   ·subst ei; rw [List.getElem?_set,if_pos rfl,if_pos (by omega)] at hc'; injection hc' with hc'; subst hc'; rw [hsl]; exact hlen
   ·rw [List.getElem?_set_ne ei] at hc'; exact a8.1 i' c' hc'
  ·by_cases ei : i = i'
   ·subst ei
    rw [List.getElem?_set,if_pos rfl,if_pos (by omega)] at hc'; injection hc' with hc'; subst hc'
    have hj : j < L.sz := by have := getElem_lt hx'; rw [hsl] at this; omega
    have hjn : i * L.sz + j < nl * L.sz := by
     have : (i + 1) * L.sz ≤ nl * L.sz := Nat.mul_le_mul_right _ (by omega)
     rw [Nat.add_mul,Nat.one_mul] at this
     omega
    rw [List.getElem?_take,if_pos hjn,hat]
    unfold spliceD at hx'
    rw [splice_at c ds off (by omega)] at hx'
    by_cases h1 : j < off
    ·rw [if_pos h1] at hx'
     rw [if_pos (by omega)]
     obtain ⟨v,v1,v2⟩ := a8.2 i j c x' hc hx'
     exact ⟨v,by rw [← hxs _ hjn]; exact v1,v2⟩
    ·rw [if_neg h1] at hx'
     rw [if_neg (by omega)]
     by_cases h2 : j < off + ds.length
     ·rw [if_pos h2] at hx'
      rw [if_pos (by rw [hvl]; omega)]
      have e1 : i * L.sz + j - (i * L.sz + off) = j - off := by omega
      rw [e1]
      have hjd := getElem_lt hx'
      have hjc : j - off < (a.eval z).cells.toList.length := by rw [← d1]; exact hjd
      exact ⟨_,List.getElem?_eq_getElem hjc,d2 _ x' _ hx' (List.getElem?_eq_getElem hjc)⟩
     ·rw [if_neg h2] at hx'
      rw [if_neg (by rw [hvl]; omega)]
      obtain ⟨v,v1,v2⟩ := a8.2 i j c x' hc hx'
      exact ⟨v,by rw [← hxs _ hjn]; exact v1,v2⟩
   ·rw [List.getElem?_set_ne ei] at hc'
    have hi' := getElem_lt hc'
    have hj : j < L.sz := by have := getElem_lt hx'; have := a8.1 i' c' hc'; omega
    have hjn : i' * L.sz + j < nl * L.sz := by
     have : (i' + 1) * L.sz ≤ nl * L.sz := Nat.mul_le_mul_right _ (by omega)
     rw [Nat.add_mul,Nat.one_mul] at this
     omega
    rw [List.getElem?_take,if_pos hjn,hat]
    obtain ⟨v,v1,v2⟩ := a8.2 i' j c' x' hc' hx'
    refine ⟨v,?_,v2⟩
    rw [hxs _ hjn] at v1
    rcases Nat.lt_or_gt_of_ne ei with q | q
    ·have : (i + 1) * L.sz ≤ i' * L.sz := Nat.mul_le_mul_right _ (by omega)
     rw [Nat.add_mul,Nat.one_mul] at this
     rw [if_neg (by omega),if_neg (by rw [hvl]; omega)]; exact v1
    ·have : (i' + 1) * L.sz ≤ i * L.sz := Nat.mul_le_mul_right _ (by omega)
     rw [Nat.add_mul,Nat.one_mul] at this
     rw [if_pos (by omega)]; exact v1
 have hP := HRp.putRow hH a1 a5 hg (es := es.set i (spliceD c off ds)) ⟨es,a3 ▸ ho⟩ (by rw [List.length_set,hnl]; exact hown) hrow
 rw [a3] at hP
 rw [sg_set ho] at hP
 have hP' : HR P w0 w' G ⟨s.obs.set k [.rowc e n (es.set i (spliceD c off ds))],s.lns⟩ := hP
 refine ⟨.skip,w',.undef,_,G,?_,.inr ⟨rfl,rfl⟩,Cx.le.refl G,hP',h⟩
 simp only [execOp,Instr.storeAt,a6,Instr.sureAddr,Sem.run_bind,Sem.run_pure,Result.andThen_ok,storeVar,run_size hm,hsz,ne_eq,not_true_eq_false,Sem.run_ite,if_false,hst]
end
end Go.Proofs.YtjgngikiglhleaaGreatDoor
