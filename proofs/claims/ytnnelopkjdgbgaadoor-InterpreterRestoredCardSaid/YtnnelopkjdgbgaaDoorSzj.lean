import Derived.Test.YtnnelopkjdgbgaaDoorSzi
namespace Go.Proofs.YtnnelopkjdgbgaaDoor
open Go.RowKit
set_option linter.unusedVariables false
set_option linter.unusedSimpArgs false
theorem HRp.intoRow {P : Program} {w0 w w' : World} {G : Cx} {obs : Nat → Option (List V)} {lns : Nat → Option (TypeId × Nat)} (h : HRp P w0 w G obs lns) (hk : Kp w w') (k : Nat) {ver : Nat} {e : TypeId} (hko : obs k = some [.rowc e ver []]) {L0 : Lv} (hL0 : G.rv k = some L0) {es : List (List D)} {v : Value} {xs : List Value}
  (ho : w'.ownsRow w.heap.size e (P.cellsOf e) v es.length xs) (hr : relRow G.F (P.cellsOf e) es xs) :
  let G' : Cx := { G with rv := upd G.rv k ⟨ver + 1,P.cellsOf e,v⟩ }
  G.le G' ∧ HRp P w0 w' G' (upd obs k [.rowc e (ver + 1) es]) lns := by
 intro G'
 have h' := h.kept hk
 obtain ⟨e1,es1,xs1,p1,p2,_⟩ := h.rvl k L0 hL0
 rw [hko] at p1; injection p1 with p1; injection p1 with p1 _; injection p1 with p1 p3 p4
 subst p1
 have hle : G.le G' := by
  refine ⟨rfl,fun _ _ _ q=>q,fun _ _ q=>q,fun _ L q=>⟨L,q,rfl,.inl rfl⟩,fun _ _ q=>q,fun j L q=>?_,fun _ _ q=>q⟩
  by_cases hj : j = k
  ·subst hj
   rw [hL0] at q; injection q with q; subst q
   exact ⟨_,upd_same _ _ _,p2.symm,.inr (by show L0.n < ver + 1; omega)⟩
  ·exact ⟨L,(by show upd G.rv k _ j = some L; rw [upd_ne _ _ hj]; exact q),rfl,.inl rfl⟩
 have hrv : ∀ j L,G'.rv j = some L → (j = k ∧ L = ⟨ver + 1,P.cellsOf e,v⟩) ∨ (j ≠ k ∧ G.rv j = some L) := by
  intro j L q
  have q' : upd G.rv k ⟨ver + 1,P.cellsOf e,v⟩ j = some L := q
  by_cases e : j = k
  ·subst e; rw [upd_same] at q'; injection q' with q'; exact .inl ⟨rfl,q'.symm⟩
  ·rw [upd_ne _ _ e] at q'; exact .inr ⟨e,q'⟩
 have hnew : ∀ b,v.ownBlock = some b → w.heap.size ≤ b := fun b hb=>(ho.lt b hb).1
 have hobl : ∀ j b,G.ob j = some b → b < w.heap.size := by
  intro j b q
  cases hq : obs j with
  | none=>exact absurd hq (h.obd j b q)
  | some cs =>
   obtain ⟨b',_,_,h1,_,h3,_⟩ := h.obl j cs hq (h.obm j b q) (h.obr j b q)
   rw [q] at h1; injection h1 with h1; subst h1
   exact heap_lt' h3
 have hlvl : ∀ t L b,G.lv t = some L → L.v.ownBlock = some b → b < w.heap.size := by
  intro t L b q hb
  cases hq : lns t with
  | none=>exact absurd hq (h.lvd t L q)
  | some en =>
   obtain ⟨v',xs',h1,h2,_⟩ := h.lvl t en.1 en.2 hq
   rw [q] at h1; injection h1 with h1; subst h1
   exact (holds_lt h2 b hb).2
 refine ⟨hle,h'.kp,h'.fs,h'.fb,?_,?_,h'.obi,h'.lvd,h'.lvl,h'.lvi,h'.gb,h'.obm,?_,h'.mpi,?_,?_,?_,h'.tgs⟩
 ·intro j b q
  by_cases e : j = k
  ·rw [e,upd_same]; simp
  ·rw [upd_ne _ _ e]; exact h.obd j b q
 ·intro j cs' q hm hq
  have e : j ≠ k := fun e=>by
   have : upd G.rv k ⟨ver + 1,P.cellsOf _,v⟩ j = none := hq
   rw [e,upd_same] at this; cases this
  rw [upd_ne _ _ e] at q
  have hq' : G.rv j = none := by
   have : upd G.rv k ⟨ver + 1,P.cellsOf _,v⟩ j = none := hq
   rwa [upd_ne _ _ e] at this
  obtain ⟨b,vs',t',h1,h2,h3,h4,h5⟩ := h'.obl j cs' q hm hq'
  exact ⟨b,vs',t',h1,h2,h3,rels_mono hle h4,h5⟩
 ·intro j b q
  obtain ⟨h1,es',n,ik,kvs,h2,h3,h4⟩ := h'.mpl j b q
  have hj : j ≠ k := fun e=>by
   rw [e] at h2; rw [hko] at h2
   injection h2 with h2; injection h2 with h2 _; cases h2
  exact ⟨h1,es',n,ik,kvs,by rw [upd_ne _ _ hj]; exact h2,h3,h4⟩
 ·intro j b q
  have e : j ≠ k := fun e=>by rw [e] at q; have := h.obr k b q; rw [hL0] at this; cases this
  show upd G.rv k _ j = none
  rw [upd_ne _ _ e]; exact h.obr j b q
 ·intro j L q
  rcases hrv j L q with ⟨rfl,rfl⟩ | ⟨e',q⟩
  ·refine ⟨e,es,xs,upd_same _ _ _,rfl,trivial,own_mono ho h.kp.size,hr,fun b hb=>⟨fun j' q'=>?_,fun o u q'=>?_,fun t L' q' hb'=>?_⟩⟩
   ·have := hobl j' b q'; have := hnew b hb; omega
   ·have := (h.fs b o u q').1; have := hnew b hb; omega
   ·have := hlvl t L' b q' hb'; have := hnew b hb; omega
  ·obtain ⟨e2,es2,xs2,h1,h2,h3,h4,h5,h6⟩ := h'.rvl j L q
   exact ⟨e2,es2,xs2,by rw [upd_ne _ _ e']; exact h1,h2,h3,h4,h5,h6⟩
 ·intro j j' L L' b q q' h1 h2
  rcases hrv j L q with ⟨e1,r1⟩ | ⟨e1,q1⟩ <;> rcases hrv j' L' q' with ⟨e2,r2⟩ | ⟨e2,q2⟩
  ·rw [e1,e2]
  ·subst r1
   obtain ⟨_,_,_,_,_,_,h4,_⟩ := h.rvl j' L' q2
   have := (h4.lt b h2).2; have := hnew b h1; omega
  ·subst r2
   obtain ⟨_,_,_,_,_,_,h4,_⟩ := h.rvl j L q1
   have := (h4.lt b h1).2; have := hnew b h2; omega
  ·exact h.rvi j j' L L' b q1 q2 h1 h2
def SpecR {P : Program} (_ : Pg P) (f : FuncId) (args : List V) (e : TypeId) (es : List (List D)) : Prop :=
 enterable P f = true ∧ ∀ (w : World) (F : Nat → Nat → Value → Prop) (vs : List Value),(∀ b o v,F b o v → b < w.heap.size ∧ w.cell? ⟨b,o,none⟩ = some v) → GlobOk w F → rels (bareG F) args vs →
  Calls P f ⟨vs⟩ w fun en w'=>∃ v xs,en = .returned v ∧ Kp w w' ∧ w'.ownsRow w.heap.size e (P.cellsOf e) v es.length xs ∧ relRow F (P.cellsOf e) es xs
section
variable {P : Program} {g : Pg P}
theorem SpecR.into {f : FuncId} {args args' : List V} {e : TypeId} {es : List (List D)} {s : Sg} {R : V → Sg → Prop} (k : Nat) {ver : Nat} (h : SpecR g f args' e es) (ha : args.map V.clean = args') (ho : s.obs[k]? = some [.rowc e ver []]) (hR : R (.gr k (ver + 1)) ⟨s.obs.set k [.rowc e (ver + 1) es],s.lns⟩) : SpecS g f args s R := by
 subst ha
 refine ⟨h.1,fun w0 w G vs hH hr=>?_⟩
 have hrv : ∃ L,G.rv k = some L := by
  cases hq : G.rv k with
  | some L=>exact ⟨L,rfl⟩
  | none =>
   cases hm : G.mp k with
   | some b =>
    obtain ⟨_,_,_,_,_,h2,_⟩ := hH.mpl k b hm
    have h2' : s.obs[k]? = _ := h2
    rw [ho] at h2'; injection h2' with h2'; injection h2' with h2' _; cases h2'
   | none =>
    obtain ⟨b,vs',t,_,_,_,h4,_⟩ := hH.obl k _ ho hm hq
    match vs',h4 with
    | [v],h4=>have := (rels_cons_inv h4).1; cases this
    | [],h4=>have := h4.1; simp at this
    | _ :: _ :: _,h4=>have := h4.1; simp at this
 obtain ⟨L0,hL0⟩ := hrv
 refine (h.2 w G.F vs hH.fs (hH.gb.kp hH.kp) ?_).mono ?_
 ·refine ⟨by simp [hr.1],fun i x v h1 h2=>?_⟩
  rw [List.getElem?_map] at h1
  cases hq : args[i]? with
  | none=>rw [hq] at h1; cases h1
  | some y=>rw [hq] at h1; simp at h1; subst h1; exact clean_rel (hr.2 i y v hq h2) G.F (fun _ _ _ q=>q)
 ·rintro en w' ⟨v,xs,rfl,hk,ho2,hx⟩
  obtain ⟨hle,hN⟩ := HRp.intoRow hH hk k ho hL0 ho2 hx
  rw [sg_set ho] at hN
  have hone : v.oneCell' = true := by
   obtain ⟨A,c,hv⟩ := own_slice ho2
   rw [hv]; rfl
  have hN' : HR P w0 w' { G with rv := upd G.rv k ⟨ver + 1,P.cellsOf e,v⟩ } ⟨s.obs.set k [.rowc e (ver + 1) es],s.lns⟩ := hN
  exact ⟨_,_,⟨s.obs.set k [.rowc e (ver + 1) es],s.lns⟩,_,rfl,hle,hN',.gr _ _ _ hone _ (upd_same _ _ _) (.inl ⟨rfl,rfl⟩),hR⟩
theorem SWs.ghRow {c : Code} {Q : SQ} {fr : Fr} {s : Sg} (e : TypeId) (h : SWs g c Q fr ⟨s.obs ++ [[.rowc e 0 []]],s.lns⟩) : SWs g c Q fr s := by
 intro hdr w0 G0 G a w h0 hH hfr hd
 obtain ⟨hle,hN⟩ := HRp.newRow hH (Kp.refl w) s.obs.length (by simp) (e := e) (es := []) (v := .slice none 0 0) (xs := []) (World.ownsRow_nil _ _ _ _) ⟨fun i e h=>by simp at h,fun i j e x h=>by simp at h⟩
 rw [sg_push] at hN
 exact h hdr w0 G0 _ a w (h0.trans hle) hN (FR_mono hle hfr) hd
theorem Mir.ghRow {ε : Type} {m : Option ε} {Φ : ε → SQ} {c : Code} {fr : Fr} {s : Sg} (e : TypeId) (h : Mir g c fr ⟨s.obs ++ [[.rowc e 0 []]],s.lns⟩ m Φ) : Mir g c fr s m Φ := fun x hx=>SWs.ghRow e (h x hx)
variable {ops : Array Oper} {K : Fr → Sg → Prop} {L : Array Bool} {fr : Fr} {s : Sg}
theorem regH.extB {j : Nat} {d : Tmp} {x : Operand} {i : Nat} {vs : List V} {y : V} {ty : TypeId} {p : String} {af : Array Edge} {gd : Option (Nat × Bool)} (hr : ((Region.ready .any ops L).contains j,Region.free .any ops L j,Region.noSelect ops) = (true,true,true)) (ho : ops.toList[j]? = some ⟨some d,.extract x i,ty,p,af,gd⟩) (hw : wantedS ops fr ⟨some d,.extract x i,ty,p,af,gd⟩ = some true)
  (hx : evalO fr x = .tuple vs) (hy : vs[i]? = some y) (h : regH g ops K (L.setIfInBounds j true) (putF fr (some d) y) s) : regH g ops K L fr s := by
 refine regH.firstF hr ho hw (fun G a hfr=>?_) h
 have hrr := evalO_rel hfr x
 rw [hx] at hrr
 obtain ⟨u,hu⟩ : ∃ u,a.eval x = u := ⟨_,rfl⟩
 rw [hu] at hrr
 cases hrr with
 | tuple _ us hl hrel =>
  have hlt : i < us.length := by rw [← hl]; exact getElem_lt hy
  exact ⟨us[i],fun w _=>by simp [execOp,hu,Instr.extract,hlt],hrel i y _ hy (List.getElem?_eq_getElem hlt)⟩
end
section
variable {P : Program} {g : Pg P} {ops : Array Oper} {K : Fr → Sg → Prop} {L : Array Bool} {fr : Fr} {s : Sg}
theorem regH.frz (k : Nat) {ver : Nat} {e : TypeId} {es : List (List D)} (ho : s.obs[k]? = some [.rowc e ver es]) (h : regH g ops K L (fr.map (V.fz k ver es)) ⟨(s.obs.map (V.fzs k ver es)).set k [.rowc e (ver + 1) []],s.lns⟩) : regH g ops K L fr s := by
 intro hL f hf w0 G0 G a w Q hQ h0 hH hfr hd
 obtain ⟨G',g1,g2,g3⟩ := HR.frz hH ho hfr
 exact wpAnyH_mono (S' := FxS G') (fun w h b o v q=>h b o v (g1.F _ _ _ q)) _ _ _ _ (h hL f hf w0 G0 G' a w Q hQ (h0.trans g1) g2 g3 hd)
end
end Go.Proofs.YtnnelopkjdgbgaaDoor
