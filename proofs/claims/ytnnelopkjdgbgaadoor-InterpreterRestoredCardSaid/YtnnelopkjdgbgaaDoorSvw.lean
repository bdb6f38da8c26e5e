/-
  Sv, Sw in one text.
-/
import Derived.Test.YtnnelopkjdgbgaaDoorSu
import Derived.Laws.MakeOwn
import Derived.Laws.OwnMore
import Derived.Lib.AppendStr
import Derived.Lib.UnsafeStr
namespace Go.Proofs.YtnnelopkjdgbgaaDoor
open Go.RowKit
set_option linter.unusedVariables false
set_option linter.unusedSimpArgs false
section
variable {P : Program} {g : Pg P} {d : Option Tmp} {t ty : TypeId} {p : String} {af : Array Edge} {gd : Option (Nat × Bool)} {fr : Fr} {s : Sg} {R : V → Sg → Prop}
end
end Go.Proofs.YtnnelopkjdgbgaaDoor
namespace Go.Proofs.YtnnelopkjdgbgaaDoor
open Go.RowKit
set_option linter.unusedVariables false
set_option linter.unusedSimpArgs false
section
variable {P : Program}
theorem HRp.gone {w0 w w' : World} {G : Cx} {obs : Nat → Option (List V)} {lns : Nat → Option (TypeId × Nat)} (h : HRp P w0 w G obs lns) {t n : Nat} {e : TypeId} (hl : lns t = some (e,n)) (hg : ∃ L,G.lv t = some L ∧ w.grownBy w' L.v.ownBlock ∧ ∀ b o,L.v.ownBlock = some b → w'.cell? ⟨b,o,none⟩ = w.cell? ⟨b,o,none⟩) (hkt : TK w w') :
  let G' : Cx := { G with lv := upd G.lv t ⟨n + 1,P.cellsOf e,Go.undef⟩ }
  G.le G' ∧ HRp P w0 w' G' obs (upd lns t (e,n + 1)) := by
 intro G'
 obtain ⟨L,hL,hg,hc⟩ := hg
 obtain ⟨v,xs,g1,g2,g3⟩ := h.lvl t e n hl
 rw [hL] at g1; injection g1 with g1; subst g1
 simp only at hg hc
 have hbk : ∀ b',b' < w.heap.size → some b' ≠ v.ownBlock → w'.heap[b']? = w.heap[b']? := fun b' h1 h2=>hg.block b' h1 h2
 have hlv : ∀ j L,G'.lv j = some L → (j = t ∧ L = ⟨n + 1,P.cellsOf e,Go.undef⟩) ∨ (j ≠ t ∧ G.lv j = some L) := by
  intro j L q
  have q' : upd G.lv t ⟨n + 1,P.cellsOf e,Go.undef⟩ j = some L := q
  by_cases e : j = t
  ·subst e; rw [upd_same] at q'; injection q' with q'; exact .inl ⟨rfl,q'.symm⟩
  ·rw [upd_ne _ _ e] at q'; exact .inr ⟨e,q'⟩
 have hle : G.le G' := by
  refine ⟨rfl,fun _ _ _ q=>q,fun _ _ q=>q,fun j L q=>?_,fun _ _ q=>q,fun _ L q=>⟨L,q,rfl,.inl rfl⟩,fun _ _ q=>q⟩
  by_cases ej : j = t
  ·subst ej
   rw [hL] at q; injection q with q; subst q
   exact ⟨_,upd_same _ _ _,rfl,.inr (by show n < n + 1; omega)⟩
  ·exact ⟨L,(by show upd G.lv t _ j = _; rw [upd_ne _ _ ej]; exact q),rfl,.inl rfl⟩
 refine ⟨hle,h.kp.grown hg (fun j hj=>(holds_lt g2 j hj).1),?_,h.fb,h.obd,?_,h.obi,?_,?_,?_,h.gb,h.obm,?_,h.mpi,h.obr,?_,h.rvi,fun b t q=>hkt _ _ (h.tgs b t q)⟩
 ·intro b o u q
  have q1 := h.fs b o u q
  refine ⟨Nat.lt_of_lt_of_le q1.1 hg.size,?_⟩
  by_cases hb : v.ownBlock = some b
  ·rw [hc b o hb]; exact q1.2
  ·exact (World.cell?_of_block (a := ⟨b,o,none⟩) (hbk b q1.1 (fun e=>hb e.symm))).trans q1.2
 ·intro k cs q hm hr
  obtain ⟨b,vs,t',h1,h2,h3,h4,h5⟩ := h.obl k cs q hm hr
  exact ⟨b,vs,t',h1,h2,(hbk b (heap_lt' h3) (fun e=>(g3 b e.symm).1 k h1)).trans h3,rels_mono hle h4,h5⟩
 ·intro j L q
  rcases hlv j L q with ⟨rfl,_⟩ | ⟨e,q⟩
  ·rw [upd_same]; simp
  ·rw [upd_ne _ _ e]; exact h.lvd j L q
 ·intro j e' n' q
  by_cases ej : j = t
  ·subst ej
   rw [upd_same] at q; injection q with q; injection q with q1 q2; subst q1; subst q2
   exact ⟨Go.undef,[],upd_same _ _ _,.inl rfl,fun b hb=>by simp [Go.undef,Value.ownBlock] at hb⟩
  ·rw [upd_ne _ _ ej] at q
   obtain ⟨v',xs',h1,h2,h3⟩ := h.lvl j e' n' q
   refine ⟨v',xs',(by show upd G.lv t _ j = _; rw [upd_ne _ _ ej]; exact h1),holds_kept h2 hg ?_,h3⟩
   cases hv : v'.ownBlock with
   | none=>exact .inl rfl
   | some b=>exact .inr fun e2=>ej (h.lvi j t _ _ b h1 hL hv e2.symm)
 ·intro j j' L1 L2 b q q' h1 h2
  rcases hlv j L1 q with ⟨_,rfl⟩ | ⟨_,q⟩
  ·simp [Go.undef,Value.ownBlock] at h1
  ·rcases hlv j' L2 q' with ⟨_,rfl⟩ | ⟨_,q'⟩
   ·simp [Go.undef,Value.ownBlock] at h2
   ·exact h.lvi j j' L1 L2 b q q' h1 h2
 ·intro k b q
  obtain ⟨h1,es,n',ik,kvs,h2,h3,h4⟩ := h.mpl k b q
  refine ⟨h1,es,n',ik,kvs,h2,(hbk b (heap_lt' h3) (fun e2=>?_)).trans h3,h4⟩
  rcases g2 with rfl | g2
  ·simp [Go.undef,Value.ownBlock] at e2
  ·obtain ⟨cap,cur,_,_,c3,_⟩ := own_at g2 e2.symm
   rw [c3] at h3; cases h3
 ·intro k L' q
  obtain ⟨e',es',xs',h1,h2,h3,h4,h5,h6⟩ := h.rvl k L' q
  refine ⟨e',es',xs',h1,h2,h3,h4.kept hg ?_,h5,fun b hb=>⟨(h6 b hb).1,(h6 b hb).2.1,fun j L2 q2=>?_⟩⟩
  ·cases hv : L'.v.ownBlock with
   | none=>exact .inl rfl
   | some b=>exact .inr fun e2=>(h6 b hv).2.2 t _ hL e2.symm
  ·rcases hlv j L2 q2 with ⟨_,rfl⟩ | ⟨_,q2⟩
   ·simp [Go.undef,Value.ownBlock]
   ·exact (h6 b hb).2.2 j L2 q2
theorem HRp.growRow {w0 w w' : World} {G : Cx} {obs : Nat → Option (List V)} {lns : Nat → Option (TypeId × Nat)} (h : HRp P w0 w G obs lns) {k gg cap : Nat} {L : Lv} (hk : G.rv k = some L) {e : TypeId} {es0 es : List (List D)} {xs : List Value} (he : obs k = some [.rowc e L.n es0])
    (hat : (L.v.ownBlock = some gg ∧ w.grownBy w' (some gg)) ∨ (gg = w.heap.size ∧ Kp w w')) (ho : w'.ownsRow w0.heap.size e L.sz (.slice (some ⟨gg,0,none⟩) es.length cap) es.length xs) (hr : relRow G.F L.sz es xs) :
    let G' : Cx := { G with rv := upd G.rv k ⟨L.n + 1,L.sz,.slice (some ⟨gg,0,none⟩) es.length cap⟩ }
    G.le G' ∧ HRp P w0 w' G' (upd obs k [.rowc e (L.n + 1) es]) lns := by
  intro G'
  obtain ⟨e0,es1,xs0,g1,g2,g3,g4,g5,g6⟩ := h.rvl k L hk
  rw [he] at g1; injection g1 with g1; injection g1 with g1 _; injection g1 with e1 _ e2; subst e1; subst e2
  have hblk : ∀ b,b < w.heap.size → b ≠ gg → w'.heap[b]? = w.heap[b]? := by
    intro b hb hn
    rcases hat with ⟨_,hg⟩ | ⟨_,hk⟩
    · exact hg.block b hb (fun e=>hn (by injection e))
    · exact hk.below.block b hb
  have hsize : w.heap.size ≤ w'.heap.size := by
    rcases hat with ⟨_,hg⟩ | ⟨_,hk⟩
    · exact hg.size
    · exact hk.size
  have hnew : ∀ b,b < w.heap.size → L.v.ownBlock ≠ some b → b ≠ gg := by
    intro b hb hn e2
    subst e2
    rcases hat with ⟨hb',_⟩ | ⟨hb',_⟩
    · exact hn hb'
    · omega
  have hobl : ∀ j b,G.ob j = some b → b < w.heap.size ∧ L.v.ownBlock ≠ some b := by
    intro j b q
    refine ⟨?_,fun hb=>(g6 b hb).1 j q⟩
    cases hq : obs j with
    | none=>exact absurd hq (h.obd j b q)
    | some cs =>
      obtain ⟨b',_,_,h1,_,h3,_⟩ := h.obl j cs hq (h.obm j b q) (h.obr j b q)
      rw [q] at h1; injection h1 with h1; subst h1
      exact heap_lt' h3
  have hlvl : ∀ t L' b,G.lv t = some L' → L'.v.ownBlock = some b → b < w.heap.size ∧ L.v.ownBlock ≠ some b := by
    intro t L' b q hb
    refine ⟨?_,fun hb'=>(g6 b hb').2.2 t L' q hb⟩
    cases hq : lns t with
    | none=>exact absurd hq (h.lvd t L' q)
    | some en =>
      obtain ⟨v',xs',h1,h2,_⟩ := h.lvl t en.1 en.2 hq
      rw [q] at h1; injection h1 with h1; subst h1
      exact (holds_lt h2 b hb).2
  have hFn : ∀ b o u,G.F b o u → b < w.heap.size ∧ L.v.ownBlock ≠ some b := fun b o u q=>⟨(h.fs b o u q).1,fun hb=>(g6 b hb).2.1 o u q⟩
  have hrv : ∀ j L',G'.rv j = some L' → (j = k ∧ L' = ⟨L.n + 1,L.sz,.slice (some ⟨gg,0,none⟩) es.length cap⟩) ∨ (j ≠ k ∧ G.rv j = some L') := by
    intro j L' q
    have q' : upd G.rv k ⟨L.n + 1,L.sz,.slice (some ⟨gg,0,none⟩) es.length cap⟩ j = some L' := q
    by_cases e : j = k
    · subst e; rw [upd_same] at q'; injection q' with q'; exact .inl ⟨rfl,q'.symm⟩
    · rw [upd_ne _ _ e] at q'; exact .inr ⟨e,q'⟩
  have hrvl : ∀ j L' b,j ≠ k → G.rv j = some L' → L'.v.ownBlock = some b → b < w.heap.size ∧ L.v.ownBlock ≠ some b := by
    intro j L' b hj q hb
    obtain ⟨_,_,_,_,_,_,h4,_⟩ := h.rvl j L' q
    exact ⟨(h4.lt b hb).2,fun hb'=>hj (h.rvi j k L' L b q hk hb hb')⟩
  have hle : G.le G' := by
    refine ⟨rfl,fun _ _ _ q=>q,fun _ _ q=>q,fun _ L q=>⟨L,q,rfl,.inl rfl⟩,fun _ _ q=>q,fun j L' q=>?_,fun _ _ q=>q⟩
    by_cases ej : j = k
    · subst ej
      rw [hk] at q; injection q with q; subst q
      exact ⟨_,upd_same _ _ _,rfl,.inr (by show L.n < L.n + 1; omega)⟩
    · exact ⟨L',(by show upd G.rv k _ j = _; rw [upd_ne _ _ ej]; exact q),rfl,.inl rfl⟩
  have hkp : Kp w0 w' := by
    rcases hat with ⟨hb,hg⟩ | ⟨_,hk'⟩
    · exact h.kp.grown hg (fun j hj=>by injection hj with hj; subst hj; exact (g4.lt _ hb).1)
    · exact h.kp.trans hk'
  refine ⟨hle,hkp,?_,h.fb,?_,?_,h.obi,h.lvd,?_,h.lvi,h.gb,h.obm,?_,h.mpi,?_,?_,?_,fun b t q=>(show TK w w' from by
    rcases hat with ⟨hb,hg⟩ | ⟨_,hk'⟩
    · exact tk_grown hg fun t' q'=>by rw [tag_own g4 hb] at q'; rw [tag_own ho (b := gg) rfl]; exact q'
    · exact tk_kp hk') b t (h.tgs b t q)⟩
  · intro b o u q
    have q1 := h.fs b o u q
    have q2 := hFn b o u q
    exact ⟨Nat.lt_of_lt_of_le q1.1 hsize,(World.cell?_of_block (a := ⟨b,o,none⟩) (hblk b q1.1 (hnew b q2.1 q2.2))).trans q1.2⟩
  · intro j b q
    have e' : j ≠ k := fun e'=>by rw [e'] at q; rw [h.obr k b q] at hk; cases hk
    rw [upd_ne _ _ e']; exact h.obd j b q
  · intro j cs q hm hq
    have e' : j ≠ k := fun e'=>by
      have : upd G.rv k _ j = none := hq
      rw [e',upd_same] at this; cases this
    rw [upd_ne _ _ e'] at q
    have hq' : G.rv j = none := by
      have : upd G.rv k _ j = none := hq
      rwa [upd_ne _ _ e'] at this
    obtain ⟨b,vs,t,h1,h2,h3,h4,h5⟩ := h.obl j cs q hm hq'
    have q2 := hobl j b h1
    exact ⟨b,vs,t,h1,h2,(hblk b q2.1 (hnew b q2.1 q2.2)).trans h3,rels_mono hle h4,h5⟩
  · intro t e' n q
    obtain ⟨v,xs',h1,h2,h3⟩ := h.lvl t e' n q
    refine ⟨v,xs',h1,h2.imp id fun h2=>?_,h3⟩
    rcases hat with ⟨hb,hg⟩ | ⟨_,hk'⟩
    · exact h2.kept hg (.inr fun hv=>(hlvl t _ gg h1 hv).2 hb)
    · exact own_kp h2 hk'
  · intro j b q
    obtain ⟨h1,es',n',ik',kvs',h2,h3,h4⟩ := h.mpl j b q
    have hj : j ≠ k := fun e'=>by rw [e',he] at h2; cases h2
    have hlt := heap_lt' h3
    refine ⟨h1,es',n',ik',kvs',by rw [upd_ne _ _ hj]; exact h2,(hblk b hlt (hnew b hlt fun hb=>?_)).trans h3,h4⟩
    obtain ⟨_,cur,_,_,c3,_⟩ := own_at g4 hb
    rw [c3] at h3; cases h3
  · intro j b q
    have e' : j ≠ k := fun e'=>by rw [e'] at q; rw [h.obr k b q] at hk; cases hk
    show upd G.rv k _ j = none
    rw [upd_ne _ _ e']; exact h.obr j b q
  · intro j L' q
    rcases hrv j L' q with ⟨rfl,rfl⟩ | ⟨ej,q⟩
    · refine ⟨e,es,xs,upd_same _ _ _,g2,trivial,ho,hr,fun b hb=>?_⟩
      have hbg : gg = b := by injection hb
      subst hbg
      refine ⟨fun j' q'=>?_,fun o u q'=>?_,fun t L2 q' hb2=>?_⟩
      · have q2 := hobl j' gg q'; exact hnew gg q2.1 q2.2 rfl
      · have q2 := hFn gg o u q'; exact hnew gg q2.1 q2.2 rfl
      · have q2 := hlvl t L2 gg q' hb2; exact hnew gg q2.1 q2.2 rfl
    · obtain ⟨e2,es2,xs2,h1,h2,h3,h4,h5,h6⟩ := h.rvl j L' q
      refine ⟨e2,es2,xs2,by rw [upd_ne _ _ ej]; exact h1,h2,h3,?_,h5,h6⟩
      rcases hat with ⟨hb,hg⟩ | ⟨_,hk'⟩
      · exact h4.kept hg (.inr fun hv=>(hrvl j L' gg ej q hv).2 hb)
      · exact own_kp h4 hk'
  · intro j j' L1 L2 b q q' h1 h2
    rcases hrv j L1 q with ⟨e1,r1⟩ | ⟨e1,q1⟩ <;> rcases hrv j' L2 q' with ⟨e2,r2⟩ | ⟨e2,q2⟩
    · rw [e1,e2]
    · subst r1
      have hbg : gg = b := by injection h1
      subst hbg
      have z := hrvl j' L2 gg e2 q2 h2
      exact absurd rfl (hnew gg z.1 z.2)
    · subst r2
      have hbg : gg = b := by injection h2
      subst hbg
      have z := hrvl j L1 gg e1 q1 h1
      exact absurd rfl (hnew gg z.1 z.2)
    · exact h.rvi j j' L1 L2 b q1 q2 h1 h2
end
section
variable {P : Program} {g : Pg P} {d : Option Tmp} {t ty : TypeId} {p : String} {af : Array Edge} {gd : Option (Nat × Bool)} {fr : Fr} {s : Sg} {R : V → Sg → Prop}
end
end Go.Proofs.YtnnelopkjdgbgaaDoor
