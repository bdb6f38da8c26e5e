/-
  Sv, Sw in one text.
-/
import Derived.Test.YtopjpenbieojmaaGreatDoorSu
import Derived.Laws.MakeOwn
import Derived.Laws.OwnMore
import Derived.Lib.AppendStr
import Derived.Lib.UnsafeStr
namespace Go.Proofs.YtopjpenbieojmaaGreatDoor
open Go.RowKit
set_option linter.unusedVariables false
set_option linter.unusedSimpArgs false
section
variable {P : Program} {g : Pg P} {d : Option Tmp} {t ty : TypeId} {p : String} {af : Array Edge} {gd : Option (Nat × Bool)} {fr : Fr} {s : Sg} {R : V → Sg → Prop}
end
end Go.Proofs.YtopjpenbieojmaaGreatDoor
namespace Go.Proofs.YtopjpenbieojmaaGreatDoor
open Go.RowKit
set_option linter.unusedVariables false
set_option linter.unusedSimpArgs false
section
variable {P : Program}
theorem HRp.gone {w0 w w' : World} {G : Cx} {obs : Nat → Option (List V)} {lns : Nat → Option (TypeId × Nat)} (h : HRp P w0 w G obs lns) {t n : Nat} {e : TypeId} (hl : lns t = some (e,n)) (hg : ∃ L,G.lv t = some L ∧ w.grownBy w' L.v.ownBlock ∧ ∀ b o,L.v.ownBlock = some b → w'.cell? ⟨b,o,none⟩ = w.cell? ⟨b,o,none⟩) (hkt : TK w w') :
  let G' : Cx := { G with lv := upd G.lv t ⟨n + 1,P.cellsOf e,Go.undef⟩ }
  G.le G' ∧ HRp P w0 w' G' obs (upd lns t (e,n + 1)) := by
 intro G'
 obtain ⟨L,hL,hg,hc⟩ := hg
 obtain ⟨v,xs,g1,g2,g3⟩ := h.lvl t e n hl
 rw [hL] at g1; injection g1 with g1; subst g1
 simp only at hg hc
 have hbk : ∀ b',b' < w.heap.size → some b' ≠ v.ownBlock → w'.heap[b']? = w.heap[b']? := fun b' h1 h2=>hg.block b' h1 h2
 have hlv : ∀ j L,G'.lv j = some L → (j = t ∧ L = ⟨n + 1,P.cellsOf e,Go.undef⟩) ∨ (j ≠ t ∧ G.lv j = some L) := by
  intro j L q
  have q' : upd G.lv t ⟨n + 1,P.cellsOf e,Go.undef⟩ j = some L := q
  by_cases e : j = t
  ·subst e; rw [upd_same] at q'; injection q' with q'; exact .inl ⟨rfl,q'.symm⟩
  ·rw [upd_ne _ _ e] at q'; exact .inr ⟨e,q'⟩
 have hle : G.le G' := by
  refine ⟨rfl,fun _ _ _ q=>q,fun _ _ q=>q,fun j L q=>?_,fun _ _ q=>q,fun _ L q=>⟨L,q,rfl,.inl rfl⟩,fun _ _ q=>q⟩
  by_cases ej : j = t
  ·subst ej
   rw [hL] at q; injection q with q; subst q
   exact ⟨_,upd_same _ _ _,rfl,.inr (by show n < n + 1; omega)⟩
  ·exact ⟨L,(by show upd G.lv t _ j = _; rw [upd_ne _ _ ej]; exact q),rfl,.inl rfl⟩
 refine ⟨hle,h.kp.grown hg (fun j hj=>(holds_lt g2 j hj).1),?_,h.fb,h.obd,?_,h.obi,?_,?_,?_,h.gb,h.obm,?_,h.mpi,h.obr,?_,h.rvi,fun b t q=>hkt _ _ (h.tgs b t q)⟩
 ·intro b o u q
  have q1 := h.fs b o u q
  refine ⟨Nat.lt_of_lt_of_le q1.1 hg.size,?_⟩
  by_cases hb : v.ownBlock = some b
  ·rw [hc b o hb]; exact q1.2
  ·exact (World.cell?_of_block (a := ⟨b,o,none⟩) (hbk b q1.1 (fun e=>hb e.symm))).trans q1.2
 ·intro k cs q hm hr
  obtain ⟨b,vs,t',h1,h2,h3,h4,h5⟩ := h.obl k cs q hm hr
  exact ⟨b,vs,t',h1,h2,(hbk b (heap_lt' h3) (fun e=>(g3 b e.symm).1 k h1)).trans h3,rels_mono hle h4,h5⟩
 ·intro j L q
  rcases hlv j L q with ⟨rfl,_⟩ | ⟨e,q⟩
  ·rw [upd_same]; simp
  ·rw [upd_ne _ _ e]; exact h.lvd j L q
 ·intro j e' n' q
  by_cases ej : j = t
  ·subst ej
   rw [upd_same] at q; injection q with q; injection q with q1 q2; subst q1; subst q2
   exact ⟨Go.undef,[],upd_same _ _ _,.inl rfl,fun b hb=>by simp [Go.undef,Value.ownBlock] at hb⟩
  ·rw [upd_ne _ _ ej] at q
   obtain ⟨v',xs',h1,h2,h3⟩ := h.lvl j e' n' q
   refine ⟨v',xs',(by show upd G.lv t _ j = _; rw [upd_ne _ _ ej]; exact h1),holds_kept h2 hg ?_,h3⟩
   cases hv : v'.ownBlock with
   | none=>exact .inl rfl
   | some b=>exact .inr fun e2=>ej (h.lvi j t _ _ b h1 hL hv e2.symm)
 ·intro j j' L1 L2 b q q' h1 h2
  rcases hlv j L1 q with ⟨_,rfl⟩ | ⟨_,q⟩
  ·simp [Go.undef,Value.ownBlock] at h1
  ·rcases hlv j' L2 q' with ⟨_,rfl⟩ | ⟨_,q'⟩
   ·simp [Go.undef,Value.ownBlock] at h2
   ·exact h.lvi j j' L1 L2 b q q' h1 h2
 ·intro k b q
  obtain ⟨h1,es,n',ik,kvs,h2,h3,h4⟩ := h.mpl k b q
  refine ⟨h1,es,n',ik,kvs,h2,(hbk b (heap_lt' h3) (fun e2=>?_)).trans h3,h4⟩
  rcases g2 with rfl | g2
  ·simp [Go.undef,Value.ownBlock] at e2
  ·obtain ⟨cap,cur,_,_,c3,_⟩ := own_at g2 e2.symm
   rw [c3] at h3; cases h3
 ·intro k L' q
  obtain ⟨e',es',xs',h1,h2,h3,h4,h5,h6⟩ := h.rvl k L' q
  refine ⟨e',es',xs',h1,h2,h3,h4.kept hg ?_,h5,fun b hb=>⟨(h6 b hb).1,(h6 b hb).2.1,fun j L2 q2=>?_⟩⟩
  ·cases hv : L'.v.ownBlock with
   | none=>exact .inl rfl
   | some b=>exact .inr fun e2=>(h6 b hv).2.2 t _ hL e2.symm
  ·rcases hlv j L2 q2 with ⟨_,rfl⟩ | ⟨_,q2⟩
   ·simp [Go.undef,Value.ownBlock]
   ·exact (h6 b hb).2.2 j L2 q2
end
section
variable {P : Program} {g : Pg P} {d : Option Tmp} {t ty : TypeId} {p : String} {af : Array Edge} {gd : Option (Nat × Bool)} {fr : Fr} {s : Sg} {R : V → Sg → Prop}
end
end Go.Proofs.YtopjpenbieojmaaGreatDoor
