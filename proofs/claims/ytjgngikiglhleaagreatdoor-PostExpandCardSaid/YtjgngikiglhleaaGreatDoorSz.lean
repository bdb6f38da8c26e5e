import Derived.Test.YtjgngikiglhleaaGreatDoorSx
namespace Go.Proofs.YtjgngikiglhleaaGreatDoor
open Go.RowKit
set_option linter.unusedVariables false
set_option linter.unusedSimpArgs false
def SpecZ {P : Program} (_ : Pg P) (f : FuncId) (args : List V) (e : TypeId) (es : List (List D)) (Y : V → V) : Prop :=
 enterable P f = true ∧ ∀ (w : World) (F : Nat → Nat → Value → Prop) (vs : List Value),(∀ b o v,F b o v → b < w.heap.size ∧ w.cell? ⟨b,o,none⟩ = some v) → GlobOk w F → rels (bareG F) args vs →
  Calls P f ⟨vs⟩ w fun en w'=>∃ u v xs,en = .returned u ∧ Kp w w' ∧ w'.ownsRow w.heap.size e (P.cellsOf e) v es.length xs ∧ (∀ F',relRow F' (P.cellsOf e) es xs) ∧ ∀ G x,rel G x v → rel G (Y x) u
theorem SpecZ.toS {P : Program} {g : Pg P} {f : FuncId} {args args' : List V} {e : TypeId} {es : List (List D)} {Y : V → V} {s : Sg} {R : V → Sg → Prop} (h : SpecZ g f args' e es Y) (ha : args.map V.clean = args') (hR : R (Y (.gr s.obs.length 0)) ⟨s.obs ++ [[.rowc e 0 es]],s.lns⟩) : SpecS g f args s R := by
 subst ha
 refine ⟨h.1,fun w0 w G vs hH hr=>?_⟩
 refine (h.2 w G.F vs hH.fs (hH.gb.kp hH.kp) ?_).mono ?_
 ·refine ⟨by simp [hr.1],fun i x v h1 h2=>?_⟩
  rw [List.getElem?_map] at h1
  cases hq : args[i]? with
  | none=>rw [hq] at h1; cases h1
  | some y=>rw [hq] at h1; simp at h1; subst h1; exact clean_rel (hr.2 i y v hq h2) G.F (fun _ _ _ q=>q)
 ·rintro en w' ⟨u,v,xs,rfl,hk,ho,hx,hu⟩
  obtain ⟨hle,hN⟩ := HRp.newRow hH hk s.obs.length (by simp) ho (hx G.F)
  rw [sg_push] at hN
  have hN' : HR P w0 w' { G with rv := upd G.rv s.obs.length ⟨0,P.cellsOf e,v⟩ } ⟨s.obs ++ [[.rowc e 0 es]],s.lns⟩ := hN
  have hone : v.oneCell' = true := by
   obtain ⟨A,c,hv⟩ := own_slice ho
   rw [hv]; rfl
  exact ⟨_,_,⟨s.obs ++ [[.rowc e 0 es]],s.lns⟩,_,rfl,hle,hN',hu _ _ (.gr _ _ _ hone _ (upd_same _ _ _) (.inl ⟨rfl,rfl⟩)),hR⟩
end Go.Proofs.YtjgngikiglhleaaGreatDoor
