import Derived.Test.YtnnelopkjdgbgaaDoorSvw
namespace Go.Proofs.YtnnelopkjdgbgaaDoor
open Go.RowKit
set_option linter.unusedVariables false
set_option linter.unusedSimpArgs false
section
variable {P : Program}
end
section
variable {P : Program} {g : Pg P} {d : Option Tmp} {t ty : TypeId} {p : String} {af : Array Edge} {gd : Option (Nat × Bool)} {fr : Fr} {s : Sg} {R : V → Sg → Prop}
def SpecY (_ : Pg P) (f : FuncId) (args : List V) (e : TypeId) (es : List (List D)) : Prop :=
 enterable P f = true ∧ ∀ (w : World) (F : Nat → Nat → Value → Prop) (vs : List Value),(∀ b o v,F b o v → b < w.heap.size ∧ w.cell? ⟨b,o,none⟩ = some v) → GlobOk w F → rels (bareG F) args vs →
  Calls P f ⟨vs⟩ w fun en w'=>∃ v xs,en = .returned v ∧ Kp w w' ∧ w'.ownsRow w.heap.size e (P.cellsOf e) v es.length xs ∧ ∀ F',relRow F' (P.cellsOf e) es xs
theorem SpecY.toS {f : FuncId} {args args' : List V} {e : TypeId} {es : List (List D)} (h : SpecY g f args' e es) (ha : args.map V.clean = args') (hR : R (.gr s.obs.length 0) ⟨s.obs ++ [[.rowc e 0 es]],s.lns⟩) : SpecS g f args s R := by
 subst ha
 refine ⟨h.1,fun w0 w G vs hH hr=>?_⟩
 refine (h.2 w G.F vs hH.fs (hH.gb.kp hH.kp) ?_).mono ?_
 ·refine ⟨by simp [hr.1],fun i x v h1 h2=>?_⟩
  rw [List.getElem?_map] at h1
  cases hq : args[i]? with
  | none=>rw [hq] at h1; cases h1
  | some y=>rw [hq] at h1; simp at h1; subst h1; exact clean_rel (hr.2 i y v hq h2) G.F (fun _ _ _ q=>q)
 ·rintro en w' ⟨v,xs,rfl,hk,ho,hx⟩
  obtain ⟨hle,hN⟩ := HRp.newRow hH hk s.obs.length (by simp) ho (hx G.F)
  rw [sg_push] at hN
  have hone : v.oneCell' = true := by
   obtain ⟨A,c,hv⟩ := own_slice ho
   rw [hv]; rfl
  have hN' : HR P w0 w' { G with rv := upd G.rv s.obs.length ⟨0,P.cellsOf e,v⟩ } ⟨s.obs ++ [[.rowc e 0 es]],s.lns⟩ := hN
  exact ⟨_,_,⟨s.obs ++ [[.rowc e 0 es]],s.lns⟩,_,rfl,hle,hN',.gr _ _ _ hone _ (upd_same _ _ _) (.inl ⟨rfl,rfl⟩),hR⟩
end
end Go.Proofs.YtnnelopkjdgbgaaDoor
