import Derived.Test.YtnnelopkjdgbgaaDoorSx
namespace Go.Proofs.YtnnelopkjdgbgaaDoor
open Go.RowKit
set_option linter.unusedVariables false
set_option linter.unusedSimpArgs false
def SpecZ {P : Program} (_ : Pg P) (f : FuncId) (args : List V) (e : TypeId) (es : List (List D)) (Y : V → V) : Prop :=
 enterable P f = true ∧ ∀ (w : World) (F : Nat → Nat → Value → Prop) (vs : List Value),(∀ b o v,F b o v → b < w.heap.size ∧ w.cell? ⟨b,o,none⟩ = some v) → GlobOk w F → rels (bareG F) args vs →
  Calls P f ⟨vs⟩ w fun en w'=>∃ u v xs,en = .returned u ∧ Kp w w' ∧ w'.ownsRow w.heap.size e (P.cellsOf e) v es.length xs ∧ (∀ F',relRow F' (P.cellsOf e) es xs) ∧ ∀ G x,rel G x v → rel G (Y x) u
theorem SpecZ.toS {P : Program} {g : Pg P} {f : FuncId} {args args' : List V} {e : TypeId} {es : List (List D)} {Y : V → V} {s : Sg} {R : V → Sg → Prop} (h : SpecZ g f args' e es Y) (ha : args.map V.clean = args') (hR : R (Y (.gr s.obs.length 0)) ⟨s.obs ++ [[.rowc e 0 es]],s.lns⟩) : SpecS g f args s R := by
 subst ha
 refine ⟨h.1,fun w0 w G vs hH hr=>?_⟩
 refine (h.2 w G.F vs hH.fs (hH.gb.kp hH.kp) ?_).mono ?_
 ·refine ⟨by simp [hr.1],fun i x v h1 h2=>?_⟩
  rw [List.getElem?_map] at h1
  cases hq : args[i]? with
  | none=>rw [hq] at h1; cases h1
  | some y=>rw [hq] at h1; simp at h1; subst h1; exact clean_rel (hr.2 i y v hq h2) G.F (fun _ _ _ q=>q)
 ·rintro en w' ⟨u,v,xs,rfl,hk,ho,hx,hu⟩
  obtain ⟨hle,hN⟩ := HRp.newRow hH hk s.obs.length (by simp) ho (hx G.F)
  rw [sg_push] at hN
  have hN' : HR P w0 w' { G with rv := upd G.rv s.obs.length ⟨0,P.cellsOf e,v⟩ } ⟨s.obs ++ [[.rowc e 0 es]],s.lns⟩ := hN
  have hone : v.oneCell' = true := by
   obtain ⟨A,c,hv⟩ := own_slice ho
   rw [hv]; rfl
  exact ⟨_,_,⟨s.obs ++ [[.rowc e 0 es]],s.lns⟩,_,rfl,hle,hN',hu _ _ (.gr _ _ _ hone _ (upd_same _ _ _) (.inl ⟨rfl,rfl⟩)),hR⟩
def V.cleanZ (s : Sg) : V → V
 | .agg xs=>.agg (xs.map (V.cleanS s))
 | x=>V.cleanS s x
theorem cleanS_rel {P : Program} {w0 w : World} {G : Cx} {s : Sg} (hH : HR P w0 w G s) {y : V} {v : Value} (ry : rel G y v) : rel (bareG fun b o u=>G.F b o u ∨ w.cell? ⟨b,o,none⟩ = some u) (V.cleanS s y) v := by
 have dflt : rel (bareG fun b o u=>G.F b o u ∨ w.cell? ⟨b,o,none⟩ = some u) y.clean v := clean_rel ry _ (fun _ _ _ q=>.inl q)
 unfold V.cleanS
 split
 ·rename_i k n
  split
  ·rename_i e ver es ho
   split
   ·rename_i hn
    obtain ⟨L,xs,a1,a2,a3,a4,a5,a6⟩ := inv_gr hH ry (hn ▸ ho)
    by_cases h0 : es.length = 0
    ·have : es = [] := List.eq_nil_of_length_eq_zero h0
     subst this
     obtain ⟨A,c,rfl⟩ := own_slice a5
     exact .d (.nil _ _)
    ·obtain ⟨b,cap,rfl,_⟩ := a5.form (by omega)
     have hcap : es.length ≤ cap := by
      rcases a5.2 with ⟨z1,z2⟩ | ⟨g',cap',cur,z1,_,_,z3,_⟩
      ·cases z1
      ·injection z1 with _ _ z1; omega
     refine .d (.list es b 0 cap L.sz (fun i j=>(xs[i * L.sz + j]?).getD Go.undef) (by omega) hcap a6.1 (fun i j c x hc hx=>?_) (fun i j c x hc hx=>?_))
     ·obtain ⟨u,u1,u2⟩ := a6.2 i j c x hc hx
      rw [u1]
      have := a5.cells (g := b) rfl _ u u1
      rw [Addr.add_lit] at this
      refine .inr ?_
      rw [Nat.zero_add] at this ⊢
      exact this
     ·obtain ⟨u,u1,u2⟩ := a6.2 i j c x hc hx
      rw [u1]
      exact relD_mono (fun _ _ _ q=>.inl q) u2
   ·exact .undef _
  ·exact .undef _
 ·exact dflt
theorem cleanZ_rel {P : Program} {w0 w : World} {G : Cx} {s : Sg} (hH : HR P w0 w G s) {y : V} {v : Value} (ry : rel G y v) : rel (bareG fun b o u=>G.F b o u ∨ w.cell? ⟨b,o,none⟩ = some u) (V.cleanZ s y) v := by
 unfold V.cleanZ
 split
 ·rename_i ys
  cases ry with
  | agg _ vs hl h =>
   refine .agg _ vs (by simpa using hl) fun i x v h1 h2=>?_
   rw [List.getElem?_map] at h1
   cases hq : ys[i]? with
   | none=>rw [hq] at h1; cases h1
   | some z=>rw [hq] at h1; simp at h1; subst h1; exact cleanS_rel hH (h i z v hq h2)
 ·exact cleanS_rel hH ry
theorem SpecS.byZ {P : Program} {g : Pg P} {f : FuncId} {args args' : List V} {r : V} {s : Sg} {R : V → Sg → Prop} (h : Spec g f args' r) (ha : args.map (V.cleanZ s) = args') (hp : r.plainT = true) (hR : R r s) : SpecS g f args s R := by
 subst ha
 refine ⟨h.1,fun w0 w G vs hH hr=>?_⟩
 refine (h.2 w (fun b o u=>G.F b o u ∨ w.cell? ⟨b,o,none⟩ = some u) vs ?_ ((hH.gb.kp hH.kp).mono fun _ _ _ q=>.inl q) ?_).mono ?_
 ·rintro b o u (q | q)
  ·exact hH.fs b o u q
  ·exact ⟨cell_lt q,q⟩
 ·refine ⟨by simp [hr.1],fun i x v h1 h2=>?_⟩
  rw [List.getElem?_map] at h1
  cases hq : args[i]? with
  | none=>rw [hq] at h1; cases h1
  | some y=>rw [hq] at h1; simp at h1; subst h1; exact cleanZ_rel hH (hr.2 i y v hq h2)
 ·rintro en w' ⟨v,rfl,hk,hv⟩
  exact ⟨v,r,s,G,rfl,Cx.le.refl G,hH.kept hk,plainT_any hp hv,hR⟩
end Go.Proofs.YtnnelopkjdgbgaaDoor
