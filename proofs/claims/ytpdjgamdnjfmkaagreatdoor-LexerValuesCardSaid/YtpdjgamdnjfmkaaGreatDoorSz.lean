import Derived.Test.YtpdjgamdnjfmkaaGreatDoorSx
namespace Go.Proofs.YtpdjgamdnjfmkaaGreatDoor
open Go.RowKit
set_option linter.unusedVariables false
set_option linter.unusedSimpArgs false
def Ctx1 (Y : V → V) : Prop := ∀ (G : Cx) (x : V) (u : Value), rel G (Y x) u → ∃ v, rel G x v ∧ ∀ (G' : Cx) (x' : V), rel G' x' v → rel G' (Y x') u
theorem ctx_id : Ctx1 (fun x => x) := fun _ x u r => ⟨u, r, fun _ _ q => q⟩
def SpecZ {P : Program} (_ : Pg P) (f : FuncId) (args : List V) (e : TypeId) (es : List (List D)) (Y : V → V) : Prop :=
 enterable P f = true ∧ ∀ (w : World) (F : Nat → Nat → Value → Prop) (vs : List Value), (∀ b o v, F b o v → b < w.heap.size ∧ w.cell? ⟨b, o, none⟩ = some v) → GlobOk w F → rels (bareG F) args vs →
  Calls P f ⟨vs⟩ w fun en w' => ∃ u v xs, en = .returned u ∧ Kp w w' ∧ w'.ownsRow w.heap.size e (P.cellsOf e) v es.length xs ∧ (∀ F', relRow F' (P.cellsOf e) es xs) ∧ ∀ G x, rel G x v → rel G (Y x) u
theorem SpecZ.toS {P : Program} {g : Pg P} {f : FuncId} {args args' : List V} {e : TypeId} {es : List (List D)} {Y : V → V} {s : Sg} {R : V → Sg → Prop} (h : SpecZ g f args' e es Y) (ha : args.map V.clean = args') (hR : R (Y (.gr s.obs.length 0)) ⟨s.obs ++ [[.rowc e 0 es]], s.lns⟩) : SpecS g f args s R := by
 subst ha
 refine ⟨h.1, fun w0 w G vs hH hr => ?_⟩
 refine (h.2 w G.F vs hH.fs (hH.gb.kp hH.kp) ?_).mono ?_
 ·refine ⟨by simp [hr.1], fun i x v h1 h2 => ?_⟩
  rw [List.getElem?_map] at h1
  cases hq : args[i]? with
  | none => rw [hq] at h1; cases h1
  | some y => rw [hq] at h1; simp at h1; subst h1; exact clean_rel (hr.2 i y v hq h2) G.F (fun _ _ _ q => q)
 ·rintro en w' ⟨u, v, xs, rfl, hk, ho, hx, hu⟩
  obtain ⟨hle, hN⟩ := HRp.newRow hH hk s.obs.length (by simp) ho (hx G.F)
  rw [sg_push] at hN
  have hN' : HR P w0 w' { G with rv := upd G.rv s.obs.length ⟨0, P.cellsOf e, v⟩ } ⟨s.obs ++ [[.rowc e 0 es]], s.lns⟩ := hN
  have hone : v.oneCell' = true := by
   obtain ⟨A, c, hv⟩ := own_slice ho
   rw [hv]; rfl
  exact ⟨_, _, ⟨s.obs ++ [[.rowc e 0 es]], s.lns⟩, _, rfl, hle, hN', hu _ _ (.gr _ _ _ hone _ (upd_same _ _ _) (.inl ⟨rfl, rfl⟩)), hR⟩
def ZRes (s : Sg) (y : V) (e : TypeId) (es : List (List D)) (Y : V → V) : Prop := (y = Y .nil ∧ es = []) ∨ ∃ k n, y = Y (.gr k n) ∧ s.obs[k]? = some [.rowc e n es]
theorem zr_gr {s : Sg} {y : V} {e : TypeId} {es : List (List D)} {Y : V → V} (k n : Nat) (h : y = Y (.gr k n)) (he : s.obs[k]? = some [.rowc e n es]) : ZRes s y e es Y := .inr ⟨k, n, h, he⟩
theorem specZ_by {P : Program} {g : Pg P} {f : FuncId} {fn : Func} {c : Code} (hf : P.funcs[f]? = some fn) (hb : fn.body = some c) (he : enterable P f = true) (hdr : drawsOk c = true) {args : List V} {e : TypeId} {es : List (List D)} {Y : V → V} (hY : Ctx1 Y) (hes : scalE es = true)
  (h : SWs g c (retQ g fn.results.toList (fun y s' => ZRes s' y e es Y)) (args ++ List.replicate (fn.ntmps - args.length) .undef) ⟨[], []⟩) : SpecZ g f args e es Y := by
 refine ⟨he, fun w F vs hF hgl hr => ?_⟩
 have hs := specS_by hf hb he hdr h
 have hH : HR P w w (bareG F) ⟨[], []⟩ := by
  refine ⟨Kp.refl w, hF, fun b o v q => .inl q, ?_, ?_, ?_, ?_, ?_, ?_, hgl, fun k b q => (by cases q), fun k b q => (by cases q), fun k k' b q => (by cases q), fun k b q => (by cases q), fun k L q => (by cases q), fun k k' L L' b q => (by cases q), fun b t q => (by cases q)⟩
  ·intro k b q; cases q
  ·intro k cs q; simp at q
  ·intro k k' b q; cases q
  ·intro t L q; cases q
  ·intro t e n q; simp at q
  ·intro t t' L L' b q; cases q
 refine (hs.2 w w (bareG F) vs hH hr).mono ?_
 rintro en w' ⟨u, y, s', G', rfl, q1, q2, q3, q4⟩
 rcases q4 with ⟨rfl, rfl⟩ | ⟨k, n, rfl, ho⟩
 ·obtain ⟨v, r, hu⟩ := hY G' _ u q3
  cases r
  exact ⟨u, _, [], rfl, q2.kp, World.ownsRow_nil _ _ _ _, fun F' => ⟨fun i e h => by simp at h, fun i j e x h => by simp at h⟩, hu⟩
 ·obtain ⟨v, r, hu⟩ := hY G' _ u q3
  obtain ⟨L, xs, a1, a2, a3, a4, a5, a6⟩ := inv_gr q2 r ho
  refine ⟨u, v, xs, rfl, q2.kp, a4 ▸ a5, fun F' => ?_, hu⟩
  rw [← a4]
  exact ⟨a6.1, fun i j c x hc hx => by
   obtain ⟨u', u1, u2⟩ := a6.2 i j c x hc hx
   exact ⟨u', u1, scal_any (scalE_at hes hc hx) u2⟩⟩
end Go.Proofs.YtpdjgamdnjfmkaaGreatDoor
