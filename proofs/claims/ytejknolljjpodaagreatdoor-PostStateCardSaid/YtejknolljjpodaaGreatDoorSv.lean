/-
  More operations on rows: parts of rows, rows that are made, elements appended to rows.
-/
import Derived.Test.YtejknolljjpodaaGreatDoorSu
import Derived.Laws.MakeOwn
import Derived.Laws.OwnMore
namespace Go.Proofs.YtejknolljjpodaaGreatDoor
open Go.RowKit
set_option linter.unusedVariables false
set_option linter.unusedSimpArgs false

section
variable {P : Program} {g : Pg P} {d : Option Tmp} {t ty : TypeId} {p : String} {af : Array Edge} {gd : Option (Nat × Bool)} {fr : Fr} {s : Sg} {R : V → Sg → Prop}

theorem inv_gs {w0 w : World} {G : Cx} {k n off len : Nat} {v : Value} {e : TypeId} {es : List (List D)} (hH : HR P w0 w G s) (r : rel G (.gs k n off len) v) (ho : s.obs[k]? = some [.rowc e n es]) :
    ∃ L A c, G.rv k = some L ∧ L.n = n ∧ L.sz = P.cellsOf e ∧ v = .slice A len c ∧ len ≤ c ∧ (len ≠ 0 → ∃ b, L.v.ownBlock = some b ∧ A = some ⟨b, off * L.sz, none⟩) := by
  cases r with
  | gs _ _ _ _ _ h1 L hL hl =>
    obtain ⟨e', es', xs, a1, a2, a3, a4, a5, a6⟩ := hH.rvl k L hL
    have a1' : s.obs[k]? = some [.rowc e' L.n es'] := a1
    rw [ho] at a1'; injection a1' with a1'; injection a1' with a1' _; injection a1' with e1 e2 e3; subst e1; subst e3
    rcases hl with ⟨q1, q2⟩ | q
    · rcases q2 with ⟨b, c, z1, z2, z3⟩ | ⟨z1, A, c, z2⟩
      · exact ⟨L, _, c, hL, q1.symm, a2, z2, z3, fun _ => ⟨b, z1, rfl⟩⟩
      · subst z1; exact ⟨L, A, c, hL, q1.symm, a2, z2, Nat.zero_le _, fun q => absurd rfl q⟩
    · omega
theorem gs_of_gr {w0 w : World} {G : Cx} {k n : Nat} {v : Value} {e : TypeId} {es : List (List D)} (hH : HR P w0 w G s) (r : rel G (.gr k n) v) (ho : s.obs[k]? = some [.rowc e n es]) : rel G (.gs k n 0 es.length) v := by
  obtain ⟨L, xs, a1, a2, a3, a4, a5, a6⟩ := inv_gr hH r ho
  subst a2
  rcases a5.2 with ⟨h1, h2⟩ | ⟨b, cap, cur, h1, _, _, h2, _⟩
  · exact .gs k n 0 _ _ (by rw [h1]; rfl) L a1 (.inl ⟨a3.symm, .inr ⟨h2, none, 0, h1⟩⟩)
  · exact .gs k n 0 _ _ (by rw [h1]; rfl) L a1 (.inl ⟨a3.symm, .inl ⟨b, cap, by rw [h1]; rfl, by rw [h1, Nat.zero_mul], h2⟩⟩)
theorem rel_gs {G : Cx} {k n off len : Nat} {A : Option Addr} {c : Nat} {L : Lv} (hL : G.rv k = some L) (hn : L.n = n) (hc : len ≤ c) (h : len ≠ 0 → ∃ b, L.v.ownBlock = some b ∧ A = some ⟨b, off * L.sz, none⟩) : rel G (.gs k n off len) (.slice A len c) := by
  by_cases h0 : len = 0
  · subst h0; exact .gs k n off 0 _ rfl L hL (.inl ⟨hn.symm, .inr ⟨rfl, A, c, rfl⟩⟩)
  · obtain ⟨b, h1, h2⟩ := h h0
    exact .gs k n off len _ rfl L hL (.inl ⟨hn.symm, .inl ⟨b, c, h1, by rw [h2], hc⟩⟩)
theorem size_of {e : TypeId} {sz : Nat} (hs : sizeT P e = some sz) : P.cellsOf e = sz := by
  simp only [sizeT, Option.map_eq_some_iff] at hs
  obtain ⟨i, h1, h2⟩ := hs
  simp [Program.cellsOf, h1, h2]
theorem slice_gs {x : Operand} {lo hi : Option Operand} {k n off len l h sz : Nat} {e : TypeId} {es : List (List D)} (hx : ∀ (w0 w : World) (G : Cx) (a : Act), HR P w0 w G s → FR G fr a → rel G (.gs k n off len) (a.eval x)) (ho : s.obs[k]? = some [.rowc e n es]) (ht : P.underlying t = some (.slice e)) (hs : sizeT P e = some sz)
    (hl : bnd 0 (lo.map (evalO fr)) = some l) (hh : bnd len (hi.map (evalO fr)) = some h) (h1 : l ≤ h) (h2 : h ≤ len) (K : R (.gs k n (off + l) (h - l)) s) : altR g ⟨d, .slice t x lo hi none, ty, p, af, gd⟩ fr s R := by
  intro w0 w G a hH hfr
  obtain ⟨L, A, c, a1, a2, a3, hv, hc, a4⟩ := inv_gs hH (hx w0 w G a hH hfr) ho
  have hsz : L.sz = sz := a3.trans (size_of hs)
  have hb := run_bounds (P := P) (len := len) (cap := c) (m := c) (mx := none) (vm := none) (relO_map hfr lo) (relO_map hfr hi) trivial rfl hh hl (Nat.le_refl _) (by omega) h1 (by simp) true w
  refine ⟨.value (.slice (if c = l then A else A.map (·.add (l * sz))) (h - l) (c - l)), w, _, s, G, ?_, .inl ⟨_, rfl, rel_gs a1 a2 (by omega) fun q => ?_⟩, Cx.le.refl G, hH, K⟩
  · simp only [execOp, hv, Instr.sliceAt, Instr.slice, Sem.run_bind, run_underlying ht, Result.andThen_ok, hb, run_size hs, Sem.run_pure, Option.map_none]
  · obtain ⟨b, q1, q2⟩ := a4 (by omega)
    refine ⟨b, q1, ?_⟩
    rw [if_neg (by omega), q2]
    simp [Addr.add_lit, Nat.add_mul, hsz]
theorem alt_sliceR {x : Operand} {lo hi : Option Operand} {k n l h sz : Nat} {e : TypeId} {es : List (List D)} (hx : evalO fr x = .gr k n) (ho : s.obs[k]? = some [.rowc e n es]) (ht : P.underlying t = some (.slice e)) (hs : sizeT P e = some sz)
    (hl : bnd 0 (lo.map (evalO fr)) = some l) (hh : bnd es.length (hi.map (evalO fr)) = some h) (h1 : l ≤ h) (h2 : h ≤ es.length) (K : R (.gs k n (0 + l) (h - l)) s) : altR g ⟨d, .slice t x lo hi none, ty, p, af, gd⟩ fr s R :=
  slice_gs (fun w0 w G a hH hfr => gs_of_gr hH (hx ▸ evalO_rel hfr x) ho) ho ht hs hl hh h1 h2 K
theorem appT_parts {tt e : TypeId} {sz : Nat} (h : appT P tt = some (e, sz)) : ∃ i z, P.underlying tt = some (.slice e) ∧ P.info? e = some i ∧ i.zero = some z ∧ z.cells.size = sz ∧ i.size = sz ∧ 0 < sz ∧ i.bytes ≤ 8000000 := by
  unfold appT at h
  split at h
  · rename_i e' hu
    split at h
    · rename_i i hi
      split at h
      · rename_i z hz
        split at h
        · rename_i hc
          injection h with h; injection h with h1 h2; subst h1; subst h2
          exact ⟨i, z, hu, hi, hz, hc.1, rfl, hc.2.1, hc.2.2⟩
        · cases h
      · cases h
    · cases h
  · cases h
end

end Go.Proofs.YtejknolljjpodaaGreatDoor
