import Derived.Test.YtopjpenbieojmaaDoorSx
import Derived.Test.YtopjpenbieojmaaDoorGx
import Derived.Test.YtopjpenbieojmaaDoorSvw
namespace Go.Proofs.YtopjpenbieojmaaDoor
open Go.RowKit
set_option linter.unusedVariables false
set_option linter.unusedSimpArgs false
section
variable {P : Program}
theorem HRp.beginRowN {w0 w w' : World} {G : Cx} {obs : Nat → Option (List V)} {lns : Nat → Option (TypeId × Nat)} (h : HRp P w0 w G obs lns) (hk : Kp w w') (t : Nat) (ht : lns t = none) (e : TypeId) {v : Value} {n0 : Nat} {xs0 : List Value} (ho : w'.ownsRow w.heap.size e (P.cellsOf e) v n0 xs0) (hfr : ∀ b o u, v.ownBlock = some b → w'.cell? ⟨b, o, none⟩ = some u → o < n0 * P.cellsOf e) :
  let G' : Cx := { G.withF (fresh w w') with lv := upd G.lv t ⟨n0, P.cellsOf e, v⟩ }
  G.le G' ∧ HRp P w0 w' G' obs (upd lns t (e, n0)) := by
 intro G'
 have h' := h.grow hk
 have hnone : G.lv t = none := by
  cases hq : G.lv t with
  | none => rfl
  | some b => exact absurd ht (h.lvd t b hq)
 have hlv : ∀ j L, G'.lv j = some L → (j = t ∧ L = ⟨n0, P.cellsOf e, v⟩) ∨ (j ≠ t ∧ G.lv j = some L) := by
  intro j L q
  have q' : upd G.lv t ⟨n0, P.cellsOf e, v⟩ j = some L := q
  by_cases e : j = t
  ·subst e; rw [upd_same] at q'; injection q' with q'; exact .inl ⟨rfl, q'.symm⟩
  ·rw [upd_ne _ _ e] at q'; exact .inr ⟨e, q'⟩
 have hnew : ∀ b, v.ownBlock = some b → w.heap.size ≤ b := fun b hb => (ho.lt b hb).1
 have hle : G.le G' := by
  refine ⟨rfl, fun _ _ _ q => .inl q, fun _ _ q => q, fun j L q => ⟨L, ?_, rfl, .inl rfl⟩, fun _ _ q => q, fun _ L q => ⟨L, q, rfl, .inl rfl⟩, fun _ _ q => q⟩
  show upd G.lv t _ j = some L
  rw [upd_ne _ _ (fun e => by rw [e, hnone] at q; cases q)]; exact q
 have hle2 : (G.withF (fresh w w')).le G' := by
  refine ⟨rfl, fun _ _ _ q => q, fun _ _ q => q, fun j L q => ⟨L, ?_, rfl, .inl rfl⟩, fun _ _ q => q, fun _ L q => ⟨L, q, rfl, .inl rfl⟩, fun _ _ q => q⟩
  show upd G.lv t _ j = some L
  have q : G.lv j = some L := q
  rw [upd_ne _ _ (fun e => by rw [e, hnone] at q; cases q)]; exact q
 have hlvl : ∀ j L b, G.lv j = some L → L.v.ownBlock = some b → b < w.heap.size := by
  intro j L b q hb
  cases hq : lns j with
  | none => exact absurd hq (h.lvd j L q)
  | some en =>
   obtain ⟨v', xs', h1, h2, _⟩ := h.lvl j en.1 en.2 hq
   rw [q] at h1; injection h1 with h1; subst h1
   exact (holds_lt h2 b hb).2
 refine ⟨hle, h'.kp, h'.fs, h'.fb, h'.obd, ?_, h'.obi, ?_, ?_, ?_, h'.gb, h'.obm, h'.mpl, h'.mpi, h'.obr, fun k L q => ?_, h'.rvi, h'.tgs⟩
 ·intro k cs q hm hrv
  obtain ⟨b, vs, t', h1, h2, h3, h4, h5⟩ := h'.obl k cs q hm hrv
  exact ⟨b, vs, t', h1, h2, h3, rels_mono hle2 h4, h5⟩
 ·intro j L q
  rcases hlv j L q with ⟨rfl, _⟩ | ⟨e, q⟩
  ·rw [upd_same]; simp
  ·rw [upd_ne _ _ e]; exact h.lvd j L q
 ·intro j e' n q
  by_cases ej : j = t
  ·subst ej
   rw [upd_same] at q; injection q with q; injection q with q1 q2; subst q1; subst q2
   refine ⟨v, xs0, upd_same _ _ _, .inr (own_mono ho h.kp.size), fun b hb => ⟨fun k q => ?_, fun o u q => ?_⟩⟩
   ·have hb2 := hnew b hb
    cases hq : obs k with
    | none => exact absurd hq (h.obd k b q)
    | some cs =>
     obtain ⟨b', _, _, h1, _, h3, _⟩ := h.obl k cs hq (h.obm k b q) (h.obr k b q)
     have q' : G.ob k = some b := q
     rw [q'] at h1; injection h1 with h1; subst h1
     have := heap_lt' h3; omega
   ·rcases q with q | q
    ·have := (h.fs b o u q).1; have := hnew b hb; omega
    ·exact hfr b o u hb q.2
  ·rw [upd_ne _ _ ej] at q
   obtain ⟨v', xs, h1, h2, h3⟩ := h'.lvl j e' n q
   exact ⟨v', xs, (by show upd G.lv t _ j = _; rw [upd_ne _ _ ej]; exact h1), h2, h3⟩
 ·intro j j' L L' b q q' h1 h2
  rcases hlv j L q with ⟨e1, r1⟩ | ⟨e1, q1⟩ <;> rcases hlv j' L' q' with ⟨e2, r2⟩ | ⟨e2, q2⟩
  ·rw [e1, e2]
  ·subst r1; have := hlvl j' L' b q2 h2; have := hnew b h1; omega
  ·subst r2; have := hlvl j L b q1 h1; have := hnew b h2; omega
  ·exact h.lvi j j' L L' b q1 q2 h1 h2
 ·obtain ⟨e', es, xs, h1, h2, h3, h4, h5, h6⟩ := h'.rvl k L q
  refine ⟨e', es, xs, h1, h2, h3, h4, h5, fun b hb => ⟨(h6 b hb).1, (h6 b hb).2.1, fun j L' q' => ?_⟩⟩
  rcases hlv j L' q' with ⟨_, rfl⟩ | ⟨_, q'⟩
  ·intro hb2
   obtain ⟨_, _, _, _, _, _, g4, _⟩ := h.rvl k L q
   have := (g4.lt b hb).2; have := hnew b hb2; omega
  ·exact (h6 b hb).2.2 j L' q'
end
theorem rowV_full {P : Program} {w0 w : World} {G : Cx} {obs : Nat → Option (List V)} {lns : Nat → Option (TypeId × Nat)} (h : HRp P w0 w G obs lns) {k : Nat} (hk : obs k = none) {ty : TypeId} {len : Nat} {parts : List (Nat × V)} {us : List (Nat × Value)} {y : V} {f : Ef}
  (hl : parts.length = us.length) (hp : ∀ (i : Nat) (p : Nat × V) (q : Nat × Value), parts[i]? = some p → us[i]? = some q → p.1 = q.1 ∧ rel G p.2 q.2) {es : List (List D)} (hr : rowV P ty len k parts = some (.full es, .none)) :
  ∃ e ws sz, P.underlying ty = some (.slice e) ∧ sizeT P e = some sz ∧ ws.length = len * sz ∧ okLen (len * sz) = true ∧ es.length = len ∧ (∀ (i : Nat) (c : List D), es[i]? = some c → c.length = sz) ∧ (Instr.buildSlice ty len ⟨us⟩).run P w = .ok (.slice (some ⟨w.heap.size, 0, none⟩) len len) (w.alloc (.cells ⟨ws⟩ e)) ∧ relD (G.withF (fresh w (w.alloc (.cells ⟨ws⟩ e)))).F (.list es) (.slice (some ⟨w.heap.size, 0, none⟩) len len) := by
 unfold rowV at hr
 split at hr
 ·rename_i e hu
  split at hr
  ·rename_i sz z hs hz
   split at hr
   ·rename_i zs hzs
    split at hr
    ·rename_i hc
     split at hr
     ·rename_i out hf
      obtain ⟨zv, z1, z2, _⟩ := zeroV_ok hz G w
      have hzr := cells_rel z2 hzs
      have hzl : zv.cells.size = sz := by rw [← hc.1, hzr.1]; simp
      -- the cells ahead of the parts
      have hini : rels G (reps len zs) ((List.range (len * sz)).map fun q => zv.cells[q % sz]!) := by
       refine ⟨by simp [reps_len, hc.1], fun i x v h1 h2 => ?_⟩
       have h3 := reps_at zs x len i h1
       have hi : i < len * sz := by have := getElem_lt h1; rw [reps_len, hc.1] at this; exact this
       rw [List.getElem?_map, List.getElem?_range hi] at h2
       simp at h2
       have hsz : 0 < sz := Nat.pos_of_ne_zero (fun e => by subst e; simp at hi)
       have hm2 : i % sz < zv.cells.size := by rw [hzl]; exact Nat.mod_lt _ hsz
       rw [hc.1] at h3
       subst h2
       refine hzr.2 (i % sz) x _ h3 ?_
       rw [List.getElem?_eq_getElem (by simpa using hm2)]
       simp [hm2]
      obtain ⟨ws, w1, w2⟩ := fillV_ok parts us _ _ out hf hini hl hp
      have hol : out.length = len * sz ∧ ws.length = len * sz := by
       have : ∀ (parts : List (Nat × V)) (cells out : List V), fillV (fun i => some (i * sz, sz)) cells parts = some out → out.length = cells.length := by
        intro parts
        induction parts with
        | nil => intro cells out h; simp only [fillV] at h; injection h with h; rw [h]
        | cons p rest ih =>
         intro cells out h
         obtain ⟨i, x⟩ := p
         unfold fillV at h
         split at h
         ·split at h
          ·rename_i hcc
           rw [ih _ _ h]
           simp [splice]; omega
          ·cases h
         ·cases h
       have h1 := this _ _ _ hf
       rw [reps_len, hc.1] at h1
       exact ⟨h1, by rw [← w2.1]; exact h1⟩
      have hrun : (Instr.buildSlice ty len ⟨us⟩).run P w = .ok (.slice (some ⟨w.heap.size, 0, none⟩) len len) (w.alloc (.cells ⟨ws⟩ e)) := by
       have hbig : ¬ (len * sz > 2 ^ 24) := by have := okLen_le hc.2; omega
       by_cases h0 : len * sz = 0
       ·have hw : Instr.fill (fun i => some (i * sz, sz)) ((Array.range (len * sz)).map fun q => (#[] : Array Value)[q % 0]!) us = some ⟨ws⟩ := by
         rw [← w1]; congr 1; apply Array.ext'; simp [h0]
        simp only [Instr.buildSlice, Sem.run_bind, run_underlying hu, Result.andThen_ok, run_size hs, Sem.run_ite, hbig, if_false, h0, if_true, Sem.run_pure]
        have hw' : Instr.fill (fun i => some (i * sz, sz)) ((Array.range 0).map fun q => (#[] : Array Value)[q % (#[] : Array Value).size]!) us = some ⟨ws⟩ := by
         rw [← hw]; congr 1; apply Array.ext'; simp [h0]
        rw [if_neg (by simp)]
        simp only [Sem.run_pure, Result.andThen_ok, hw']
        simp only [Sem.run_bind, run_row, Result.andThen_ok, Sem.run_pure]
       ·have hw : Instr.fill (fun i => some (i * sz, sz)) ((Array.range (len * sz)).map fun q => zv.cells[q % zv.cells.size]!) us = some ⟨ws⟩ := by
         rw [← w1]; congr 1; apply Array.ext'; simp [hzl]
        simp only [Instr.buildSlice, Sem.run_bind, run_underlying hu, Result.andThen_ok, run_size hs, Sem.run_ite, hbig, if_false, h0, Sem.run_pure, z1, hw]
        simp only [Sem.run_bind, run_row, Result.andThen_ok, Sem.run_pure]
      split at hr
      ·rename_i ds hd
       injection hr with hr; injection hr with e1 e2; injection e1 with e1; subst e1
       obtain ⟨d1, d2⟩ := datas_rel w2 hd
       have hrow := fresh_row (G := G) (w := w) (e := e) (sz := sz) (len := len) d1 d2 (by rw [d1]; exact hol.2.symm)
       exact ⟨e, ws, sz, hu, hs, hol.2, hc.2, chunks_len sz len ds, (fun i c hc => (chunks_at sz len ds i 0 c (by rw [d1, hol.2]; exact Nat.le_refl _) hc).1), hrun, hrow⟩
      ·injection hr with hr; injection hr with e1 e2; cases e1
     ·cases hr
    ·cases hr
   ·cases hr
  ·cases hr
 ·cases hr
section
variable {P : Program} {g : Pg P} {d : Option Tmp} {t ty : TypeId} {p : String} {af : Array Edge} {gd : Option (Nat × Bool)} {fr : Fr} {s : Sg} {R : V → Sg → Prop}
theorem alt_litOwn {e : TypeId} {sz len : Nat} {parts : Array (Nat × Operand)} {es : List (List D)} (ht : appT P t = some (e, sz)) (hr : rowV P t len s.obs.length (parts.toList.map fun p => (p.1, evalO fr p.2)) = some (.full es, .none)) (hpos : 0 < len) (h : R (.own s.lns.length es) ⟨s.obs, s.lns ++ [(e, es.length)]⟩) : altR g ⟨d, .buildSlice t len parts, ty, p, af, gd⟩ fr s R := by
  intro w0 w G a hH hfr
  obtain ⟨i, z, hu, hi, hiz, z1, z2, z3, z4⟩ := appT_parts ht
  have hce : P.cellsOf e = sz := by simp [Program.cellsOf, hi, z2]
  obtain ⟨e', ws, sz', hu', hs', hwl, hok, hel, hcs, hrun, hrel⟩ := rowV_full (y := .undef) (f := .none) (G := G) (us := parts.toList.map fun p => (p.1, a.eval p.2)) hH (k := s.obs.length) (by simp) (by simp) (fun i p q h1 h2 => by
    rw [List.getElem?_map] at h1 h2
    cases hq : parts.toList[i]? with
    | none => rw [hq] at h1; cases h1
    | some x =>
      rw [hq] at h1 h2
      injection h1 with h1; injection h2 with h2
      subst h1; subst h2
      exact ⟨rfl, evalO_rel hfr _⟩) hr
  have he : e' = e := by rw [hu] at hu'; injection hu' with hu'; injection hu' with hu'; exact hu'.symm
  subst he
  have hsz : sz' = P.cellsOf e' := by
    unfold sizeT at hs'
    rw [hi] at hs'
    simp [Program.cellsOf, hi]
    simpa using hs'.symm
  subst hsz
  have hb := okLen_le hok
  have hlen : len ≤ maxLen := by
    rcases Nat.eq_zero_or_pos (P.cellsOf e') with q | q
    · exfalso; rw [hce] at q; omega
    · have := Nat.le_mul_of_pos_right len q
      unfold maxLen; omega
  have hown : (w.alloc (.cells ⟨ws⟩ e')).ownsRow w.heap.size e' (P.cellsOf e') (.slice (some ⟨w.heap.size, 0, none⟩) len len) len ws := ⟨hwl, .inr ⟨w.heap.size, len, ⟨ws⟩, rfl, Nat.le_refl _, heap_alloc_new w _, Nat.le_refl _, hlen, by simpa using hwl, by simpa using List.take_of_length_le (Nat.le_of_eq hwl)⟩⟩
  obtain ⟨hle, hN⟩ := hH.beginRowN ((Kp.refl w).alloc _) s.lns.length (by simp) e' hown (fun b o u hb hc => by
    have hb' : w.heap.size = b := by simpa [Value.ownBlock] using hb
    subst hb'
    rw [World.cell?_alloc_new] at hc
    have := Array.getElem?_eq_some_iff.1 hc
    obtain ⟨q, _⟩ := this
    simpa [hwl] using q)
  rw [lns_push] at hN
  refine ⟨.value (.slice (some ⟨w.heap.size, 0, none⟩) len len), _, .own s.lns.length es, ⟨s.obs, s.lns ++ [(e', es.length)]⟩, { G.withF (fresh w (w.alloc (.cells ⟨ws⟩ e'))) with lv := upd G.lv s.lns.length ⟨len, P.cellsOf e', .slice (some ⟨w.heap.size, 0, none⟩) len len⟩ }, ?_, .inl ⟨_, rfl, .own _ es _ hrel _ (upd_same _ _ _) hcs (.inl ⟨hel, rfl⟩)⟩, hle, by rw [hel]; exact hN, h⟩
  have hm : parts.map (fun x => (x.1, a.eval x.2)) = ⟨parts.toList.map fun x => (x.1, a.eval x.2)⟩ := by
    apply Array.toList_inj.1
    simp
  simp [execOp]
  rw [hm, hrun]
  rfl
end
section
variable {P : Program} {g : Pg P} {d : Option Tmp} {t ty : TypeId} {p : String} {af : Array Edge} {gd : Option (Nat × Bool)} {fr : Fr} {s : Sg} {R : V → Sg → Prop}
end
section
variable {P : Program}
theorem HRp.beginRowP {w0 w w' : World} {G : Cx} {obs : Nat → Option (List V)} {lns : Nat → Option (TypeId × Nat)} (h : HRp P w0 w G obs lns) (hk : Kp w w') (t : Nat) (ht : lns t = none) (e : TypeId) {v : Value} {n0 : Nat} {xs0 : List Value} (ho : w'.ownsRow w.heap.size e (P.cellsOf e) v n0 xs0) :
  let G' : Cx := { G with F := fun b o u => G.F b o u ∨ (fresh w w' b o u ∧ (v.ownBlock = some b → o < n0 * P.cellsOf e)), lv := upd G.lv t ⟨n0, P.cellsOf e, v⟩ }
  G.le G' ∧ HRp P w0 w' G' obs (upd lns t (e, n0)) := by
 intro G'
 have h' := h.kept hk
 have hnone : G.lv t = none := by
  cases hq : G.lv t with
  | none => rfl
  | some b => exact absurd ht (h.lvd t b hq)
 have hlv : ∀ j L, G'.lv j = some L → (j = t ∧ L = ⟨n0, P.cellsOf e, v⟩) ∨ (j ≠ t ∧ G.lv j = some L) := by
  intro j L q
  have q' : upd G.lv t ⟨n0, P.cellsOf e, v⟩ j = some L := q
  by_cases e : j = t
  ·subst e; rw [upd_same] at q'; injection q' with q'; exact .inl ⟨rfl, q'.symm⟩
  ·rw [upd_ne _ _ e] at q'; exact .inr ⟨e, q'⟩
 have hnew : ∀ b, v.ownBlock = some b → w.heap.size ≤ b := fun b hb => (ho.lt b hb).1
 have hle : G.le G' := by
  refine ⟨rfl, fun _ _ _ q => .inl q, fun _ _ q => q, fun j L q => ⟨L, ?_, rfl, .inl rfl⟩, fun _ _ q => q, fun _ L q => ⟨L, q, rfl, .inl rfl⟩, fun _ _ q => q⟩
  show upd G.lv t _ j = some L
  rw [upd_ne _ _ (fun e => by rw [e, hnone] at q; cases q)]; exact q
 have hlvl : ∀ j L b, G.lv j = some L → L.v.ownBlock = some b → b < w.heap.size := by
  intro j L b q hb
  cases hq : lns j with
  | none => exact absurd hq (h.lvd j L q)
  | some en =>
   obtain ⟨v', xs', h1, h2, _⟩ := h.lvl j en.1 en.2 hq
   rw [q] at h1; injection h1 with h1; subst h1
   exact (holds_lt h2 b hb).2
 have hobl : ∀ k b, G.ob k = some b → b < w.heap.size := by
  intro k b q
  cases hq : obs k with
  | none => exact absurd hq (h.obd k b q)
  | some cs =>
   obtain ⟨b', _, _, h1, _, h3, _⟩ := h.obl k cs hq (h.obm k b q) (h.obr k b q)
   rw [q] at h1; injection h1 with h1; subst h1
   exact heap_lt' h3
 have hrvl : ∀ k L b, G.rv k = some L → L.v.ownBlock = some b → b < w.heap.size := by
  intro k L b q hb
  obtain ⟨_, _, _, _, _, _, g4, _⟩ := h.rvl k L q
  exact (g4.lt b hb).2
 refine ⟨hle, h'.kp, ?_, ?_, h'.obd, ?_, h'.obi, ?_, ?_, ?_, h'.gb.mono fun _ _ _ q => .inl q, h'.obm, ?_, h'.mpi, h'.obr, fun k L q => ?_, h'.rvi, h'.tgs⟩
 ·rintro b o u (q | ⟨q, _⟩)
  ·exact h'.fs b o u q
  ·exact ⟨cell_lt q.2, q.2⟩
 ·rintro b o u (q | ⟨q, _⟩)
  ·exact h'.fb b o u q
  ·exact .inr (Nat.le_trans h.kp.size q.1)
 ·intro k cs q hm hrv
  obtain ⟨b, vs, t', h1, h2, h3, h4, h5⟩ := h'.obl k cs q hm hrv
  refine ⟨b, vs, t', h1, h2, h3, rels_mono hle h4, ?_⟩
  rintro o u (q | ⟨q, _⟩)
  ·exact h5 o u q
  ·have := q.1; have := hobl k b h1; omega
 ·intro j L q
  rcases hlv j L q with ⟨rfl, _⟩ | ⟨e, q⟩
  ·rw [upd_same]; simp
  ·rw [upd_ne _ _ e]; exact h.lvd j L q
 ·intro j e' n q
  by_cases ej : j = t
  ·subst ej
   rw [upd_same] at q; injection q with q; injection q with q1 q2; subst q1; subst q2
   refine ⟨v, xs0, upd_same _ _ _, .inr (own_mono ho h.kp.size), fun b hb => ⟨fun k q => ?_, fun o u q => ?_⟩⟩
   ·have := hnew b hb; have := hobl k b q; omega
   ·rcases q with q | q
    ·have := (h.fs b o u q).1; have := hnew b hb; omega
    ·exact q.2 hb
  ·rw [upd_ne _ _ ej] at q
   obtain ⟨v', xs, h1, h2, h3⟩ := h'.lvl j e' n q
   refine ⟨v', xs, (by show upd G.lv t _ j = _; rw [upd_ne _ _ ej]; exact h1), h2, fun b hb => ⟨(h3 b hb).1, fun o u q => ?_⟩⟩
   rcases q with q | ⟨q, _⟩
   ·exact (h3 b hb).2 o u q
   ·have := q.1; have := hlvl j _ b h1 hb; omega
 ·intro j j' L L' b q q' h1 h2
  rcases hlv j L q with ⟨e1, r1⟩ | ⟨e1, q1⟩ <;> rcases hlv j' L' q' with ⟨e2, r2⟩ | ⟨e2, q2⟩
  ·rw [e1, e2]
  ·subst r1; have := hlvl j' L' b q2 h2; have := hnew b h1; omega
  ·subst r2; have := hlvl j L b q1 h1; have := hnew b h2; omega
  ·exact h.lvi j j' L L' b q1 q2 h1 h2
 ·intro j b q
  obtain ⟨h1, es', n', ik', kvs', h2, h3, h4⟩ := h'.mpl j b q
  exact ⟨h1, es', n', ik', kvs', h2, h3, relM_mono (fun _ _ _ q => .inl q) h4⟩
 ·obtain ⟨e', es, xs, h1, h2, h3, h4, h5, h6⟩ := h'.rvl k L q
  refine ⟨e', es, xs, h1, h2, h3, h4, relRow_mono (fun _ _ _ q => .inl q) h5, fun b hb => ⟨(h6 b hb).1, ?_, fun j L' q' => ?_⟩⟩
  ·rintro o u (q' | ⟨q', _⟩)
   ·exact (h6 b hb).2.1 o u q'
   ·have := q'.1; have := hrvl k L b q hb; omega
  ·rcases hlv j L' q' with ⟨_, rfl⟩ | ⟨_, q'⟩
   ·intro hb2
    have := hrvl k L b q hb; have := hnew b hb2; omega
   ·exact (h6 b hb).2.2 j L' q'
end
def SpecO {P : Program} (_ : Pg P) (f : FuncId) (args : List V) (e : TypeId) (es : List (List D)) : Prop :=
 enterable P f = true ∧ ∀ (w : World) (F : Nat → Nat → Value → Prop) (vs : List Value), (∀ b o v, F b o v → b < w.heap.size ∧ w.cell? ⟨b, o, none⟩ = some v) → GlobOk w F → rels (bareG F) args vs →
  Calls P f ⟨vs⟩ w fun en w' => ∃ v xs F2, en = .returned v ∧ Kp w w' ∧ w'.ownsRow w.heap.size e (P.cellsOf e) v es.length xs ∧ (∀ (i : Nat) (c : List D), es[i]? = some c → c.length = P.cellsOf e) ∧ relD F2 (.list es) v ∧ ∀ b o u, F2 b o u → F b o u ∨ (fresh w w' b o u ∧ (v.ownBlock = some b → o < es.length * P.cellsOf e))
section
variable {P : Program} {g : Pg P} {s : Sg} {R : V → Sg → Prop}
theorem SpecO.toS {f : FuncId} {args args' : List V} {e : TypeId} {es : List (List D)} (h : SpecO g f args' e es) (ha : args.map V.clean = args') (hR : R (.own s.lns.length es) ⟨s.obs, s.lns ++ [(e, es.length)]⟩) : SpecS g f args s R := by
 subst ha
 refine ⟨h.1, fun w0 w G vs hH hr => ?_⟩
 refine (h.2 w G.F vs hH.fs (hH.gb.kp hH.kp) ?_).mono ?_
 ·refine ⟨by simp [hr.1], fun i x v h1 h2 => ?_⟩
  rw [List.getElem?_map] at h1
  cases hq : args[i]? with
  | none => rw [hq] at h1; cases h1
  | some y => rw [hq] at h1; simp at h1; subst h1; exact clean_rel (hr.2 i y v hq h2) G.F (fun _ _ _ q => q)
 ·rintro en w' ⟨v, xs, F2, rfl, hk, ho, hel, hx, hF⟩
  obtain ⟨hle, hN⟩ := HRp.beginRowP hH hk s.lns.length (by simp) e ho
  rw [lns_push] at hN
  exact ⟨v, .own s.lns.length es, ⟨s.obs, s.lns ++ [(e, es.length)]⟩, _, rfl, hle, hN, .own _ es v (relD_mono hF hx) ⟨es.length, P.cellsOf e, v⟩ (upd_same _ _ _) hel (.inl ⟨rfl, rfl⟩), hR⟩
end
end Go.Proofs.YtopjpenbieojmaaDoor
