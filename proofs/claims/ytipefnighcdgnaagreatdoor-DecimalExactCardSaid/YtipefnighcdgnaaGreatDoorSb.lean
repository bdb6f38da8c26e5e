import Derived.Test.YtipefnighcdgnaaGreatDoorSa
namespace Go.Proofs.YtipefnighcdgnaaGreatDoor
open Go.RowKit
def upd {α : Type} (f : Nat → Option α) (k : Nat) (c : α) : Nat → Option α := fun j => if j = k then some c else f j
theorem upd_same {α : Type} (f : Nat → Option α) (k : Nat) (c : α) : upd f k c k = some c := by simp [upd]
theorem upd_ne {α : Type} (f : Nat → Option α) {j k : Nat} (c : α) (h : j ≠ k) : upd f k c j = f j := by simp [upd, h]
theorem HRp.new {P : Program} {w0 w : World} {G : Cx} {obs : Nat → Option (List V)} {lns : Nat → Option (TypeId × Nat)} (h : HRp P w0 w G obs lns) (k : Nat) (hk : obs k = none) (cs : List V) (vs : List Value) (t : TypeId) (hr : rels G cs vs) :
  let G' : Cx := { G with ob := upd G.ob k w.heap.size }
  G.le G' ∧ HRp P w0 (w.alloc (.cells ⟨vs⟩ t)) G' (upd obs k cs) lns := by
 intro G'
 have hnone : G.ob k = none := by
  cases hq : G.ob k with
  | none => rfl
  | some b => exact absurd hk (h.obd k b hq)
 have hle : G.le G' := by
  refine ⟨rfl, fun _ _ _ q => q, fun j b q => ?_, fun _ L q => ⟨L, q, rfl, .inl rfl⟩, fun _ _ q => q, fun _ L q => ⟨L, q, rfl, .inl rfl⟩, fun _ _ q => q⟩
  show upd G.ob k w.heap.size j = some b
  rw [upd_ne _ _ (fun e => by rw [e, hnone] at q; cases q)]; exact q
 have hkp : Kp w (w.alloc (.cells ⟨vs⟩ t)) := (Kp.refl w).alloc _
 have hob : ∀ j b, G'.ob j = some b → (j = k ∧ b = w.heap.size) ∨ (j ≠ k ∧ G.ob j = some b) := by
  intro j b q
  by_cases e : j = k
  ·left
   subst e
   have q' : upd G.ob j w.heap.size j = some b := q
   rw [upd_same] at q'
   injection q' with q'
   exact ⟨rfl, q'.symm⟩
  ·right
   have q' : upd G.ob k w.heap.size j = some b := q
   rw [upd_ne _ _ e] at q'
   exact ⟨e, q'⟩
 have hlt : ∀ j b, G.ob j = some b → b < w.heap.size := by
  intro j b q
  cases hq : obs j with
  | none => exact absurd hq (h.obd j b q)
  | some cs =>
   obtain ⟨b', vs', t', h1, _, h3, _⟩ := h.obl j cs hq (h.obm j b q) (h.obr j b q)
   rw [q] at h1; injection h1 with h1; subst h1
   exact heap_lt' h3
 have hmk : G.mp k = none := by
  cases hq : G.mp k with
  | none => rfl
  | some b => obtain ⟨_, _, _, _, _, h2, _⟩ := h.mpl k b hq; rw [hk] at h2; cases h2
 have hrk : G.rv k = none := by
  cases hq : G.rv k with
  | none => rfl
  | some L => obtain ⟨_, _, _, h1, _⟩ := h.rvl k L hq; rw [hk] at h1; cases h1
 refine ⟨hle, h.kp.trans hkp, ?_, h.fb, ?_, ?_, ?_, h.lvd, ?_, h.lvi, h.gb, ?_, ?_, h.mpi, ?_, ?_, h.rvi, fun b t q => tk_kp hkp _ _ (h.tgs b t q)⟩
 ·intro b o v q
  have := h.fs b o v q
  exact ⟨Nat.lt_of_lt_of_le this.1 hkp.size, (hkp.see.1 b o this.1).trans this.2⟩
 ·intro j b q
  rcases hob j b q with ⟨rfl, _⟩ | ⟨e, q⟩
  ·rw [upd_same]; simp
  ·rw [upd_ne _ _ e]; exact h.obd j b q
 ·intro j cs' q hm hrv
  by_cases e : j = k
  ·subst e
   rw [upd_same] at q
   injection q with q
   subst q
   refine ⟨w.heap.size, vs, t, upd_same _ _ _, h.kp.size, heap_alloc_new w _, rels_mono hle hr, fun o v q => ?_⟩
   have := (h.fs _ _ _ q).1
   omega
  ·rw [upd_ne _ _ e] at q
   obtain ⟨b, vs', t', h1, h2, h3, h4, h5⟩ := h.obl j cs' q hm hrv
   exact ⟨b, vs', t', hle.ob _ _ h1, h2, (hkp.below.block b (heap_lt' h3)).trans h3, rels_mono hle h4, h5⟩
 ·intro j j' b q q'
  rcases hob j b q with ⟨e1, e2⟩ | ⟨e1, q1⟩ <;> rcases hob j' b q' with ⟨e3, e4⟩ | ⟨e3, q2⟩
  ·rw [e1, e3]
  ·exact absurd (hlt _ _ q2) (by omega)
  ·exact absurd (hlt _ _ q1) (by omega)
  ·exact h.obi j j' b q1 q2
 ·intro t' e n q
  obtain ⟨v, xs, h1, h2, h3⟩ := h.lvl t' e n q
  refine ⟨v, xs, h1, holds_kp h2 hkp, fun b hb => ⟨fun j q => ?_, (h3 b hb).2⟩⟩
  rcases hob j b q with ⟨_, rfl⟩ | ⟨_, q⟩
  ·exact absurd (holds_lt h2 _ hb).2 (by omega)
  ·exact (h3 b hb).1 j q
 ·intro j b q
  rcases hob j b q with ⟨rfl, _⟩ | ⟨_, q⟩
  ·exact hmk
  ·exact h.obm j b q
 ·intro j b q
  obtain ⟨h1, es, n, ik, kvs, h2, h3, h4⟩ := h.mpl j b q
  have hj : j ≠ k := fun e => by rw [e] at h2; rw [hk] at h2; cases h2
  exact ⟨h1, es, n, ik, kvs, by rw [upd_ne _ _ hj]; exact h2, (hkp.below.block b (heap_lt' h3)).trans h3, h4⟩
 ·intro j b q
  rcases hob j b q with ⟨rfl, _⟩ | ⟨_, q⟩
  ·exact hrk
  ·exact h.obr j b q
 ·intro j L q
  obtain ⟨e, es, xs, h1, h2, h3, h4, h5, h6⟩ := h.rvl j L q
  have hj : j ≠ k := fun e => by rw [e] at h1; rw [hk] at h1; cases h1
  refine ⟨e, es, xs, by rw [upd_ne _ _ hj]; exact h1, h2, h3, own_kp h4 hkp, h5, fun b hb => ⟨fun j' q' => ?_, (h6 b hb).2⟩⟩
  rcases hob j' b q' with ⟨_, rfl⟩ | ⟨_, q'⟩
  ·exact absurd (h4.lt _ hb).2 (by omega)
  ·exact (h6 b hb).1 j' q'
theorem HRp.put {P : Program} {w0 w w' : World} {G : Cx} {obs : Nat → Option (List V)} {lns : Nat → Option (TypeId × Nat)} (h : HRp P w0 w G obs lns) {k b : Nat} (hk : G.ob k = some b) (hg : w.grownBy w' (some b)) (hkt : TK w w') {cs : List V} {vs : List Value} {t : TypeId} (hb : w'.heap[b]? = some (.cells ⟨vs⟩ t (0, 0))) (hr : rels G cs vs) :
  HRp P w0 w' G (upd obs k cs) lns := by
 have hcs : ∃ cs0, obs k = some cs0 := by
  cases hq : obs k with
  | none => exact absurd hq (h.obd k b hk)
  | some c => exact ⟨c, rfl⟩
 obtain ⟨cs0, hq⟩ := hcs
 obtain ⟨b', vs0, t0, g1, g2, g3, g4, g5⟩ := h.obl k cs0 hq (h.obm k b hk) (h.obr k b hk)
 rw [hk] at g1; injection g1 with g1; subst g1
 have hbk : ∀ b', b' < w.heap.size → b' ≠ b → w'.heap[b']? = w.heap[b']? := fun b' hl hn => hg.block b' hl (fun e => hn (by injection e))
 refine ⟨h.kp.grown hg (fun j hj => by injection hj with hj; subst hj; exact g2), ?_, h.fb, ?_, ?_, h.obi, h.lvd, ?_, h.lvi, h.gb, h.obm, ?_, h.mpi, h.obr, ?_, h.rvi, fun b t q => hkt _ _ (h.tgs b t q)⟩
 ·intro b' o v q
  have q1 := h.fs b' o v q
  have hne : b' ≠ b := fun e => by subst e; exact g5 o v q
  exact ⟨Nat.lt_of_lt_of_le q1.1 hg.size, (World.cell?_of_block (a := ⟨b', o, none⟩) (hbk b' q1.1 hne)).trans q1.2⟩
 ·intro j b' q
  by_cases e : j = k
  ·subst e; rw [upd_same]; simp
  ·rw [upd_ne _ _ e]; exact h.obd j b' q
 ·intro j cs' q hm hrv
  by_cases e : j = k
  ·subst e
   rw [upd_same] at q; injection q with q; subst q
   exact ⟨b, vs, t, hk, g2, hb, hr, g5⟩
  ·rw [upd_ne _ _ e] at q
   obtain ⟨b', vs', t', h1, h2, h3, h4, h5⟩ := h.obl j cs' q hm hrv
   have hne : b' ≠ b := fun e' => e (h.obi j k b (e' ▸ h1) hk)
   exact ⟨b', vs', t', h1, h2, (hbk b' (heap_lt' h3) hne).trans h3, h4, h5⟩
 ·intro t' e n q
  obtain ⟨v, xs, h1, h2, h3⟩ := h.lvl t' e n q
  refine ⟨v, xs, h1, ?_, h3⟩
  refine holds_kept h2 hg (.inr fun hv => (h3 b hv).1 k hk)
 ·intro j b' q
  obtain ⟨h1, es, n, ik, kvs, h2, h3, h4⟩ := h.mpl j b' q
  have hj : j ≠ k := fun e => by rw [e, h.obm k b hk] at q; cases q
  have hne : b' ≠ b := fun e => by rw [e, g3] at h3; cases h3
  exact ⟨h1, es, n, ik, kvs, by rw [upd_ne _ _ hj]; exact h2, (hbk b' (heap_lt' h3) hne).trans h3, h4⟩
 ·intro j L q
  obtain ⟨e, es, xs, h1, h2, h3, h4, h5, h6⟩ := h.rvl j L q
  have hj : j ≠ k := fun e => by rw [e, h.obr k b hk] at q; cases q
  exact ⟨e, es, xs, by rw [upd_ne _ _ hj]; exact h1, h2, h3, h4.kept hg (.inr fun hv => (h6 b hv).1 k hk), h5, h6⟩
theorem run_append_any {P : Program} (w : World) (t ty e : TypeId) (i : TypeInfo) (z : Value) (base : Nat) (ht : P.underlying t = some (.slice e)) (hi : P.info? e = some i) (hz : i.zero = some z)
  (hzs : z.cells.size = i.size) (v : Value) (n : Nat) (xs : List Value) (hown : w.ownsRow base e i.size v n xs)
  (a : Addr) (m c : Nat) (news : List Value) (hl : news.length = m * i.size) (hnews : ∀ j u, news[j]? = some u → w.cell? (a.add j) = some u) (h1 : ∀ u ∈ news, u.oneCell' = true)
  (hm : 0 < m) (h63 : n + m ≤ maxLen) (hbytes : (n + m) * i.bytes ≤ 140737488355328) (hbase : base ≤ w.heap.size) :
  ∃ g cap w', (Builtin.append_ #[t, t] ty #[v, .slice (some a) m c]).run P w = .ok (.slice (some ⟨g, 0, none⟩) (n + m) cap) w' ∧
   w'.ownsRow base e i.size (.slice (some ⟨g, 0, none⟩) (n + m) cap) (n + m) (xs ++ news) ∧ ((v.ownBlock = some g ∧ w.grownBy w' (some g)) ∨ (g = w.heap.size ∧ Kp w w')) := by
 have hsmall : n + m ≤ 9223372036854775807 := by simp only [maxLen] at h63; omega
 have hlen : (xs ++ news).length = (n + m) * i.size := by rw [List.length_append, hown.1, hl, Nat.add_mul]
 have grown : ∀ (old : Nat), old < n + m →
   (w.drew.alloc (.cells (xs.toArray ++ news.toArray ++ Builtin.zeroCells z.cells (grownCap w (n + m) old e - (n + m))) e)).ownsRow base e i.size
    (.slice (some ⟨w.heap.size, 0, none⟩) (n + m) (grownCap w (n + m) old e)) (n + m) (xs ++ news) := by
  intro old ho
  have hge := grownCap_ge w (n + m) old e
  have hcm : grownCap w (n + m) old e ≤ maxLen := grownCap_le_maxLen w (n + m) old e h63
  refine ⟨hlen, .inr ⟨w.heap.size, _, _, rfl, hbase, heap_alloc_new w.drew _, hge, hcm, ?_, ?_⟩⟩
  ·simp only [Array.size_append, List.size_toArray, size_zeroCells, hzs, hown.1, hl, ← Nat.add_mul]
   congr 1
   omega
  ·simp only [Array.toList_append, List.append_assoc]
   rw [← List.append_assoc, ← hlen]
   exact List.take_left
 rcases hown.2 with ⟨rfl, rfl⟩ | ⟨g, cap, cur, rfl, hbg, hg, hnc, hcm, hcs, htake⟩
 ·have hx : xs = [] := List.eq_nil_of_length_eq_zero (by simpa using hown.1)
  subst hx
  have hr := run_append_nil (P := P) w t ty e i z ht hi hz a m c news hl hnews (by omega) (by omega) (by have hb := hbytes; simp only [Nat.zero_add] at hb; omega)
  have hgr := grown 0 (by omega)
  simp only [Nat.zero_add, List.nil_append, Array.empty_append] at hgr ⊢
  exact ⟨_, _, _, hr, hgr, .inr ⟨rfl, ((Kp.refl w).drew).alloc _⟩⟩
 ·by_cases hroom : n + m ≤ cap
  ·have hfit : n * i.size + news.length ≤ cur.size := by rw [hl, hcs, ← Nat.add_mul]; exact Nat.mul_le_mul_right _ hroom
   have hr := run_append_room (P := P) w t ty e i ht hi g n cap cur hg a m c news hl hnews h1 hroom hfit
   refine ⟨_, _, _, hr, ⟨hlen, .inr ⟨g, cap, _, rfl, hbg, setRow_heap w g cur _ e _ hg, hroom, hcm, ?_, ?_⟩⟩, .inl ⟨rfl, ⟨rfl, rfl, rfl, by simp, fun k _ hk => setRow_other w g k _ (fun e => hk (by simp [e]))⟩⟩⟩
   ·simp only [List.size_toArray, List.length_append, List.length_take, List.length_drop, Array.length_toList]
    omega
   ·rw [htake, ← hlen]
    exact List.take_left
  ·have holds : ∀ j u, xs[j]? = some u → w.cell? ((⟨g, 0, none⟩ : Addr).add j) = some u := hown.cells (g := g) rfl
   have hr := run_append_grow (P := P) w t ty e i z ht hi hz ⟨g, 0, none⟩ n cap xs hown.1 holds a m c news hl hnews (by omega) (by omega) (growslice_fits (by omega) hbytes)
   have hgr := grown cap (by omega)
   exact ⟨_, _, _, hr, hgr, .inr ⟨rfl, ((Kp.refl w).drew).alloc _⟩⟩
theorem HRp.begin {P : Program} {w0 w : World} {G : Cx} {obs : Nat → Option (List V)} {lns : Nat → Option (TypeId × Nat)} (h : HRp P w0 w G obs lns) (t : Nat) (ht : lns t = none) (e : TypeId) :
  let G' : Cx := { G with lv := upd G.lv t ⟨0, P.cellsOf e, .slice none 0 0⟩ }
  G.le G' ∧ HRp P w0 w G' obs (upd lns t (e, 0)) := by
 intro G'
 have hnone : G.lv t = none := by
  cases hq : G.lv t with
  | none => rfl
  | some b => exact absurd ht (h.lvd t b hq)
 have hlv : ∀ j L, G'.lv j = some L → (j = t ∧ L = ⟨0, P.cellsOf e, .slice none 0 0⟩) ∨ (j ≠ t ∧ G.lv j = some L) := by
  intro j L q
  have q' : upd G.lv t ⟨0, P.cellsOf e, .slice none 0 0⟩ j = some L := q
  by_cases e : j = t
  ·subst e; rw [upd_same] at q'; injection q' with q'; exact .inl ⟨rfl, q'.symm⟩
  ·rw [upd_ne _ _ e] at q'; exact .inr ⟨e, q'⟩
 have hle : G.le G' := by
  refine ⟨rfl, fun _ _ _ q => q, fun _ _ q => q, fun j L q => ⟨L, ?_, rfl, .inl rfl⟩, fun _ _ q => q, fun _ L q => ⟨L, q, rfl, .inl rfl⟩, fun _ _ q => q⟩
  show upd G.lv t _ j = some L
  rw [upd_ne _ _ (fun e => by rw [e, hnone] at q; cases q)]; exact q
 refine ⟨hle, h.kp, h.fs, h.fb, h.obd, ?_, h.obi, ?_, ?_, ?_, h.gb, h.obm, h.mpl, h.mpi, h.obr, fun k L q => ?_, h.rvi, h.tgs⟩
 ·intro k cs q hm hrv
  obtain ⟨b, vs, t', h1, h2, h3, h4, h5⟩ := h.obl k cs q hm hrv
  exact ⟨b, vs, t', h1, h2, h3, rels_mono hle h4, h5⟩
 ·intro j L q
  rcases hlv j L q with ⟨rfl, _⟩ | ⟨e, q⟩
  ·rw [upd_same]; simp
  ·rw [upd_ne _ _ e]; exact h.lvd j L q
 ·intro j e' n q
  by_cases ej : j = t
  ·subst ej
   rw [upd_same] at q; injection q with q; injection q with q1 q2; subst q1; subst q2
   exact ⟨.slice none 0 0, [], upd_same _ _ _, .inr (World.ownsRow_nil _ _ _ _), fun b hb => by simp [Value.ownBlock] at hb⟩
  ·rw [upd_ne _ _ ej] at q
   obtain ⟨v, xs, h1, h2, h3⟩ := h.lvl j e' n q
   exact ⟨v, xs, (by show upd G.lv t _ j = _; rw [upd_ne _ _ ej]; exact h1), h2, h3⟩
 ·intro j j' L L' b q q' h1 h2
  rcases hlv j L q with ⟨_, rfl⟩ | ⟨_, q⟩
  ·simp [Value.ownBlock] at h1
  ·rcases hlv j' L' q' with ⟨_, rfl⟩ | ⟨_, q'⟩
   ·simp [Value.ownBlock] at h2
   ·exact h.lvi j j' L L' b q q' h1 h2
 ·obtain ⟨e', es, xs, h1, h2, h3, h4, h5, h6⟩ := h.rvl k L q
  refine ⟨e', es, xs, h1, h2, h3, h4, h5, fun b hb => ⟨(h6 b hb).1, (h6 b hb).2.1, fun j L' q' => ?_⟩⟩
  rcases hlv j L' q' with ⟨_, rfl⟩ | ⟨_, q'⟩
  ·simp [Value.ownBlock]
  ·exact (h6 b hb).2.2 j L' q'
theorem HRp.app {P : Program} {w0 w w' : World} {G : Cx} {obs : Nat → Option (List V)} {lns : Nat → Option (TypeId × Nat)} (h : HRp P w0 w G obs lns) {t n m g cap : Nat} {e : TypeId} {v : Value} {xs news : List Value} (hl : lns t = some (e, n)) (hv : G.lv t = some ⟨n, P.cellsOf e, v⟩)
  (hown : w.ownsRow w0.heap.size e (P.cellsOf e) v n xs) (hown' : w'.ownsRow w0.heap.size e (P.cellsOf e) (.slice (some ⟨g, 0, none⟩) (n + m) cap) (n + m) (xs ++ news)) (hm : 0 < m)
  (hat : (v.ownBlock = some g ∧ w.grownBy w' (some g)) ∨ (g = w.heap.size ∧ Kp w w')) :
  let G' : Cx := { base := G.base, F := fun b o u => G.F b o u ∨ (b = g ∧ o < (n + m) * P.cellsOf e ∧ w'.cell? ⟨g, o, none⟩ = some u), ob := G.ob, mp := G.mp, rv := G.rv, tg := G.tg, lv := upd G.lv t ⟨n + m, P.cellsOf e, .slice (some ⟨g, 0, none⟩) (n + m) cap⟩ }
  G.le G' ∧ HRp P w0 w' G' obs (upd lns t (e, n + m)) := by
 intro G'
 obtain ⟨v0, xs0, g1, g2, g3⟩ := h.lvl t e n hl
 rw [hv] at g1
 injection g1 with g1
 injection g1 with _ _ g1
 subst g1
 have hlt' : g < w'.heap.size := (hown'.lt g rfl).2
 -- blocks other than g are as they were
 have hblk : ∀ b, b < w.heap.size → b ≠ g → w'.heap[b]? = w.heap[b]? := by
  intro b hb hn
  rcases hat with ⟨_, hg⟩ | ⟨_, hk⟩
  ·exact hg.block b hb (fun e => hn (by injection e))
  ·exact hk.below.block b hb
 have hsize : w.heap.size ≤ w'.heap.size := by
  rcases hat with ⟨_, hg⟩ | ⟨_, hk⟩
  ·exact hg.size
  ·exact hk.size
 have hFg : ∀ o u, G.F g o u → o < n * P.cellsOf e ∧ w'.cell? ⟨g, o, none⟩ = some u := by
  intro o u q
  rcases hat with ⟨hb, hg⟩ | ⟨hb, hk⟩
  ·have ho := (g3 g hb).2 o u q
   refine ⟨ho, ?_⟩
   have hx : o < xs.length := by rw [hown.1]; exact ho
   have c1 := hown.cells hb o xs[o] (List.getElem?_eq_getElem hx)
   have c2 := hown'.cells (g := g) rfl o xs[o] (by rw [List.getElem?_append_left hx, List.getElem?_eq_getElem hx])
   have hadd : (⟨g, 0, none⟩ : Addr).add o = ⟨g, o, none⟩ := by unfold Addr.add; split <;> simp_all
   rw [hadd] at c1 c2
   rw [c2, ← c1]
   exact (h.fs g o u q).2
  ·have := (h.fs g o u q).1; omega
 have hgob : ∀ k, G.ob k ≠ some g := by
  intro k q
  rcases hat with ⟨hb, hg⟩ | ⟨hb, hk⟩
  ·exact (g3 g hb).1 k q
  ·cases hq : obs k with
   | none => exact absurd hq (h.obd k g q)
   | some cs =>
    obtain ⟨b', _, _, h1, _, h3, _⟩ := h.obl k cs hq (h.obm k g q) (h.obr k g q)
    rw [q] at h1; injection h1 with h1; subst h1
    have := heap_lt' h3; omega
 have hlv : ∀ j L, G'.lv j = some L → (j = t ∧ L = ⟨n + m, P.cellsOf e, .slice (some ⟨g, 0, none⟩) (n + m) cap⟩) ∨ (j ≠ t ∧ G.lv j = some L) := by
  intro j L q
  have q' : upd G.lv t ⟨n + m, P.cellsOf e, .slice (some ⟨g, 0, none⟩) (n + m) cap⟩ j = some L := q
  by_cases e : j = t
  ·subst e; rw [upd_same] at q'; injection q' with q'; exact .inl ⟨rfl, q'.symm⟩
  ·rw [upd_ne _ _ e] at q'; exact .inr ⟨e, q'⟩
 -- other growing lists lie elsewhere
 have hoth : ∀ j L, j ≠ t → G.lv j = some L → L.v.ownBlock ≠ some g := by
  intro j L hj q hb'
  rcases hat with ⟨hb, hg⟩ | ⟨hb, hk⟩
  ·exact hj (h.lvi j t L _ g q hv hb' hb)
  ·cases hq : lns j with
   | none => exact absurd hq (h.lvd j L q)
   | some en =>
    obtain ⟨v', xs', h1, h2, _⟩ := h.lvl j en.1 en.2 hq
    rw [q] at h1; injection h1 with h1; subst h1
    have := (holds_lt h2 g hb').2; omega
 have hle : G.le G' := by
  refine ⟨rfl, fun _ _ _ q => .inl q, fun _ _ q => q, fun j L q => ?_, fun _ _ q => q, fun _ L q => ⟨L, q, rfl, .inl rfl⟩, fun _ _ q => q⟩
  by_cases ej : j = t
  ·subst ej
   rw [hv] at q; injection q with q; subst q
   exact ⟨_, upd_same _ _ _, rfl, .inr (by show n < n + m; omega)⟩
  ·exact ⟨L, (by show upd G.lv t _ j = _; rw [upd_ne _ _ ej]; exact q), rfl, .inl rfl⟩
 refine ⟨hle, ?_, ?_, ?_, h.obd, ?_, h.obi, ?_, ?_, ?_, h.gb.mono fun _ _ _ q => .inl q, h.obm, fun j b q => ?_, h.mpi, h.obr, fun j L q => ?_, h.rvi, fun b t q => ?_⟩
 ·rcases hat with ⟨hb, hg⟩ | ⟨hb, hk⟩
  ·exact h.kp.grown hg (fun k hk => by injection hk with hk; subst hk; exact (hown.lt _ hb).1)
  ·exact h.kp.trans hk
 ·rintro b o u (q | ⟨rfl, _, q2⟩)
  ·have q1 := h.fs b o u q
   refine ⟨Nat.lt_of_lt_of_le q1.1 hsize, ?_⟩
   by_cases hbg : b = g
   ·subst hbg; exact (hFg o u q).2
   ·exact (World.cell?_of_block (a := ⟨b, o, none⟩) (hblk b q1.1 hbg)).trans q1.2
  ·exact ⟨hlt', q2⟩
 ·rintro b o u (q | ⟨rfl, _, q2⟩)
  ·exact h.fb b o u q
  ·exact .inr (hown'.lt _ rfl).1
 ·intro k cs q hm hrv
  obtain ⟨b, vs, t', h1, h2, h3, h4, h5⟩ := h.obl k cs q hm hrv
  have hbg : b ≠ g := fun e => hgob k (e ▸ h1)
  refine ⟨b, vs, t', h1, h2, (hblk b (heap_lt' h3) hbg).trans h3, rels_mono hle h4, ?_⟩
  rintro o u (q | ⟨q1, _⟩)
  ·exact h5 o u q
  ·exact hbg q1
 ·intro j L q
  rcases hlv j L q with ⟨rfl, _⟩ | ⟨e, q⟩
  ·rw [upd_same]; simp
  ·rw [upd_ne _ _ e]; exact h.lvd j L q
 ·intro j e' n' q
  by_cases ej : j = t
  ·subst ej
   rw [upd_same] at q; injection q with q; injection q with q1 q2; subst q1; subst q2
   refine ⟨_, xs ++ news, upd_same _ _ _, .inr hown', fun b hb => ?_⟩
   have hbg : g = b := by injection hb
   subst hbg
   refine ⟨hgob, ?_⟩
   rintro o u (q | ⟨_, q, _⟩)
   ·exact Nat.lt_of_lt_of_le (hFg o u q).1 (Nat.mul_le_mul_right _ (by omega))
   ·exact q
  ·rw [upd_ne _ _ ej] at q
   obtain ⟨v', xs', h1, h2, h3⟩ := h.lvl j e' n' q
   refine ⟨v', xs', (by show upd G.lv t _ j = _; rw [upd_ne _ _ ej]; exact h1), ?_, fun b hb => ⟨(h3 b hb).1, ?_⟩⟩
   ·rcases hat with ⟨hb, hg⟩ | ⟨hb, hk⟩
    ·exact holds_kept h2 hg (.inr (hoth j _ ej h1))
    ·exact holds_kp h2 hk
   ·rintro o u (q | ⟨q, _⟩)
    ·exact (h3 b hb).2 o u q
    ·exact absurd (q ▸ hb) (hoth j _ ej h1)
 ·intro j j' L L' b q q' h1 h2
  rcases hlv j L q with ⟨e1, r1⟩ | ⟨e1, q1⟩ <;> rcases hlv j' L' q' with ⟨e2, r2⟩ | ⟨e2, q2⟩
  ·rw [e1, e2]
  ·subst r1
   have hbg : g = b := by injection h1
   exact absurd (hbg ▸ h2) (hoth j' L' e2 q2)
  ·subst r2
   have hbg : g = b := by injection h2
   exact absurd (hbg ▸ h1) (hoth j L e1 q1)
  ·exact h.lvi j j' L L' b q1 q2 h1 h2
 ·obtain ⟨h1, es, n', ik, kvs, h2, h3, h4⟩ := h.mpl j b q
  have hbg : b ≠ g := by
   rintro rfl
   rcases hat with ⟨hb, hg⟩ | ⟨hb, hk⟩
   ·rcases hown.2 with ⟨rfl, _⟩ | ⟨g', cap', cur, rfl, _, hgc, _⟩
    ·cases hb
    ·have : g' = b := by injection hb
     subst this
     rw [hgc] at h3; cases h3
   ·have := heap_lt' h3; omega
  exact ⟨h1, es, n', ik, kvs, h2, (hblk b (heap_lt' h3) hbg).trans h3, relM_mono (fun _ _ _ q => .inl q) h4⟩
 ·obtain ⟨e', es, xs', h1, h2, h3, h4, h5, h6⟩ := h.rvl j L q
  have hbg : ∀ b, L.v.ownBlock = some b → b ≠ g := by
   rintro b hb rfl
   rcases hat with ⟨hb', hg⟩ | ⟨hb', hk⟩
   ·exact (h6 b hb).2.2 t _ hv hb'
   ·have := (h4.lt b hb).2; omega
  refine ⟨e', es, xs', h1, h2, h3, ?_, relRow_mono (fun _ _ _ q => .inl q) h5, fun b hb => ⟨(h6 b hb).1, ?_, fun j' L' q' => ?_⟩⟩
  ·rcases hat with ⟨hb', hg⟩ | ⟨hb', hk⟩
   ·exact h4.kept hg (.inr fun hv' => hbg g hv' rfl)
   ·exact own_kp h4 hk
  ·rintro o u (q | ⟨q1, _⟩)
   ·exact (h6 b hb).2.1 o u q
   ·exact hbg b hb q1
  ·rcases hlv j' L' q' with ⟨_, rfl⟩ | ⟨_, q'⟩
   ·intro hh
    have : g = b := by injection hh
    exact hbg b hb this.symm
   ·exact (h6 b hb).2.2 j' L' q'
 ·refine (show TK w w' from ?_) b t (h.tgs b t q)
  rcases hat with ⟨hb, hg⟩ | ⟨_, hk⟩
  ·exact tk_grown hg fun t' q' => by
    have h1 := tag_own hown hb
    have h2 := tag_own hown' (b := g) rfl
    rw [h1] at q'; rw [h2]; exact q'
  ·exact tk_kp hk
end Go.Proofs.YtipefnighcdgnaaGreatDoor
