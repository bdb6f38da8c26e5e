/-
  The shadow's operations on aggregates, addresses, strings; that they are those of the model.
-/
import Derived.Test.YtijihbegfmkceaaGreatDoorSc
namespace Go.Proofs.YtijihbegfmkceaaGreatDoor
open Go.RowKit

def aggT (P : Program) (t : TypeId) : Option Bool :=
  match P.underlying t with
  | some (.struct _) => some true
  | some (.array _ _) => some true
  | some _ => some false
  | none => none
def sizeT (P : Program) (t : TypeId) : Option Nat := (P.info? t).map (·.size)
theorem run_size {P : Program} {t : TypeId} {n : Nat} (h : sizeT P t = some n) (w : World) : (sizeOf t).run P w = .ok n w := by
  unfold sizeT at h
  cases hi : P.info? t with
  | none => rw [hi] at h; cases h
  | some i => rw [hi] at h; simp at h; simp [sizeOf, typeInfo, hi, h, program, Sem.run]
theorem run_agg {P : Program} {t : TypeId} {b : Bool} (h : aggT P t = some b) (w : World) : (isAgg t).run P w = .ok b w := by
  unfold aggT at h
  cases hu : P.underlying t with
  | none => rw [hu] at h; cases h
  | some d =>
    rw [hu] at h
    simp only [isAgg, Sem.run_bind, run_underlying hu, Result.andThen_ok]
    cases d <;> simp_all

/-- A part of cells, as a value of type t. -/
def partV (P : Program) (t : TypeId) (cs : List V) (off : Nat) : Option V :=
  match aggT P t with
  | some true => match sizeT P t with
    | some n => if off + n ≤ cs.length then some (.agg ((cs.drop off).take n)) else none
    | none => none
  | some false => cs[off]?
  | none => none
theorem rels_take_drop {G : Cx} {cs : List V} {vs : List Value} (r : rels G cs vs) (off n : Nat) : rels G ((cs.drop off).take n) ((vs.drop off).take n) := by
  refine ⟨by simp [r.1], fun i x v h1 h2 => ?_⟩
  rw [List.getElem?_take] at h1 h2
  split at h1
  · rename_i hi
    rw [if_pos hi] at h2
    rw [List.getElem?_drop] at h1 h2
    exact r.2 _ x v h1 h2
  · cases h1
theorem partV_ok {P : Program} {G : Cx} {t : TypeId} {cs : List V} {off : Nat} {x : V} {vs : List Value} (h : partV P t cs off = some x) (r : rels G cs vs) (w : World) : ∃ v, (part t ⟨vs⟩ off).run P w = .ok v w ∧ rel G x v := by
  unfold partV at h
  cases ha : aggT P t with
  | none => rw [ha] at h; cases h
  | some b =>
    rw [ha] at h
    cases b with
    | true =>
      cases hs : sizeT P t with
      | none => rw [hs] at h; cases h
      | some n =>
        rw [hs] at h
        simp only at h
        split at h
        · rename_i hle
          injection h with h; subst h
          refine ⟨.agg ⟨(vs.drop off).take n⟩, ?_, ?_⟩
          · simp only [part, Sem.run_bind, run_agg ha, Result.andThen_ok, if_true, run_size hs, Sem.run_pure]
            congr 2
            apply Array.ext'
            simp
          · have := rels_take_drop r off n
            exact .agg _ _ this.1 this.2
        · cases h
    | false =>
      simp only at h
      have hlt : off < cs.length := by
        rcases Nat.lt_or_ge off cs.length with q | q
        · exact q
        · rw [List.getElem?_eq_none q] at h; cases h
      have hv : vs[off]? = some (vs[off]'(r.1 ▸ hlt)) := List.getElem?_eq_getElem _
      refine ⟨vs[off]'(r.1 ▸ hlt), ?_, r.2 off x _ h hv⟩
      simp [part, run_agg ha, r.1 ▸ hlt]

/-- The cells of fixed memory at an address, as a value of type t. -/
theorem loadF_ok {P : Program} {G : Cx} {t : TypeId} {cs : List V} {off : Nat} {x : V} {vs : List Value} {b o : Nat} {w : World} (h : partV P t cs off = some x) (r : rels G cs vs) (hc : ∀ (j : Nat) v, vs[j]? = some v → w.cell? ⟨b, o + j, none⟩ = some v) :
    ∃ v, (loadVar t ⟨b, o + off, none⟩).run P w = .ok v w ∧ rel G x v := by
  unfold partV at h
  cases ha : aggT P t with
  | none => rw [ha] at h; cases h
  | some q =>
    rw [ha] at h
    cases q with
    | true =>
      cases hs : sizeT P t with
      | none => rw [hs] at h; cases h
      | some n =>
        rw [hs] at h
        simp only at h
        split at h
        · rename_i hle
          injection h with h; subst h
          refine ⟨.agg ⟨(vs.drop off).take n⟩, ?_, ?_⟩
          · have hl : ((vs.drop off).take n).length = n := by simp; have := r.1; omega
            have := run_loadCells_list (P := P) w ⟨b, o + off, none⟩ ((vs.drop off).take n) (fun j v hj => by
              rw [Addr.add_lit]
              rw [List.getElem?_take] at hj
              split at hj
              · rw [List.getElem?_drop] at hj
                have := hc _ _ hj
                rwa [← Nat.add_assoc] at this
              · cases hj)
            rw [hl] at this
            simp only [loadVar, Sem.run_bind, run_agg ha, Result.andThen_ok, if_true, run_size hs, this, Sem.run_pure]
          · have := rels_take_drop r off n
            exact .agg _ _ this.1 this.2
        · cases h
    | false =>
      simp only at h
      have hlt : off < cs.length := by
        rcases Nat.lt_or_ge off cs.length with q | q
        · exact q
        · rw [List.getElem?_eq_none q] at h; cases h
      have hv : vs[off]? = some (vs[off]'(r.1 ▸ hlt)) := List.getElem?_eq_getElem _
      refine ⟨vs[off]'(r.1 ▸ hlt), ?_, r.2 off x _ h hv⟩
      simp [loadVar, run_agg ha, hc _ _ hv]

/-- Cells of data as values. -/
def dcells (cs : List D) : List V := cs.map .d
theorem iptr_cells {G : Cx} {cs : List D} {u : Nat → Value} (hr : ∀ (j : Nat) (x : D), cs[j]? = some x → relD G.F x (u j)) : rels G (dcells cs) ((List.range cs.length).map u) := by
  refine ⟨by simp [dcells], fun i x v h1 h2 => ?_⟩
  unfold dcells at h1
  rw [List.getElem?_map] at h1
  cases hq : cs[i]? with
  | none => rw [hq] at h1; cases h1
  | some y =>
    rw [hq] at h1; simp at h1; subst h1
    have hlt : i < cs.length := by
      rcases Nat.lt_or_ge i cs.length with q | q
      · exact q
      · rw [List.getElem?_eq_none q] at hq; cases hq
    rw [List.getElem?_map, List.getElem?_range hlt] at h2
    simp at h2; subst h2
    exact .d (hr i y hq)

def fieldOf (P : Program) (t : TypeId) (f : Nat) : Option (Nat × TypeId) := match P.underlying t with | some (.struct fs) => (fs[f]?).map fun fd => (fd.offset, fd.type) | _ => none
theorem fieldOf_ok {P : Program} {t : TypeId} {f off : Nat} {ty : TypeId} (h : fieldOf P t f = some (off, ty)) : ∃ fs fd, P.underlying t = some (.struct fs) ∧ fs[f]? = some fd ∧ fd.offset = off ∧ fd.type = ty := by
  unfold fieldOf at h
  cases hu : P.underlying t with
  | none => rw [hu] at h; cases h
  | some d =>
    rw [hu] at h
    cases d with
    | struct fs =>
      simp only at h
      cases hf : fs[f]? with
      | none => rw [hf] at h; cases h
      | some fd => rw [hf] at h; simp at h; exact ⟨fs, fd, rfl, hf, h.1, h.2⟩
    | _ => simp at h
def fieldAddrV (P : Program) (t : TypeId) (x : V) (f : Nat) : Option V :=
  match fieldOf P t f with
  | none => none
  | some (fo, ty) =>
    match sizeT P ty with
    | none => none
    | some n => if n = 0 then none else
      match x with
      | .ptr k off => some (.ptr k (off + fo))
      | .iptr cs off => some (.iptr cs (off + fo))
      | _ => none
theorem fieldAddrV_ok {P : Program} {G : Cx} {t : TypeId} {x y : V} {f : Nat} {v : Value} (r : rel G x v) (h : fieldAddrV P t x f = some y) (w : World) : ∃ u, (Instr.fieldAt t v f).run P w = .ok u w ∧ rel G y u := by
  unfold fieldAddrV at h
  split at h
  · cases h
  · rename_i fo ty hf
    obtain ⟨fs, fd, hu, hfd, h1, h2⟩ := fieldOf_ok hf
    subst h1; subst h2
    cases hs : sizeT P fd.type with
    | none => rw [hs] at h; cases h
    | some n =>
      rw [hs] at h
      simp only at h
      split at h
      · cases h
      · rename_i hn
        cases r with
        | ptr k off b q =>
          simp only at h; injection h with h; subst h
          refine ⟨_, ?_, .ptr k (off + fd.offset) b q⟩
          simp [Instr.fieldAt, run_underlying hu, hfd, Instr.sureAddr, fieldPlace, run_size hs, hn, Addr.add_lit]
        | iptr cs off b o u hF hr =>
          simp only at h; injection h with h; subst h
          refine ⟨_, ?_, .iptr cs (off + fd.offset) b o u hF hr⟩
          simp [Instr.fieldAt, run_underlying hu, hfd, Instr.sureAddr, fieldPlace, run_size hs, hn, Addr.add_lit, Nat.add_assoc]
        | _ => simp at h

def fieldV (P : Program) (t : TypeId) (x : V) (f : Nat) : Option V :=
  match fieldOf P t f, x with
  | some (fo, ty), .agg cs => partV P ty cs fo
  | _, _ => none
theorem fieldV_ok {P : Program} {G : Cx} {t : TypeId} {x y : V} {f : Nat} {v : Value} (r : rel G x v) (h : fieldV P t x f = some y) (w : World) : ∃ u, (Instr.field t v f).run P w = .ok u w ∧ rel G y u := by
  unfold fieldV at h
  split at h
  · rename_i fo ty cs hf
    obtain ⟨fs, fd, hu, hfd, h1, h2⟩ := fieldOf_ok hf
    subst h1; subst h2
    cases r with
    | agg _ vs hl hr =>
      obtain ⟨u, h1, h2⟩ := partV_ok h ⟨hl, hr⟩ w
      exact ⟨u, by simp [Instr.field, run_underlying hu, hfd, asAgg, h1], h2⟩
  · cases h

def extractV (x : V) (i : Nat) : Option V := match x with | .tuple vs => vs[i]? | _ => none
theorem extractV_ok {P : Program} {G : Cx} {x y : V} {i : Nat} {v : Value} (r : rel G x v) (h : extractV x i = some y) (w : World) : ∃ u, (Instr.extract v i).run P w = .ok u w ∧ rel G y u := by
  unfold extractV at h
  cases r with
  | tuple cs vs hl hr =>
    simp only at h
    have hlt : i < cs.length := by
      rcases Nat.lt_or_ge i cs.length with q | q
      · exact q
      · rw [List.getElem?_eq_none q] at h; cases h
    have hv : vs[i]? = some (vs[i]'(hl ▸ hlt)) := List.getElem?_eq_getElem _
    exact ⟨_, by simp [Instr.extract, hl ▸ hlt], hr i y _ h hv⟩
  | _ => simp at h

/-- The address of an element. -/
def indexAddrV (P : Program) (t : TypeId) (x i : V) : Option V :=
  match i with
  | .d (.int _ n) =>
    if n < 0 then none else
    match P.underlying t with
    | some (.slice e) =>
      match sizeT P e with
      | none => none
      | some sz =>
        match x with
        | .sl k off len _ => if n.toNat < len then some (.ptr k (off + n.toNat * sz)) else none
        | _ => match x.list? with
          | some es => match es[n.toNat]? with
            | some c => if c.length = sz then some (.iptr c 0) else none
            | none => none
          | none => none
    | some (.array len e) =>
      match sizeT P e with
      | none => none
      | some sz => if n.toNat < len then
          match x with
          | .ptr k off => some (.ptr k (off + n.toNat * sz))
          | .iptr cs off => some (.iptr cs (off + n.toNat * sz))
          | _ => none
        else none
    | _ => none
  | _ => none

end Go.Proofs.YtijihbegfmkceaaGreatDoor
