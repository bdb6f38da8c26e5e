/-
  Regions that draw their order: what may be drawn, and that the order does not matter.
-/
import Derived.Test.YtjdjcjhdaedakaaSj
namespace Go.Proofs.Ytjdjcjhdaedakaa
open Go.RowKit
set_option linter.unusedVariables false
set_option linter.unusedSimpArgs false

theorem pureS_congr {P : Program} (g : Pg P) (o : Oper) (ρ ρ' : Operand → V) (h : ∀ x ∈ o.op.operands, ρ x = ρ' x) : pureS g o ρ = pureS g o ρ' := by
  obtain ⟨dst, op, type, pos, after, guard⟩ := o
  have pairs : ∀ ps : Array (Nat × Operand), (∀ x ∈ ps.map (·.2), ρ x = ρ' x) → (ps.toList.map fun p => (p.1, ρ p.2)) = (ps.toList.map fun p => (p.1, ρ' p.2)) := fun ps hp =>
    List.map_congr_left fun p hm => by
      obtain ⟨i, x⟩ := p
      simp only [hp x (Array.mem_map.2 ⟨(i, x), by simpa using hm, rfl⟩)]
  cases op <;> simp only [Op.operands] at h <;> simp only [pureS]
  case build t ps => rw [pairs ps fun x hx => h x (by simpa using hx)]
  case makeFunc fn first captured =>
    cases fn <;> simp only
    rw [List.map_congr_left (l := captured.toList) fun x hx => h x (by simp at hx; simp [hx])]
  case slice t x lo hi mx => cases lo <;> cases hi <;> cases mx <;> simp_all
  case call c =>
    split
    · rename_i x t hcal hargs htys
      rw [h x (by
        have ha : c.args = #[x] := by apply Array.ext'; simp [hargs]
        simp [Call.operands, ha])]
    · rfl
  all_goals (first | rfl | (simp_all; done))

def opLoad : Op → Bool
  | .load _ _ => true
  | _ => false
def opStore : Op → Bool
  | .store _ _ _ => true
  | _ => false
def opApp : Op → Bool
  | .call ⟨.builtin .append, _, _⟩ => true
  | _ => false
def opNew : Op → Bool
  | .alloc _ => true
  | .box _ _ => true
  | .buildSlice _ _ _ => true
  | _ => false
def Ef.isAlloc : Ef → Bool
  | .alloc _ => true
  | _ => false
def Ef.isStore : Ef → Bool
  | .store _ _ => true
  | _ => false
def Ef.isApp : Ef → Bool
  | .app _ _ _ => true
  | _ => false

theorem stepS_kind {P : Program} {g : Pg P} {obs : Nat → Option (List V)} {lns : Nat → Option (TypeId × Nat)} {k t : Nat} {o : Oper} {ρ : Operand → V} {y : V} {f : Ef} (h : stepS g obs lns k t o ρ = some (y, f)) :
    (f.isAlloc = true → opNew o.op = true) ∧ (f.isStore = true → opStore o.op = true) ∧ (f.isApp = true → opApp o.op = true) := by
  unfold stepS at h
  split at h <;> rename_i hop
  · split at h
    · split at h
      · injection h with h; injection h with _ h; subst h; simp [Ef.isAlloc, Ef.isStore, Ef.isApp, hop, opNew]
      · cases h
    · cases h
  · split at h
    · injection h with h; injection h with _ h; subst h; simp [Ef.isAlloc, Ef.isStore, Ef.isApp, hop, opNew]
    · cases h
  · split at h
    · split at h
      · split at h
        · injection h with h; injection h with _ h; subst h; simp [Ef.isAlloc, Ef.isStore, Ef.isApp]
        · cases h
      · cases h
    · split at h
      · injection h with h; injection h with _ h; subst h; simp [Ef.isAlloc, Ef.isStore, Ef.isApp]
      · cases h
    · cases h
  · split at h
    · split at h
      · split at h
        · injection h with h; injection h with _ h; subst h; simp [Ef.isAlloc, Ef.isStore, Ef.isApp, hop, opStore]
        · cases h
      · cases h
    · cases h
  · unfold rowV at h
    split at h
    · split at h
      · split at h
        · split at h
          · split at h
            · split at h <;> (injection h with h; injection h with _ h; subst h; simp [Ef.isAlloc, Ef.isStore, Ef.isApp, hop, opNew])
            · cases h
          · cases h
        · cases h
      · cases h
    · cases h
  · rename_i c
    split at h
    · rename_i x y' tt tt' hcal hargs htys
      have hA : opApp o.op = true := by
        obtain ⟨cal, args, tys⟩ := c
        simp only at hcal
        subst hcal
        rw [hop]; rfl
      split at h
      · unfold appV at h
        split at h
        · split at h
          · split at h
            · split at h
              · injection h with h; injection h with _ h; subst h; simp [Ef.isAlloc, Ef.isStore, Ef.isApp, hA]
              · cases h
            · split at h
              · split at h
                · injection h with h; injection h with _ h; subst h; simp [Ef.isAlloc, Ef.isStore, Ef.isApp, hA]
                · cases h
              · cases h
            · split at h
              · injection h with h; injection h with _ h; subst h; simp [Ef.isAlloc, Ef.isStore, Ef.isApp, hA]
              · split at h
                · injection h with h; injection h with _ h; subst h; simp [Ef.isAlloc, Ef.isStore, Ef.isApp]
                · cases h
            · cases h
          · cases h
        · cases h
      · cases h
    · split at h
      · injection h with h; injection h with _ h; subst h; simp [Ef.isAlloc, Ef.isStore, Ef.isApp]
      · cases h
    · cases h
  · split at h
    · injection h with h; injection h with _ h; subst h; simp [Ef.isAlloc, Ef.isStore, Ef.isApp]
    · cases h

/-- An operation comes to the same in another state that agrees where it looks. -/
theorem stepS_same {P : Program} {g : Pg P} {obs obs' : Nat → Option (List V)} {lns lns' : Nat → Option (TypeId × Nat)} {k k' t t' : Nat} {o : Oper} {ρ ρ' : Operand → V} {y : V} {f : Ef} (h : stepS g obs lns k t o ρ = some (y, f))
    (hρ : ∀ x ∈ o.op.operands, ρ x = ρ' x) (ho : ∀ j off x cs, x ∈ o.op.operands → ρ x = .ptr j off → (opLoad o.op = true ∨ opStore o.op = true) → obs j = some cs → obs' j = some cs) (hl : opApp o.op = true → lns' = lns ∧ t' = t) (hk : f.isAlloc = true → k' = k) :
    stepS g obs' lns' k' t' o ρ' = some (y, f) := by
  obtain ⟨dst, op, type, pos, after, guard⟩ := o
  have hpure := pureS_congr g ⟨dst, op, type, pos, after, guard⟩ ρ ρ' hρ
  have pairs : ∀ ps : Array (Nat × Operand), (∀ x ∈ ps.map (·.2), ρ x = ρ' x) → (ps.toList.map fun p => (p.1, ρ p.2)) = (ps.toList.map fun p => (p.1, ρ' p.2)) := fun ps hp =>
    List.map_congr_left fun p hm => by
      obtain ⟨i, x⟩ := p
      simp only [hp x (Array.mem_map.2 ⟨(i, x), by simpa using hm, rfl⟩)]
  cases op
  case alloc e =>
    simp only [stepS] at h ⊢
    split at h
    · split at h
      · injection h with h; injection h with h1 h2; subst h1; subst h2
        rw [hk rfl]
      · cases h
    · cases h
  case box e x =>
    simp only [stepS] at h ⊢
    rw [← hρ x (by simp [Op.operands])]
    split at h
    · injection h with h; injection h with h1 h2; subst h1; subst h2
      rw [hk rfl]
    · cases h
  case load ty x =>
    simp only [stepS] at h ⊢
    rw [← hρ x (by simp [Op.operands])]
    split at h
    · rename_i j off hx
      split at h
      · rename_i cs hcs
        try simp only [hx]
        rw [ho j off x cs (by simp [Op.operands]) hx (.inl rfl) hcs]
        exact h
      · cases h
    · rename_i cs off hx
      try simp only [hx]
      exact h
    · cases h
  case store ty x z =>
    simp only [stepS] at h ⊢
    rw [← hρ x (by simp [Op.operands]), ← hρ z (by simp [Op.operands])]
    split at h
    · rename_i j off hx
      split at h
      · rename_i cs xs n hcs hxs hn
        try simp only [hx]
        rw [ho j off x cs (by simp [Op.operands]) hx (.inr rfl) hcs, hxs, hn]
        exact h
      · cases h
    · cases h
  case buildSlice ty len parts =>
    simp only [stepS] at h ⊢
    rw [← pairs parts fun x hx => hρ x (by simpa [Op.operands] using hx)]
    unfold rowV at h ⊢
    split at h
    · split at h
      · split at h
        · split at h
          · rename_i hc
            split at h
            · rename_i out hf
              split at h
              · rename_i ds hd
                try simp only [hf, hd]
                rw [if_pos hc]
                exact h
              · rename_i hd
                try simp only [hf, hd]
                rw [if_pos hc]
                injection h with h; injection h with h1 h2; subst h1; subst h2
                rw [hk rfl]
            · cases h
          · cases h
        · cases h
      · cases h
    · cases h
  case call c =>
    simp only [stepS] at h ⊢
    split at h
    · rename_i x z tt tt' hcal hargs htys
      have ha : c.args = #[x, z] := by apply Array.ext'; simp [hargs]
      rw [← hρ x (by simp [Op.operands, Call.operands, ha]), ← hρ z (by simp [Op.operands, Call.operands, ha])]
      have hA : opApp (.call c) = true := by
        obtain ⟨cal, args, tys⟩ := c
        simp only at hcal
        subst hcal
        rfl
      obtain ⟨e1, e2⟩ := hl hA
      rw [e1, e2]
      exact h
    · rename_i x ty hcal hargs htys
      have ha : c.args = #[x] := by apply Array.ext'; simp [hargs]
      rw [← hρ x (by simp [Op.operands, Call.operands, ha])]
      exact h
    · cases h
  all_goals
    simp only [stepS] at h ⊢
    rw [← hpure]
    exact h

/-- The operations that an operation waits for. -/
def preds (o : Oper) : List Nat := (o.after.toList.filter (Region.binds .any ·)).map (·.on)
def clos : List Oper → List (List Nat) → List (List Nat)
  | [], acc => acc
  | o :: rest, acc => clos rest (acc ++ [(preds o ++ (preds o).flatMap fun k => acc.getD k []).eraseDups])
theorem clos_ok {ops : Array Oper} {lis : Nat → Prop} (hcl : ∀ i o, ops[i]? = some o → lis i → ∀ p ∈ preds o, lis p) :
    ∀ (rest : List Oper) (acc : List (List Nat)), (∀ j, rest[j]? = ops[acc.length + j]?) → (∀ i k, k ∈ acc.getD i [] → lis i → lis k) → ∀ i k, k ∈ (clos rest acc).getD i [] → lis i → lis k
  | [], acc, _, h => h
  | o :: rest, acc, hr, h => by
    unfold clos
    refine clos_ok hcl rest _ (fun j => ?_) ?_
    · have := hr (j + 1)
      simp only [List.getElem?_cons_succ] at this
      rw [this]
      congr 1
      simp; omega
    · intro i k hk hi
      rw [List.getD_eq_getElem?_getD] at hk
      rcases Nat.lt_or_ge i acc.length with q | q
      · rw [List.getElem?_append_left q] at hk
        exact h i k (by rw [List.getD_eq_getElem?_getD]; exact hk) hi
      · rcases Nat.eq_or_lt_of_le q with e | q
        · subst e
          rw [List.getElem?_append_right (Nat.le_refl _)] at hk
          simp only [Nat.sub_self, List.getElem?_cons_zero, Option.getD_some, List.mem_eraseDups, List.mem_append, List.mem_flatMap] at hk
          have ho : ops[acc.length]? = some o := by have := hr 0; simpa using this.symm
          rcases hk with hk | ⟨p, hp, hk⟩
          · exact hcl _ o ho hi k hk
          · exact h p k hk (hcl _ o ho hi p hp)
        · rw [List.getElem?_eq_none (by simp; omega)] at hk
          simp at hk

def reads (ops : Array Oper) (o : Oper) : List Tmp := o.looksAt ops
def opTouch (o : Op) : Bool := opLoad o || opNew o || opApp o || opStore o
def pairOk (ops : Array Oper) (C : List (List Nat)) (i j : Nat) (x y : Oper) : Bool :=
  ((match x.dst with | some d => (reads ops y).contains d || y.dst == some d | none => false) == false || (C.getD j []).contains i) &&
  ((match y.dst with | some d => (reads ops x).contains d | none => false) == false || (C.getD j []).contains i) &&
  !(opApp x.op && opApp y.op) &&
  (!(opStore y.op && opTouch x.op) || ((C.getD j []).contains i && !opStore x.op)) &&
  !(opStore x.op && opTouch y.op)
def drawOk (ops : Array Oper) : Bool :=
  let C := clos ops.toList []
  (ops.toList.zipIdx.all fun p => (preds p.1).all fun k => decide (k < p.2)) &&
  ops.toList.zipIdx.all fun p => ops.toList.zipIdx.all fun q => !decide (p.2 < q.2) || pairOk ops C p.2 q.2 p.1 q.1

theorem drawOk_pred {ops : Array Oper} (h : drawOk ops = true) {i : Nat} {o : Oper} (ho : ops[i]? = some o) {k : Nat} (hk : k ∈ preds o) : k < i := by
  unfold drawOk at h
  simp only [Bool.and_eq_true, List.all_eq_true] at h
  have := h.1 (o, i) (by rw [List.mem_zipIdx_iff_getElem?]; simpa using ho) k hk
  simpa using this
theorem drawOk_pair {ops : Array Oper} (h : drawOk ops = true) {i j : Nat} {x y : Oper} (hx : ops[i]? = some x) (hy : ops[j]? = some y) (hij : i < j) : pairOk ops (clos ops.toList []) i j x y = true := by
  unfold drawOk at h
  simp only [Bool.and_eq_true, List.all_eq_true] at h
  have := h.2 (x, i) (by rw [List.mem_zipIdx_iff_getElem?]; simpa using hx) (y, j) (by rw [List.mem_zipIdx_iff_getElem?]; simpa using hy)
  simpa [hij] using this

end Go.Proofs.Ytjdjcjhdaedakaa
