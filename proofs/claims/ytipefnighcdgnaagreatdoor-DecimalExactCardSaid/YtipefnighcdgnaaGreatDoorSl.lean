import Derived.Test.YtipefnighcdgnaaGreatDoorSk
import Derived.Orders
namespace Go.Proofs.YtipefnighcdgnaaGreatDoor
open Go.RowKit
set_option linter.unusedVariables false
set_option linter.unusedSimpArgs false
def obsOf (s : Sg) : Nat → Option (List V) := fun k => s.obs[k]?
def lnsOf (s : Sg) : Nat → Option (TypeId × Nat) := fun k => s.lns[k]?
def One {P : Program} (g : Pg P) (ops : Array Oper) (fr : Fr) (s : Sg) (o : Oper) (y : V) (f : Ef) : Prop :=
 (wantedS ops fr o = some false ∧ y = .skip ∧ f = .none) ∨
 (wantedS ops fr o = some true ∧ ∃ p args tys fid xs, o.op = .call ⟨.value p, args, tys⟩ ∧ callS fr ⟨.value p, args, tys⟩ = some (fid, xs) ∧ Spec g fid (xs.map V.cleanF) y ∧ f = .none) ∨
 (wantedS ops fr o = some true ∧ stepS g (obsOf s) (lnsOf s) s.obs.length s.lns.length o (evalO fr) = some (y, f))
structure Tr {P : Program} (g : Pg P) (ops : Array Oper) (m : Nat) (frs : Nat → Fr) (sgs : Nat → Sg) (res : Nat → V) (eff : Nat → Ef) : Prop where
 one : ∀ i o, m ≤ i → ops[i]? = some o → One g ops (frs i) (sgs i) o (res i) (eff i)
 fr : ∀ i o, m ≤ i → ops[i]? = some o → frs (i + 1) = putF (frs i) o.dst (res i)
 sg : ∀ i o, m ≤ i → ops[i]? = some o → sgs (i + 1) = (eff i).sg (sgs i)
theorem trace_of {P : Program} {g : Pg P} {ops : Array Oper} {K : Fr → Sg → Prop} : ∀ (l : List Oper) (m : Nat) (fr : Fr) (s : Sg), l = ops.toList.drop m → m ≤ ops.size → regS g true ops l fr s K →
  ∃ frs sgs res eff, frs m = fr ∧ sgs m = s ∧ Tr g ops m frs sgs res eff ∧ K (frs ops.size) (sgs ops.size)
 | [], m, fr, s, hl, hm, h => by
  have : m = ops.size := by
   have := congrArg List.length hl
   simp at this; omega
  subst this
  refine ⟨fun _ => fr, fun _ => s, fun _ => .undef, fun _ => .none, rfl, rfl, ⟨?_, ?_, ?_⟩, h⟩
  all_goals (intro i o h1 h2; rw [Array.getElem?_eq_none h1] at h2; cases h2)
 | o :: rest, m, fr, s, hl, hm, h => by
  have hlt : m < ops.size := by
   have := congrArg List.length hl
   simp at this; omega
  have ho : ops[m]? = some o := by
   have : (ops.toList.drop m)[0]? = some o := by rw [← hl]; rfl
   simpa using this
  have hrest : rest = ops.toList.drop (m + 1) := by
   rw [← List.drop_drop, ← hl]; rfl
  have fin : ∀ (y : V) (f : Ef), One g ops fr s o y f → regS g true ops rest (putF fr o.dst y) (f.sg s) K → ∃ frs sgs res eff, frs m = fr ∧ sgs m = s ∧ Tr g ops m frs sgs res eff ∧ K (frs ops.size) (sgs ops.size) := by
   intro y f hone hr
   obtain ⟨frs, sgs, res, eff, e1, e2, ht, hK⟩ := trace_of rest (m + 1) _ _ hrest (by omega) hr
   refine ⟨fun i => if i ≤ m then fr else frs i, fun i => if i ≤ m then s else sgs i, fun i => if i ≤ m then y else res i, fun i => if i ≤ m then f else eff i, by simp, by simp, ⟨?_, ?_, ?_⟩, ?_⟩
   ·intro i o' h1 h2
    rcases Nat.eq_or_lt_of_le h1 with e | q
    ·subst e
     rw [ho] at h2; injection h2 with h2; subst h2
     simpa using hone
    ·simp only [if_neg (show ¬ i ≤ m by omega)]
     exact ht.one i o' (by omega) h2
   ·intro i o' h1 h2
    rcases Nat.eq_or_lt_of_le h1 with e | q
    ·subst e
     rw [ho] at h2; injection h2 with h2; subst h2
     simp only [Nat.le_refl, if_true, if_neg (show ¬ m + 1 ≤ m by omega)]
     exact e1
    ·simp only [if_neg (show ¬ i ≤ m by omega), if_neg (show ¬ i + 1 ≤ m by omega)]
     exact ht.fr i o' (by omega) h2
   ·intro i o' h1 h2
    rcases Nat.eq_or_lt_of_le h1 with e | q
    ·subst e
     rw [ho] at h2; injection h2 with h2; subst h2
     simp only [Nat.le_refl, if_true, if_neg (show ¬ m + 1 ≤ m by omega)]
     exact e2
    ·simp only [if_neg (show ¬ i ≤ m by omega), if_neg (show ¬ i + 1 ≤ m by omega)]
     exact ht.sg i o' (by omega) h2
   ·simp only [if_neg (show ¬ ops.size ≤ m by omega)]
    exact hK
  unfold regS at h
  cases hw : wantedS ops fr o with
  | none => rw [hw] at h; exact h.elim
  | some b =>
   rw [hw] at h
   simp only at h
   cases b with
   | false =>
    rw [if_neg (by simp)] at h
    exact fin .skip .none (.inl ⟨hw, rfl, rfl⟩) h
   | true =>
    rw [if_pos rfl] at h
    split at h
    ·rename_i p args tys hop
     split at h
     ·rename_i fid xs hc
      simp only [if_true] at h
      obtain ⟨r, hs, hr⟩ := h
      exact fin r .none (.inr (.inl ⟨hw, p, args, tys, fid, xs, hop, hc, hs, rfl⟩)) hr
     ·exact h.elim
    ·split at h
     ·rename_i y f hs
      exact fin y f (.inr (.inr ⟨hw, hs⟩)) h
     ·exact h.elim
def lw (ops : Array Oper) (p : Nat → Bool) (t : Tmp) : Nat → Option Nat
 | 0 => none
 | i + 1 => if p i = true ∧ (ops[i]?).bind (·.dst) = some t then some i else lw ops p t i
theorem lw_ext {ops : Array Oper} {p q : Nat → Bool} {t : Tmp} : ∀ n, (∀ j, j < n → (ops[j]?).bind (·.dst) = some t → (p j = true ↔ q j = true)) → lw ops p t n = lw ops q t n
 | 0, _ => rfl
 | n + 1, h => by
  unfold lw
  rw [lw_ext n (fun j hj => h j (by omega))]
  by_cases hd : (ops[n]?).bind (·.dst) = some t
  ·have := h n (by omega) hd
   by_cases hp : p n = true
   ·rw [if_pos ⟨hp, hd⟩, if_pos ⟨this.1 hp, hd⟩]
   ·rw [if_neg (fun q => hp q.1), if_neg (fun q => hp (this.2 q.1))]
  ·rw [if_neg (fun q => hd q.2), if_neg (fun q => hd q.2)]
theorem lw_cut {ops : Array Oper} {p : Nat → Bool} {t : Tmp} (i : Nat) : ∀ n, i ≤ n → (∀ j, i ≤ j → j < n → (ops[j]?).bind (·.dst) = some t → p j = false) → lw ops p t n = lw ops p t i
 | 0, h, _ => by
  have : i = 0 := by omega
  subst this; rfl
 | n + 1, h, hq => by
  rcases Nat.eq_or_lt_of_le h with e | h'
  ·rw [e]
  ·conv => lhs; unfold lw
   rw [if_neg (fun q => by have := hq n (by omega) (by omega) q.2; rw [this] at q; simp at q)]
   exact lw_cut i n (by omega) (fun j a b => hq j a (by omega))
theorem lw_top {ops : Array Oper} {p : Nat → Bool} {t : Tmp} (i n : Nat) (hi : i < n) (hp : p i = true) (hd : (ops[i]?).bind (·.dst) = some t) (h : ∀ j, i < j → j < n → (ops[j]?).bind (·.dst) = some t → p j = false) : lw ops p t n = some i := by
 rw [lw_cut (i + 1) n (by omega) (fun j a b => h j (by omega) b)]
 unfold lw
 rw [if_pos ⟨hp, hd⟩]
section drawn
variable {P : Program} {g : Pg P} {ops : Array Oper} {frs : Nat → Fr} {sgs : Nat → Sg} {res : Nat → V} {eff : Nat → Ef} (ht : Tr g ops 0 frs sgs res eff) (hd : drawOk ops = true)
include ht
theorem Tr.len (i : Nat) (hi : i ≤ ops.size) : (frs i).length = (frs 0).length := by
 induction i with
 | zero => rfl
 | succ i ih =>
  obtain ⟨o, ho⟩ : ∃ o, ops[i]? = some o := ⟨ops[i], Array.getElem?_eq_getElem (by omega)⟩
  rw [ht.fr i o (Nat.zero_le _) ho, ← ih (by omega)]
  unfold putF
  split <;> simp
def valAt (ops : Array Oper) (frs : Nat → Fr) (res : Nat → V) (p : Nat → Bool) (n : Nat) (t : Tmp) : V :=
 match lw ops p t n with
 | none => (frs 0).getD t .undef
 | some j => if t < (frs 0).length then res j else .undef
theorem Tr.at (i : Nat) (hi : i ≤ ops.size) (t : Tmp) : (frs i).getD t .undef = valAt ops frs res (fun _ => true) i t := by
 induction i with
 | zero => rfl
 | succ i ih =>
  obtain ⟨o, ho⟩ : ∃ o, ops[i]? = some o := ⟨ops[i], Array.getElem?_eq_getElem (by omega)⟩
  have hl := ht.len i (by omega)
  rw [ht.fr i o (Nat.zero_le _) ho]
  unfold valAt lw
  rw [ho]
  simp only [Option.bind_some, true_and]
  by_cases e : o.dst = some t
  ·rw [if_pos e]
   simp only [putF, e, List.getD_eq_getElem?_getD, List.getElem?_set]
   simp only [if_true]
   by_cases hlt : t < (frs 0).length
   ·have hlt' : t < (frs i).length := by rw [hl]; exact hlt
    rw [if_pos hlt', if_pos hlt]; rfl
   ·have hlt' : ¬ t < (frs i).length := by rw [hl]; exact hlt
    rw [if_neg hlt', if_neg hlt]; rfl
  ·rw [if_neg e]
   have : (putF (frs i) o.dst (res i)).getD t .undef = (frs i).getD t .undef := by
    unfold putF
    split
    ·rename_i d hdd
     simp only [List.getD_eq_getElem?_getD]
     rw [List.getElem?_set_ne (fun q => e (by rw [hdd, q]))]
    ·rfl
   rw [this, ih (by omega)]
   rfl
theorem Tr.kind (i : Nat) (o : Oper) (ho : ops[i]? = some o) : ((eff i).isAlloc = true → opNew o.op = true) ∧ ((eff i).isStore = true → opStore o.op = true) ∧ ((eff i).isApp = true → opApp o.op = true) := by
 rcases ht.one i o (Nat.zero_le _) ho with ⟨_, _, h⟩ | ⟨_, p, args, tys, fid, xs, _, _, _, h⟩ | ⟨_, h⟩
 ·rw [h]; simp [Ef.isAlloc, Ef.isStore, Ef.isApp]
 ·rw [h]; simp [Ef.isAlloc, Ef.isStore, Ef.isApp]
 ·exact stepS_kind h
theorem Tr.grow (i : Nat) (hi : i < ops.size) : (sgs i).obs.length ≤ (sgs (i + 1)).obs.length ∧ ((eff i).isAlloc = true → (sgs (i + 1)).obs.length = (sgs i).obs.length + 1) ∧ ((eff i).isAlloc = false → (sgs (i + 1)).obs.length = (sgs i).obs.length) ∧ ((eff i).isStore = false → ∀ k, k < (sgs i).obs.length → (sgs (i + 1)).obs[k]? = (sgs i).obs[k]?) ∧ ((eff i).isApp = false → (sgs (i + 1)).lns = (sgs i).lns) := by
 obtain ⟨o, ho⟩ : ∃ o, ops[i]? = some o := ⟨ops[i], Array.getElem?_eq_getElem (by omega)⟩
 rw [ht.sg i o (Nat.zero_le _) ho]
 cases he : eff i with
 | none => simp [Ef.sg, Ef.isAlloc]
 | alloc cs =>
  simp only [Ef.sg, Ef.isAlloc]
  refine ⟨by simp, fun _ => by simp, fun h => (by cases h), fun _ k hk => List.getElem?_append_left hk, fun _ => trivial⟩
 | store j cs => simp [Ef.sg, Ef.isAlloc, Ef.isStore]
 | app t e n => simp only [Ef.sg]; split <;> simp [Ef.isAlloc, Ef.isApp]
theorem Tr.mono (i j : Nat) (hij : i ≤ j) (hj : j ≤ ops.size) : (sgs i).obs.length ≤ (sgs j).obs.length := by
  induction j with
  | zero => have : i = 0 := by omega
            subst this; exact Nat.le_refl _
  | succ j ih =>
    rcases Nat.eq_or_lt_of_le hij with e | q
    · rw [e]; exact Nat.le_refl _
    · exact Nat.le_trans (ih (by omega) (by omega)) (ht.grow j (by omega)).1
theorem Tr.toks (i j : Nat) (hi : i < ops.size) (hj : j < ops.size) (ai : (eff i).isAlloc = true) (aj : (eff j).isAlloc = true) (h : (sgs i).obs.length = (sgs j).obs.length) : i = j := by
 rcases Nat.lt_trichotomy i j with q | q | q
 ·have h1 := (ht.grow i hi).2.1 ai
  have h2 := ht.mono (i + 1) j (by omega) (by omega)
  omega
 ·exact q
 ·have h1 := (ht.grow j hj).2.1 aj
  have h2 := ht.mono (j + 1) i (by omega) (by omega)
  omega
theorem Tr.lnsq (i j : Nat) (hij : i ≤ j) (hj : j ≤ ops.size) (hst : ∀ m, i ≤ m → m < j → (eff m).isApp = false) : (sgs j).lns = (sgs i).lns := by
  induction j with
  | zero => have : i = 0 := by omega
            subst this; rfl
  | succ j ih =>
    rcases Nat.eq_or_lt_of_le hij with e | q
    · rw [e]
    · rw [(ht.grow j (by omega)).2.2.2.2 (hst j (by omega) (by omega))]
      exact ih (by omega) (by omega) (fun m a b => hst m a (by omega))
end drawn
end Go.Proofs.YtipefnighcdgnaaGreatDoor
