import Derived.Test.YtipefnighcdgnaaGreatDoorSl
namespace Go.Proofs.YtipefnighcdgnaaGreatDoor
open Go.RowKit
set_option linter.unusedVariables false
set_option linter.unusedSimpArgs false
def cnt (L : Array Bool) : Nat → Nat
 | 0 => 0
 | m + 1 => cnt L m + (if L.getD m false = true then 0 else 1)
theorem cnt_le (L : Array Bool) : ∀ m, cnt L m ≤ m
 | 0 => Nat.le_refl _
 | m + 1 => by unfold cnt; have := cnt_le L m; split <;> omega
theorem getD_set (L : Array Bool) (i j : Nat) (hi : i < L.size) : (L.setIfInBounds i true).getD j false = (if j = i then true else L.getD j false) := by
 simp only [Array.getD_eq_getD_getElem?, Array.getElem?_setIfInBounds]
 by_cases e : i = j
 ·subst e; simp [hi]
 ·rw [if_neg e, if_neg (fun q => e q.symm)]
theorem cnt_set (L : Array Bool) (i : Nat) (hi : i < L.size) (hu : L.getD i false = false) : ∀ m, (i < m → cnt (L.setIfInBounds i true) m + 1 = cnt L m) ∧ (m ≤ i → cnt (L.setIfInBounds i true) m = cnt L m)
 | 0 => ⟨fun h => by omega, fun _ => rfl⟩
 | m + 1 => by
  have ih := cnt_set L i hi hu m
  unfold cnt
  rw [getD_set L i m hi]
  refine ⟨fun h => ?_, fun h => ?_⟩
  ·rcases Nat.lt_or_ge i m with q | q
   ·have := ih.1 q
    rw [if_neg (show ¬ m = i by omega)]
    omega
   ·have e : m = i := by omega
    subst e
    have := ih.2 (Nat.le_refl _)
    rw [if_pos rfl, hu]
    simp
    omega
  ·have := ih.2 (by omega)
   rw [if_neg (show ¬ m = i by omega)]
   omega
theorem cnt_zero (L : Array Bool) : ∀ m, cnt L m = 0 → ∀ i, i < m → L.getD i false = true
 | 0, _, i, h => by omega
 | m + 1, h, i, hi => by
  unfold cnt at h
  rcases Nat.lt_or_ge i m with q | q
  ·exact cnt_zero L m (by omega) i q
  ·have : i = m := by omega
   subst this
   cases hb : L.getD i false with
   | true => rfl
   | false => rw [hb] at h; simp at h
def cfL (ops : Array Oper) (frs : Nat → Fr) (res : Nat → V) (L : Array Bool) : Fr := (List.range (frs 0).length).map (valAt ops frs res (fun j => L.getD j false) ops.size)
theorem cf_len (ops : Array Oper) (frs : Nat → Fr) (res : Nat → V) (L : Array Bool) : (cfL ops frs res L).length = (frs 0).length := by simp [cfL]
theorem cf_getD (ops : Array Oper) (frs : Nat → Fr) (res : Nat → V) (L : Array Bool) (t : Nat) : (cfL ops frs res L).getD t .undef = valAt ops frs res (fun j => L.getD j false) ops.size t := by
 rw [List.getD_eq_getElem?_getD]
 rcases Nat.lt_or_ge t (frs 0).length with q | q
 ·unfold cfL
  rw [List.getElem?_map, List.getElem?_range q]; rfl
 ·rw [List.getElem?_eq_none (by rw [cf_len]; exact q)]
  unfold valAt
  split
  ·rw [List.getD_eq_getElem?_getD, List.getElem?_eq_none q]
  ·rw [if_neg (Nat.not_lt.2 q)]; rfl
def Ef.on (e : Ef) (m k : Nat) : Bool := match e with | .alloc _ => m == k | .store j _ => j == k | _ => false
def Ef.cells (e : Ef) : List V := match e with | .alloc cs => cs | .store _ cs => cs | _ => []
theorem obs_at (e : Ef) (obs : Nat → Option (List V)) (m k : Nat) : e.obs obs m k = if e.on m k = true then some e.cells else obs k := by
 have key : ∀ (j : Nat) (cs : List V), upd obs j cs k = if (j == k) = true then some cs else obs k := by
  intro j cs
  by_cases q : k = j
  ·subst q; rw [upd_same, if_pos (by simp)]
  ·rw [upd_ne _ _ q, if_neg (by simp; exact fun z => q z.symm)]
 cases e with
 | none => simp [Ef.obs, Ef.on]
 | alloc cs => exact key m cs
 | store j cs => exact key j cs
 | app t e n => simp [Ef.obs, Ef.on]
def obsR (sgs : Nat → Sg) (eff : Nat → Ef) (L : Array Bool) : Nat → Nat → Option (List V)
 | 0, k => (sgs 0).obs[k]?
 | m + 1, k => if L.getD m false = true ∧ (eff m).on (sgs m).obs.length k = true then some (eff m).cells else obsR sgs eff L m k
theorem obsR_congr {sgs : Nat → Sg} {eff : Nat → Ef} {L L' : Array Bool} {k : Nat} : ∀ {n : Nat}, (∀ j, j < n → (eff j).on (sgs j).obs.length k = true → L'.getD j false = L.getD j false) → obsR sgs eff L' n k = obsR sgs eff L n k
 | 0, _ => rfl
 | n + 1, h => by
  unfold obsR
  rw [obsR_congr (n := n) fun j hj => h j (by omega)]
  by_cases ho : (eff n).on (sgs n).obs.length k = true
  ·rw [h n (by omega) ho]
  ·rw [if_neg (fun q => ho q.2), if_neg (fun q => ho q.2)]
theorem obsR_keep {sgs : Nat → Sg} {eff : Nat → Ef} {L : Array Bool} {k i : Nat} : ∀ {n : Nat}, i ≤ n → (∀ j, i ≤ j → j < n → (eff j).on (sgs j).obs.length k = true → L.getD j false = false) → obsR sgs eff L n k = obsR sgs eff L i k
  | 0, hi, _ => by have : i = 0 := by omega
                   subst this; rfl
  | n + 1, hi, h => by
    rcases Nat.eq_or_lt_of_le hi with e | q
    · rw [e]
    · conv => lhs; unfold obsR
      rw [if_neg (fun q' => by have := h n (by omega) (by omega) q'.2; rw [this] at q'; cases q'.1)]
      exact obsR_keep (by omega) fun j a b => h j a (by omega)
theorem obsR_none {sgs : Nat → Sg} {eff : Nat → Ef} {L : Array Bool} {k n : Nat} (h : ∀ j, j < n → (eff j).on (sgs j).obs.length k = true → L.getD j false = false) (h0 : (sgs 0).obs.length ≤ k) : obsR sgs eff L n k = none := by
 rw [obsR_keep (i := 0) (Nat.zero_le _) fun j _ b => h j b]
 exact List.getElem?_eq_none h0
def lnsL (n : Nat) (sgs : Nat → Sg) (eff : Nat → Ef) (L : Array Bool) : Nat → Option (TypeId × Nat) := if (List.range n).any (fun i => L.getD i false && (eff i).isApp) = true then lnsOf (sgs n) else lnsOf (sgs 0)
section drawn
variable {P : Program} {g : Pg P} {ops : Array Oper} {frs : Nat → Fr} {sgs : Nat → Sg} {res : Nat → V} {eff : Nat → Ef} (ht : Tr g ops 0 frs sgs res eff) (hd : drawOk ops = true)
 {L : Array Bool} (hs : L.size = ops.size) (hcl : ∀ i o, ops[i]? = some o → L.getD i false = true → ∀ p ∈ preds o, L.getD p false = true)
 {i : Nat} {o : Oper} (ho : ops[i]? = some o) (hu : L.getD i false = false) (hp : ∀ p ∈ preds o, L.getD p false = true)
theorem ops_lt {ops : Array Oper} {i : Nat} {o : Oper} (ho : ops[i]? = some o) : i < ops.size := by
 rcases Nat.lt_or_ge i ops.size with q | q
 ·exact q
 ·rw [Array.getElem?_eq_none q] at ho; cases ho
theorem dst_some {ops : Array Oper} {j : Nat} {t : Tmp} (h : (ops[j]?).bind (·.dst) = some t) : ∃ x, ops[j]? = some x ∧ x.dst = some t := by
 cases hx : ops[j]? with
 | none => rw [hx] at h; cases h
 | some x => rw [hx] at h; exact ⟨x, rfl, h⟩
include hcl
theorem clos_lis (j k : Nat) (hk : k ∈ (clos ops.toList []).getD j []) (hj : L.getD j false = true) : L.getD k false = true :=
 clos_ok (ops := ops) (lis := fun j => L.getD j false = true) hcl ops.toList [] (fun j => by simp) (fun i k h => by simp at h) j k hk hj
include ho hp
theorem clos_ready (k : Nat) (hk : k ∈ (clos ops.toList []).getD i []) (hne : k ≠ i) : L.getD k false = true := by
  have := clos_ok (ops := ops) (lis := fun j => L.getD j false = true ∨ j = i) (fun j x hx hj p hpx => by
    rcases hj with hj | rfl
    · exact .inl (hcl j x hx hj p hpx)
    · rw [ho] at hx; injection hx with hx; subst hx; exact .inl (hp p hpx)) ops.toList [] (fun j => by simp) (fun i k h => by simp at h) i k hk (.inr rfl)
  exact this.resolve_right hne
include ht hd hu
theorem look_same (t : Tmp) (h : t ∈ reads ops o) : (cfL ops frs res L).getD t .undef = (frs i).getD t .undef := by
 have hi := ops_lt ho
 rw [cf_getD, ht.at i (by omega) t]
 unfold valAt
 have e1 : lw ops (fun j => L.getD j false) t ops.size = lw ops (fun j => L.getD j false) t i := by
  refine lw_cut i ops.size (by omega) (fun j h1 h2 h3 => ?_)
  rcases Nat.eq_or_lt_of_le h1 with e | q
  ·subst e; exact hu
  ·obtain ⟨x, hx, hxd⟩ := dst_some h3
   have hpo := drawOk_pair hd ho hx q
   cases hj : L.getD j false with
   | false => rfl
   | true =>
    unfold pairOk at hpo
    simp only [Bool.and_eq_true] at hpo
    have h2 := hpo.1.1.2
    rw [hxd] at h2
    simp only [Bool.or_eq_true, beq_iff_eq] at h2
    rcases h2 with h2 | h2
    ·have : (reads ops o).contains t = true := by simpa using h
     rw [this] at h2; cases h2
    ·have := clos_lis hcl j i (by simpa using h2) hj
     rw [hu] at this; cases this
 have e2 : lw ops (fun j => L.getD j false) t i = lw ops (fun _ => true) t i := by
  refine lw_ext i (fun j hj h3 => ⟨fun _ => rfl, fun _ => ?_⟩)
  obtain ⟨x, hx, hxd⟩ := dst_some h3
  have hpo := drawOk_pair hd hx ho hj
  unfold pairOk at hpo
  simp only [Bool.and_eq_true] at hpo
  have h2 := hpo.1.1.1
  rw [hxd] at h2
  simp only [Bool.or_eq_true, beq_iff_eq] at h2
  rcases h2 with h2 | h2
  ·have : (reads ops o).contains t = true := by simpa using h
   rw [this] at h2; simp at h2
  ·exact clos_ready hcl ho hp j (by simpa using h2) (by omega)
 rw [e1, e2]
theorem look_operand (x : Operand) (h : x ∈ o.op.operands) : evalO (cfL ops frs res L) x = evalO (frs i) x := by
 cases x with
 | tmp t =>
  refine look_same ht hd hcl ho hu hp t ?_
  unfold reads Oper.looksAt
  exact List.mem_append_left _ (List.mem_filterMap.2 ⟨.tmp t, by simpa using h, rfl⟩)
 | _ => rfl
theorem look_wanted : wantedS ops (cfL ops frs res L) o = wantedS ops (frs i) o := by
 unfold wantedS
 cases hg : o.guard with
 | none => rfl
 | some jw =>
  obtain ⟨j, want⟩ := jw
  simp only
  cases hb : (ops[j]?).bind (·.dst) with
  | none => rfl
  | some t =>
   simp only
   rw [look_same ht hd hcl ho hu hp t (by
    unfold reads Oper.looksAt
    refine List.mem_append_right _ ?_
    rw [hg]; simp [hb])]
omit hp ht in
include hs in
theorem cf_put : cfL ops frs res (L.setIfInBounds i true) = putF (cfL ops frs res L) o.dst (res i) := by
  have hi := ops_lt ho
  have hset : ∀ j, (L.setIfInBounds i true).getD j false = (if j = i then true else L.getD j false) := fun j => getD_set L i j (by omega)
  apply List.ext_getElem?
  intro t
  have hl1 := cf_len ops frs res (L.setIfInBounds i true)
  have hl2 : (putF (cfL ops frs res L) o.dst (res i)).length = (frs 0).length := by unfold putF; split <;> simp [cf_len]
  rcases Nat.lt_or_ge t (frs 0).length with q | q
  · have a1 : (cfL ops frs res (L.setIfInBounds i true))[t]? = some ((cfL ops frs res (L.setIfInBounds i true)).getD t .undef) := by
      rw [List.getD_eq_getElem?_getD, List.getElem?_eq_getElem (by omega)]; rfl
    have a2 : (putF (cfL ops frs res L) o.dst (res i))[t]? = some ((putF (cfL ops frs res L) o.dst (res i)).getD t .undef) := by
      rw [List.getD_eq_getElem?_getD, List.getElem?_eq_getElem (by omega)]; rfl
    rw [a1, a2, cf_getD]
    congr 1
    by_cases e : o.dst = some t
    · have : lw ops (fun j => (L.setIfInBounds i true).getD j false) t ops.size = some i := by
        refine lw_top i ops.size hi (by rw [hset, if_pos rfl]) (by rw [ho]; exact e) (fun j h1 h2 h3 => ?_)
        rw [hset, if_neg (by omega)]
        obtain ⟨x, hx, hxd⟩ := dst_some h3
        have hpo := drawOk_pair hd ho hx h1
        cases hj : L.getD j false with
        | false => rfl
        | true =>
          unfold pairOk at hpo
          simp only [Bool.and_eq_true] at hpo
          have h2 := hpo.1.1.1
          rw [e] at h2
          simp only [Bool.or_eq_true, beq_iff_eq] at h2
          rcases h2 with h2 | h2
          · rw [hxd] at h2; simp at h2
          · have := clos_lis hcl j i (by simpa using h2) hj
            rw [hu] at this; cases this
      unfold valAt
      rw [this]
      simp only [if_pos q, putF, e, List.getD_eq_getElem?_getD, List.getElem?_set]
      have : t < (cfL ops frs res L).length := by rw [cf_len]; exact q
      simp [this]
    · have e1 : (putF (cfL ops frs res L) o.dst (res i)).getD t .undef = (cfL ops frs res L).getD t .undef := by
        unfold putF
        split
        · rename_i d hdd
          simp only [List.getD_eq_getElem?_getD]
          rw [List.getElem?_set_ne (fun z => e (by rw [hdd, z]))]
        · rfl
      rw [e1, cf_getD]
      unfold valAt
      rw [lw_ext (q := fun j => L.getD j false) ops.size (fun j hj h3 => by
        show (L.setIfInBounds i true).getD j false = true ↔ L.getD j false = true
        rw [hset]
        by_cases ej : j = i
        · subst ej; rw [ho] at h3; exact absurd h3 e
        · rw [if_neg ej])]
  · rw [List.getElem?_eq_none (by omega), List.getElem?_eq_none (by omega)]
end drawn
end Go.Proofs.YtipefnighcdgnaaGreatDoor
