/-
  Tk, Tl, Tn in one text.
-/
import Derived.Test.YtpdjgamdnjfmkaaDoorJy
import Derived.Lib.Split
import Derived.Lib.SplitLaws
import Derived.Lib.IndexBytes
namespace Go.Proofs.YtpdjgamdnjfmkaaDoor
open Go.RowKit
def isL (c : UInt8) : Bool := (decide (97 ≤ c.toNat) && decide (c.toNat ≤ 122)) || (decide (65 ≤ c.toNat) && decide (c.toNat ≤ 90))
def inN (c : UInt8) : Bool := isL c || isD c || c == 95 || c == 45
def isY (c : UInt8) : Bool := c == 61 || c == 44 || c == 59 || c == 58 || c == 40 || c == 41
def nameN (s : List UInt8) : Nat := (s.takeWhile inN).length
def digN (s : List UInt8) : Nat := (s.takeWhile isD).length
def sgN (s : List UInt8) : Nat := if s.head? = some 45 then 1 else 0
def wholeN (s : List UInt8) : Nat := sgN s + digN (s.drop (sgN s))
def fracN (s : List UInt8) : Nat := if (s.drop (wholeN s)).head? = some 46 then (if digN (s.drop (wholeN s + 1)) = 0 then 0 else 1 + digN (s.drop (wholeN s + 1))) else 0
def numN (s : List UInt8) : Nat := if digN (s.drop (sgN s)) = 0 then 0 else wholeN s + fracN s
structure Tk where
 kind : Nat
 pos : Nat
 text : List UInt8
inductive TR where
 | fin
 | space
 | bad (p e : Nat)
 | one (k n : Nat)
def aft (o : Option UInt8) : Bool := match o with
 | none => false
 | some d => isL d || d == 95 || d == 46
def stepT (s : List UInt8) : TR := match s with
 | [] => .fin
 | c :: _ =>
  if c = 35 then .fin
  else if c = 32 then .space
  else if isL c = true then (if nameN s > 24 then .bad 0 3 else .one 1 (nameN s))
  else if numN s > 0 then (if prsB (s.take (numN s)) = true then (if aft (s.drop (numN s)).head? = true then .bad (numN s) 2 else .one 2 (numN s)) else .bad 0 2)
  else if isY c = true then .one 3 1
  else .bad 0 2
structure TS where
 l : List Tk
 pos : Nat
 e : Nat
def toks : Nat → List UInt8 → Nat → TS
 | 0, _, _ => ⟨[], 0, 0⟩
 | f + 1, s, a => match stepT s with
  | .fin => ⟨[], 0, 0⟩
  | .space => toks f (s.drop 1) (a + 1)
  | .bad p e => ⟨[], a + p, e⟩
  | .one k n => if (toks f (s.drop n) (a + n)).e = 0 then ⟨⟨k, a, s.take n⟩ :: (toks f (s.drop n) (a + n)).l, 0, 0⟩ else toks f (s.drop n) (a + n)
theorem digN_le (s : List UInt8) : digN s ≤ s.length := (List.takeWhile_sublist _).length_le
theorem nameN_le (s : List UInt8) : nameN s ≤ s.length := (List.takeWhile_sublist _).length_le
theorem sgN_le (s : List UInt8) : sgN s ≤ s.length := by
 unfold sgN
 cases s with
 | nil => simp
 | cons c r => split <;> simp
theorem wholeN_le (s : List UInt8) : wholeN s ≤ s.length := by
 unfold wholeN
 have := digN_le (s.drop (sgN s))
 have := sgN_le s
 rw [List.length_drop] at *
 omega
theorem fracN_le (s : List UInt8) : wholeN s + fracN s ≤ s.length := by
 have h1 := wholeN_le s
 unfold fracN
 by_cases h : (s.drop (wholeN s)).head? = some 46
 ·rw [if_pos h]
  have h2 := digN_le (s.drop (wholeN s + 1))
  rw [List.length_drop] at h2
  have h3 : wholeN s < s.length := by
   cases hd : s.drop (wholeN s) with
   | nil => rw [hd] at h; simp at h
   | cons c r =>
    have := congrArg List.length hd
    rw [List.length_drop] at this
    simp at this; omega
  split <;> omega
 ·rw [if_neg h]; omega
theorem numN_le (s : List UInt8) : numN s ≤ s.length := by
 unfold numN
 have := fracN_le s
 split <;> omega
theorem nameN_pos {c : UInt8} {r : List UInt8} (h : isL c = true) : 0 < nameN (c :: r) := by
 unfold nameN
 rw [List.takeWhile_cons_of_pos (by unfold inN; rw [h]; rfl)]
 simp
theorem stepT_cons (c : UInt8) (r : List UInt8) : stepT (c :: r) = if c = 35 then .fin else if c = 32 then .space else if isL c = true then (if nameN (c :: r) > 24 then .bad 0 3 else .one 1 (nameN (c :: r))) else if numN (c :: r) > 0 then (if prsB ((c :: r).take (numN (c :: r))) = true then (if aft ((c :: r).drop (numN (c :: r))).head? = true then .bad (numN (c :: r)) 2 else .one 2 (numN (c :: r))) else .bad 0 2) else if isY c = true then .one 3 1 else .bad 0 2 := rfl
inductive Good : Nat → List UInt8 → List UInt8 → Prop
 | name {c : UInt8} {r : List UInt8} (h1 : c ≠ 35) (h2 : c ≠ 32) (h3 : isL c = true) (h4 : nameN (c :: r) ≤ 24) : Good 1 ((c :: r).take (nameN (c :: r))) (c :: r)
 | num {c : UInt8} {r : List UInt8} (h1 : c ≠ 35) (h2 : c ≠ 32) (h3 : isL c = false) (h4 : 0 < numN (c :: r)) (h5 : prsB ((c :: r).take (numN (c :: r))) = true) (h6 : aft ((c :: r).drop (numN (c :: r))).head? = false) : Good 2 ((c :: r).take (numN (c :: r))) (c :: r)
 | sym {c : UInt8} {r : List UInt8} (h1 : c ≠ 35) (h2 : c ≠ 32) (h3 : isL c = false) (h4 : numN (c :: r) = 0) (h5 : isY c = true) : Good 3 [c] (c :: r)
theorem stepT_good {s : List UInt8} {k n : Nat} (h : stepT s = .one k n) : Good k (s.take n) s ∧ 0 < n ∧ n ≤ s.length := by
 cases s with
 | nil => cases h
 | cons c r =>
  have h1 := nameN_le (c :: r)
  have h2 := numN_le (c :: r)
  rw [stepT_cons] at h
  by_cases a1 : c = 35
  ·rw [if_pos a1] at h; cases h
  rw [if_neg a1] at h
  by_cases a2 : c = 32
  ·rw [if_pos a2] at h; cases h
  rw [if_neg a2] at h
  by_cases a3 : isL c = true
  ·rw [if_pos a3] at h
   by_cases a4 : nameN (c :: r) > 24
   ·rw [if_pos a4] at h; cases h
   ·rw [if_neg a4] at h
    injection h with e1 e2; subst e1; subst e2
    exact ⟨.name a1 a2 a3 (by omega), nameN_pos a3, h1⟩
  rw [if_neg a3] at h
  have a3' : isL c = false := by simpa using a3
  by_cases a4 : numN (c :: r) > 0
  ·rw [if_pos a4] at h
   by_cases a5 : prsB ((c :: r).take (numN (c :: r))) = true
   ·rw [if_pos a5] at h
    by_cases a6 : aft ((c :: r).drop (numN (c :: r))).head? = true
    ·rw [if_pos a6] at h; cases h
    ·rw [if_neg a6] at h
     injection h with e1 e2; subst e1; subst e2
     exact ⟨.num a1 a2 a3' a4 a5 (by simpa using a6), a4, h2⟩
   ·rw [if_neg a5] at h; cases h
  rw [if_neg a4] at h
  by_cases a5 : isY c = true
  ·rw [if_pos a5] at h
   injection h with e1 e2; subst e1; subst e2
   exact ⟨.sym a1 a2 a3' (by omega) a5, by omega, by simp⟩
  ·rw [if_neg a5] at h; cases h
theorem tw_app {p : UInt8 → Bool} {rest : List UInt8} (h : ∀ d, rest.head? = some d → p d = false) : ∀ t : List UInt8, (t ++ rest).takeWhile p = t.takeWhile p
 | [] => by
  cases rest with
  | nil => rfl
  | cons d r => rw [List.nil_append, List.takeWhile_cons_of_neg (by simp [h d rfl])]; rfl
 | c :: t => by
  rw [List.cons_append, List.takeWhile_cons, List.takeWhile_cons, tw_app h t]
theorem tw_take {p : UInt8 → Bool} : ∀ (s : List UInt8) (k : Nat), (s.takeWhile p).length ≤ k → (s.take k).takeWhile p = s.takeWhile p
 | [], _, _ => by simp
 | c :: s, 0, h => by
  rw [List.takeWhile_cons] at h ⊢
  split at h
  ·simp at h
  ·rename_i z; rw [if_neg z]; rfl
 | c :: s, k + 1, h => by
  rw [List.take_succ_cons, List.takeWhile_cons, List.takeWhile_cons]
  rw [List.takeWhile_cons] at h
  split at h
  ·rename_i z
   rw [if_pos z, if_pos z, tw_take s k (by simpa using h)]
  ·rename_i z
   rw [if_neg z, if_neg z]
def stp (r : List UInt8) : Prop := ∀ d, r.head? = some d → d = 32 ∨ d = 35
theorem digN_app {rest : List UInt8} (h : stp rest) (t : List UInt8) : digN (t ++ rest) = digN t := by
 unfold digN
 rw [tw_app (fun d hd => by rcases h d hd with rfl | rfl <;> rfl)]
theorem nameN_app {rest : List UInt8} (h : stp rest) (t : List UInt8) : nameN (t ++ rest) = nameN t := by
 unfold nameN
 rw [tw_app (fun d hd => by rcases h d hd with rfl | rfl <;> rfl)]
theorem head_app {t rest : List UInt8} (h : stp rest) {c : UInt8} (h1 : c ≠ 32) (h2 : c ≠ 35) : ((t ++ rest).head? = some c ↔ t.head? = some c) := by
 cases t with
 | nil =>
  constructor
  ·intro y
   rcases h c y with e | e
   ·exact absurd e h1
   ·exact absurd e h2
  ·intro y; cases y
 | cons d r => exact Iff.rfl
theorem sgN_app {rest : List UInt8} (h : stp rest) (t : List UInt8) : sgN (t ++ rest) = sgN t := by
 unfold sgN
 have := head_app (t := t) h (c := 45) (by decide) (by decide)
 by_cases y : t.head? = some 45
 ·rw [if_pos y, if_pos (this.2 y)]
 ·rw [if_neg y, if_neg (fun z => y (this.1 z))]
theorem drop_app {t rest : List UInt8} {k : Nat} (hk : k ≤ t.length) : (t ++ rest).drop k = t.drop k ++ rest := by
 rw [List.drop_append_of_le_length hk]
theorem wholeN_app {rest : List UInt8} (h : stp rest) (t : List UInt8) : wholeN (t ++ rest) = wholeN t := by
 unfold wholeN
 rw [sgN_app h, drop_app (sgN_le t), digN_app h]
theorem head_lt {s : List UInt8} {k : Nat} {c : UInt8} (h : (s.drop k).head? = some c) : k < s.length := by
 cases hd : s.drop k with
 | nil => rw [hd] at h; cases h
 | cons d r =>
  have := congrArg List.length hd
  rw [List.length_drop] at this
  simp at this; omega
theorem fracN_app {rest : List UInt8} (h : stp rest) (t : List UInt8) : fracN (t ++ rest) = fracN t := by
 unfold fracN
 rw [wholeN_app h, drop_app (wholeN_le t)]
 have := head_app (t := t.drop (wholeN t)) h (c := 46) (by decide) (by decide)
 by_cases y : (t.drop (wholeN t)).head? = some 46
 ·rw [if_pos y, if_pos (this.2 y), drop_app (show wholeN t + 1 ≤ t.length from head_lt y), digN_app h]
 ·rw [if_neg y, if_neg (fun z => y (this.1 z))]
theorem numN_app {rest : List UInt8} (h : stp rest) (t : List UInt8) : numN (t ++ rest) = numN t := by
 unfold numN
 rw [sgN_app h, drop_app (sgN_le t), digN_app h, wholeN_app h, fracN_app h]
theorem aft_stp {rest : List UInt8} (h : stp rest) : aft rest.head? = false := by
 cases hh : rest.head? with
 | none => rfl
 | some d => rcases h d hh with rfl | rfl <;> rfl
theorem stepT_app {a rest : List UInt8} (ha : a ≠ []) (h : stp rest) : stepT (a ++ rest) = stepT a := by
 cases a with
 | nil => exact absurd rfl ha
 | cons c r =>
  have hn := numN_app h (c :: r)
  have hm := nameN_app h (c :: r)
  have hl := numN_le (c :: r)
  have ht : (c :: r ++ rest).take (numN (c :: r)) = (c :: r).take (numN (c :: r)) := List.take_append_of_le_length hl
  have hd : aft ((c :: r ++ rest).drop (numN (c :: r))).head? = aft ((c :: r).drop (numN (c :: r))).head? := by
   rw [drop_app hl]
   cases hx : (c :: r).drop (numN (c :: r)) with
   | nil => rw [List.nil_append, aft_stp h]; rfl
   | cons d x => rfl
  rw [List.cons_append] at *
  rw [stepT_cons, stepT_cons, hn, hm, ht, hd]
theorem sgN_take {s : List UInt8} {k : Nat} (hk : 0 < k) : sgN (s.take k) = sgN s := by
 unfold sgN
 cases s with
 | nil => rw [List.take_nil]
 | cons c r =>
  obtain ⟨m, rfl⟩ := Nat.exists_eq_succ_of_ne_zero (show k ≠ 0 by omega)
  rfl
theorem drop_take (s : List UInt8) (j k : Nat) : (s.take k).drop j = (s.drop j).take (k - j) := List.drop_take
theorem digN_take {s : List UInt8} {k : Nat} (h : digN s ≤ k) : digN (s.take k) = digN s := by
 unfold digN at h ⊢
 rw [tw_take s k h]
theorem head_take {s : List UInt8} {k : Nat} (h : 0 < k) : (s.take k).head? = s.head? := by
 cases s with
 | nil => rw [List.take_nil]
 | cons c r =>
  obtain ⟨m, rfl⟩ := Nat.exists_eq_succ_of_ne_zero (show k ≠ 0 by omega)
  rfl
theorem numN_take {s : List UInt8} (h : 0 < numN s) : numN (s.take (numN s)) = numN s := by
 have hd : digN (s.drop (sgN s)) ≠ 0 := by
  intro z
  unfold numN at h
  rw [if_pos z] at h; omega
 have hn : numN s = wholeN s + fracN s := by unfold numN; rw [if_neg hd]
 have hw : sgN s + digN (s.drop (sgN s)) = wholeN s := rfl
 have e1 : sgN (s.take (numN s)) = sgN s := sgN_take h
 have e2 : digN ((s.take (numN s)).drop (sgN s)) = digN (s.drop (sgN s)) := by
  rw [drop_take]; exact digN_take (by omega)
 have e3 : wholeN (s.take (numN s)) = wholeN s := by
  show sgN (s.take (numN s)) + digN ((s.take (numN s)).drop (sgN (s.take (numN s)))) = _
  rw [e1, e2, hw]
 have e4 : fracN (s.take (numN s)) = fracN s := by
  by_cases hf : fracN s = 0
  ·have hl : wholeN (s.take (numN s)) + fracN (s.take (numN s)) ≤ (s.take (numN s)).length := fracN_le _
   rw [List.length_take] at hl
   omega
  ·have hf2 := hf
   unfold fracN at hf2
   have y : (s.drop (wholeN s)).head? = some 46 := Classical.byContradiction fun z => hf2 (if_neg z)
   rw [if_pos y] at hf2
   have z : digN (s.drop (wholeN s + 1)) ≠ 0 := fun z => hf2 (if_pos z)
   have hv : fracN s = 1 + digN (s.drop (wholeN s + 1)) := by unfold fracN; rw [if_pos y, if_neg z]
   have y2 : ((s.take (numN s)).drop (wholeN s)).head? = some 46 := by
    rw [drop_take, head_take (by omega)]; exact y
   have z2 : digN ((s.take (numN s)).drop (wholeN s + 1)) = digN (s.drop (wholeN s + 1)) := by
    rw [drop_take]; exact digN_take (by omega)
   have : fracN (s.take (numN s)) = if ((s.take (numN s)).drop (wholeN (s.take (numN s)))).head? = some 46 then (if digN ((s.take (numN s)).drop (wholeN (s.take (numN s)) + 1)) = 0 then 0 else 1 + digN ((s.take (numN s)).drop (wholeN (s.take (numN s)) + 1))) else 0 := rfl
   rw [this, e3, if_pos y2, z2, if_neg z, hv]
 have : numN (s.take (numN s)) = if digN ((s.take (numN s)).drop (sgN (s.take (numN s)))) = 0 then 0 else wholeN (s.take (numN s)) + fracN (s.take (numN s)) := rfl
 rw [this, e1, e2, if_neg hd, e3, e4, hn]
theorem take_cons {c : UInt8} {r : List UInt8} {n : Nat} (h : 0 < n) : (c :: r).take n = c :: r.take (n - 1) := by
 obtain ⟨m, rfl⟩ := Nat.exists_eq_succ_of_ne_zero (show n ≠ 0 by omega)
 rfl
theorem stepT_alone {s : List UInt8} {k n : Nat} (h : stepT s = .one k n) : stepT (s.take n) = .one k n := by
 cases s with
 | nil => cases h
 | cons c r =>
  have h' := h
  rw [stepT_cons] at h
  by_cases a1 : c = 35
  ·rw [if_pos a1] at h; cases h
  rw [if_neg a1] at h
  by_cases a2 : c = 32
  ·rw [if_pos a2] at h; cases h
  rw [if_neg a2] at h
  by_cases a3 : isL c = true
  ·rw [if_pos a3] at h
   by_cases a4 : nameN (c :: r) > 24
   ·rw [if_pos a4] at h; cases h
   ·rw [if_neg a4] at h
    injection h with e1 e2; subst e1; subst e2
    have hs : nameN ((c :: r).take (nameN (c :: r))) = nameN (c :: r) := by
     unfold nameN
     rw [tw_take _ _ (Nat.le_refl _)]
    have hp := nameN_pos (r := r) a3
    generalize nameN (c :: r) = n at *
    rw [take_cons hp] at hs ⊢
    rw [stepT_cons, if_neg a1, if_neg a2, if_pos a3, hs, if_neg a4]
  rw [if_neg a3] at h
  by_cases a4 : numN (c :: r) > 0
  ·rw [if_pos a4] at h
   by_cases a5 : prsB ((c :: r).take (numN (c :: r))) = true
   ·rw [if_pos a5] at h
    by_cases a6 : aft ((c :: r).drop (numN (c :: r))).head? = true
    ·rw [if_pos a6] at h; cases h
    ·rw [if_neg a6] at h
     injection h with e1 e2; subst e1; subst e2
     have hs := numN_take a4
     have hx : ((c :: r).take (numN (c :: r))).take (numN (c :: r)) = (c :: r).take (numN (c :: r)) := by rw [List.take_take, Nat.min_self]
     have hy : ((c :: r).take (numN (c :: r))).drop (numN (c :: r)) = [] := by rw [drop_take, Nat.sub_self]; rfl
     generalize numN (c :: r) = n at *
     rw [take_cons a4] at hs hx hy a5 ⊢
     rw [stepT_cons, if_neg a1, if_neg a2, if_neg a3, hs, if_pos a4, hx, if_pos a5, hy]
     rfl
   ·rw [if_neg a5] at h; cases h
  rw [if_neg a4] at h
  by_cases a5 : isY c = true
  ·rw [if_pos a5] at h
   injection h with e1 e2; subst e1; subst e2
   have hz : numN [c] = 0 := by
    have hc : isD c = false ∧ c ≠ 45 := by
     unfold isY at a5
     simp only [Bool.or_eq_true, beq_iff_eq] at a5
     rcases a5 with ((((rfl | rfl) | rfl) | rfl) | rfl) | rfl <;> exact ⟨rfl, by decide⟩
    have hsg : sgN [c] = 0 := by unfold sgN; rw [if_neg (by simpa using hc.2)]
    unfold numN
    rw [hsg]
    rw [if_pos]
    show digN [c] = 0
    unfold digN
    rw [List.takeWhile_cons_of_neg (by simp [hc.1])]; rfl
   show stepT [c] = _
   rw [stepT_cons, if_neg a1, if_neg a2, if_neg a3, hz, if_neg (by omega), if_pos a5]
  ·rw [if_neg a5] at h; cases h
theorem toks_fin {f : Nat} {s : List UInt8} {a : Nat} (h : stepT s = .fin) : toks (f + 1) s a = ⟨[], 0, 0⟩ := by
 unfold toks; rw [h]
theorem toks_space {f : Nat} {s : List UInt8} {a : Nat} (h : stepT s = .space) : toks (f + 1) s a = toks f (s.drop 1) (a + 1) := by
 conv => lhs; unfold toks
 rw [h]
theorem toks_bad {f : Nat} {s : List UInt8} {a p e : Nat} (h : stepT s = .bad p e) : toks (f + 1) s a = ⟨[], a + p, e⟩ := by
 unfold toks; rw [h]
theorem toks_one {f : Nat} {s : List UInt8} {a k n : Nat} (h : stepT s = .one k n) : toks (f + 1) s a = if (toks f (s.drop n) (a + n)).e = 0 then ⟨⟨k, a, s.take n⟩ :: (toks f (s.drop n) (a + n)).l, 0, 0⟩ else toks f (s.drop n) (a + n) := by
 conv => lhs; unfold toks
 rw [h]
theorem stepT_nil : stepT [] = .fin := rfl
theorem stepT_space {s : List UInt8} (h : stepT s = .space) : ∃ r, s = 32 :: r := by
 cases s with
 | nil => cases h
 | cons c r =>
  rw [stepT_cons] at h
  by_cases a1 : c = 35
  ·rw [if_pos a1] at h; cases h
  rw [if_neg a1] at h
  by_cases a2 : c = 32
  ·exact ⟨r, by rw [a2]⟩
  ·rw [if_neg a2] at h
   split at h
   ·split at h <;> cases h
   ·split at h
    ·split at h
     ·split at h <;> cases h
     ·cases h
    ·split at h <;> cases h
theorem stepT_fin {s : List UInt8} (h : stepT s = .fin) : s = [] ∨ ∃ r, s = 35 :: r := by
 cases s with
 | nil => exact .inl rfl
 | cons c r =>
  rw [stepT_cons] at h
  by_cases a1 : c = 35
  ·exact .inr ⟨r, by rw [a1]⟩
  rw [if_neg a1] at h
  by_cases a2 : c = 32
  ·rw [if_pos a2] at h; cases h
  ·rw [if_neg a2] at h
   split at h
   ·split at h <;> cases h
   ·split at h
    ·split at h
     ·split at h <;> cases h
     ·cases h
    ·split at h <;> cases h
theorem stepT_bad0 {s : List UInt8} {p : Nat} (h : stepT s = .bad p 0) : False := by
 cases s with
 | nil => cases h
 | cons c r =>
  rw [stepT_cons] at h
  split at h
  ·cases h
  ·split at h
   ·cases h
   ·split at h
    ·split at h <;> cases h
    ·split at h
     ·split at h
      ·split at h <;> cases h
      ·cases h
     ·split at h <;> cases h
theorem space_32 (r : List UInt8) : stepT (32 :: r) = .space := by rw [stepT_cons]; rfl
theorem fin_35 (r : List UInt8) : stepT (35 :: r) = .fin := by rw [stepT_cons]; rfl
theorem toks_fuel : ∀ (f g : Nat) (s : List UInt8) (a : Nat), s.length < f → s.length < g → toks f s a = toks g s a
 | 0, _, _, _, h, _ => absurd h (by omega)
 | _ + 1, 0, _, _, _, h => absurd h (by omega)
 | f + 1, g + 1, s, a, h1, h2 => by
  cases hs : stepT s with
  | fin => rw [toks_fin hs, toks_fin hs]
  | bad p e => rw [toks_bad hs, toks_bad hs]
  | space =>
   obtain ⟨r, rfl⟩ := stepT_space hs
   rw [toks_space hs, toks_space hs]
   exact toks_fuel f g _ _ (by simp at *; omega) (by simp at *; omega)
  | one k n =>
   obtain ⟨_, hn, hn2⟩ := stepT_good hs
   rw [toks_one hs, toks_one hs, toks_fuel f g (s.drop n) (a + n) (by rw [List.length_drop]; omega) (by rw [List.length_drop]; omega)]
theorem stp_32 (r : List UInt8) : stp (32 :: r) := fun d h => .inl (by injection h with h; exact h.symm)
theorem stp_35 (r : List UInt8) : stp (35 :: r) := fun d h => .inr (by injection h with h; exact h.symm)
theorem toks_comment : ∀ (f : Nat) (s c d : List UInt8) (a : Nat), toks f (s ++ 35 :: c) a = toks f (s ++ 35 :: d) a
 | 0, _, _, _, _ => rfl
 | f + 1, [], c, d, a => by
  rw [List.nil_append, List.nil_append, toks_fin (fin_35 c), toks_fin (fin_35 d)]
 | f + 1, x :: s, c, d, a => by
  have e1 := stepT_app (a := x :: s) (by simp) (stp_35 c)
  have e2 := stepT_app (a := x :: s) (by simp) (stp_35 d)
  cases hs : stepT (x :: s) with
  | fin => rw [toks_fin (e1.trans hs), toks_fin (e2.trans hs)]
  | bad p e => rw [toks_bad (e1.trans hs), toks_bad (e2.trans hs)]
  | space =>
   rw [toks_space (e1.trans hs), toks_space (e2.trans hs)]
   exact toks_comment f s c d (a + 1)
  | one k n =>
   obtain ⟨_, hn, hn2⟩ := stepT_good hs
   rw [toks_one (e1.trans hs), toks_one (e2.trans hs), drop_app hn2, drop_app hn2, List.take_append_of_le_length hn2, List.take_append_of_le_length hn2, toks_comment f _ c d]
def ktx (x : Tk) : Nat × List UInt8 := (x.kind, x.text)
theorem toks_shift : ∀ (f : Nat) (s : List UInt8) (a b : Nat), (toks f s a).e = (toks f s b).e ∧ (toks f s a).l.map ktx = (toks f s b).l.map ktx
 | 0, _, _, _ => ⟨rfl, rfl⟩
 | f + 1, s, a, b => by
  cases hs : stepT s with
  | fin => rw [toks_fin hs, toks_fin hs]; exact ⟨rfl, rfl⟩
  | bad p e => rw [toks_bad hs, toks_bad hs]; exact ⟨rfl, rfl⟩
  | space => rw [toks_space hs, toks_space hs]; exact toks_shift f _ _ _
  | one k n =>
   have := toks_shift f (s.drop n) (a + n) (b + n)
   rw [toks_one hs, toks_one hs]
   by_cases z : (toks f (s.drop n) (a + n)).e = 0
   ·rw [if_pos z, if_pos (by rw [← this.1]; exact z)]
    exact ⟨rfl, by rw [List.map_cons, List.map_cons, this.2]; rfl⟩
   ·rw [if_neg z, if_neg (by rw [← this.1]; exact z)]
    exact this
def jt : List Tk → List UInt8
 | [] => []
 | x :: l => 32 :: (x.text ++ jt l)
theorem stp_jt (l : List Tk) : stp (jt l) := by
 cases l with
 | nil => intro d h; cases h
 | cons x l => exact stp_32 _
theorem toks_joined : ∀ (f : Nat) (s : List UInt8) (a : Nat), (toks f s a).e = 0 → ∀ (g b : Nat), (jt (toks f s a).l).length < g → (toks g (jt (toks f s a).l) b).e = 0 ∧ (toks g (jt (toks f s a).l) b).l.map ktx = (toks f s a).l.map ktx
 | 0, s, a, _, g, b, hg => by
  obtain ⟨g, rfl⟩ := Nat.exists_eq_succ_of_ne_zero (show g ≠ 0 by omega)
  show (toks (g + 1) [] b).e = 0 ∧ _
  exact ⟨rfl, rfl⟩
 | f + 1, s, a, h, g, b, hg => by
  obtain ⟨g, rfl⟩ := Nat.exists_eq_succ_of_ne_zero (show g ≠ 0 by omega)
  cases hs : stepT s with
  | fin => rw [toks_fin hs] at *; exact ⟨rfl, rfl⟩
  | bad p e => rw [toks_bad hs] at *; exact ⟨rfl, rfl⟩
  | space => rw [toks_space hs] at *; exact toks_joined f _ _ h _ _ hg
  | one k n =>
   obtain ⟨_, hn, hn2⟩ := stepT_good hs
   have hal := stepT_alone hs
   rw [toks_one hs] at h hg ⊢
   by_cases z : (toks f (s.drop n) (a + n)).e = 0
   ·rw [if_pos z] at h hg ⊢
    have ih := toks_joined f (s.drop n) (a + n) z
    generalize hl : (toks f (s.drop n) (a + n)).l = l at *
    have hj : jt (⟨k, a, s.take n⟩ :: l) = 32 :: (s.take n ++ jt l) := rfl
    simp only at hg ⊢
    rw [hj] at hg ⊢
    rw [toks_space (space_32 _)]
    have htl : (s.take n).length = n := by rw [List.length_take]; omega
    rw [List.length_cons, List.length_append, htl] at hg
    obtain ⟨g, rfl⟩ := Nat.exists_eq_succ_of_ne_zero (show g ≠ 0 by omega)
    have hne : s.take n ≠ [] := fun y => by rw [y] at htl; simp at htl; omega
    have hst : stepT (s.take n ++ jt l) = .one k n := (stepT_app hne (stp_jt l)).trans hal
    have hd : (s.take n ++ jt l).drop n = jt l := List.drop_left' htl
    have ht : (s.take n ++ jt l).take n = s.take n := List.take_left' htl
    show (toks (g + 1) (s.take n ++ jt l) (b + 1)).e = 0 ∧ _
    rw [show List.drop 1 (32 :: (s.take n ++ jt l)) = s.take n ++ jt l from rfl, toks_one hst, hd, ht]
    have := ih g (b + 1 + n) (by omega)
    rw [if_pos this.1]
    exact ⟨rfl, by rw [List.map_cons, List.map_cons, this.2]; rfl⟩
   ·rw [if_neg z] at h
    exact absurd h z
def cov (s : List UInt8) : Nat → List Tk → Prop
 | a, [] => ∃ m, a ≤ m ∧ m ≤ s.length ∧ (∀ i, a ≤ i → i < m → s[i]? = some 32) ∧ (s[m]? = none ∨ s[m]? = some 35)
 | a, x :: l => a ≤ x.pos ∧ x.pos + x.text.length ≤ s.length ∧ x.text ≠ [] ∧ (s.drop x.pos).take x.text.length = x.text ∧ (∀ i, a ≤ i → i < x.pos → s[i]? = some 32) ∧ cov s (x.pos + x.text.length) l
theorem cov_space {s : List UInt8} {a : Nat} {l : List Tk} (h : s[a]? = some 32) (hc : cov s (a + 1) l) : cov s a l := by
 cases l with
 | nil =>
  obtain ⟨m, h1, h2, h3, h4⟩ := hc
  refine ⟨m, by omega, h2, fun i hi hm => ?_, h4⟩
  by_cases e : i = a
  ·rw [e]; exact h
  ·exact h3 i (by omega) hm
 | cons x l =>
  obtain ⟨h1, h2, h3, h4, h5, h6⟩ := hc
  refine ⟨by omega, h2, h3, h4, fun i hi hm => ?_, h6⟩
  by_cases e : i = a
  ·rw [e]; exact h
  ·exact h5 i (by omega) hm
theorem drop_head {s : List UInt8} {a : Nat} {c : UInt8} {r : List UInt8} (h : s.drop a = c :: r) : s[a]? = some c ∧ a < s.length := by
 have h1 := congrArg List.length h
 rw [List.length_drop] at h1
 simp at h1
 have h2 : (s.drop a)[0]? = some c := by rw [h]; rfl
 rw [List.getElem?_drop] at h2
 exact ⟨h2, by omega⟩
theorem toks_cov : ∀ (f : Nat) (s : List UInt8) (a : Nat), a ≤ s.length → s.length - a < f → (toks f (s.drop a) a).e = 0 → cov s a (toks f (s.drop a) a).l
  | 0, _, _, _, h, _ => absurd h (by omega)
  | f + 1, s, a, ha, hf, h => by
    cases hs : stepT (s.drop a) with
    | fin =>
      rw [toks_fin hs]
      refine ⟨a, Nat.le_refl _, ha, fun i h1 h2 => absurd h1 (by omega), ?_⟩
      rcases stepT_fin hs with e | ⟨r, e⟩
      · left
        have := congrArg List.length e
        rw [List.length_drop] at this
        simp at this
        exact List.getElem?_eq_none (by omega)
      · exact .inr (drop_head e).1
    | bad p e => rw [toks_bad hs] at *; exact absurd h (by
        show ¬ e = 0
        intro z
        subst z
        exact stepT_bad0 hs)
    | space =>
      obtain ⟨r, e⟩ := stepT_space hs
      have hd := drop_head e
      rw [toks_space hs, List.drop_drop] at h ⊢
      exact cov_space hd.1 (toks_cov f s (a + 1) (by omega) (by omega) h)
    | one k n =>
      obtain ⟨_, hn, hn2⟩ := stepT_good hs
      rw [List.length_drop] at hn2
      rw [toks_one hs, List.drop_drop] at h ⊢
      by_cases z : (toks f (s.drop (a + n)) (a + n)).e = 0
      · rw [if_pos z]
        have htl : ((s.drop a).take n).length = n := by rw [List.length_take, List.length_drop]; omega
        have hne : (s.drop a).take n ≠ [] := fun y => by rw [y] at htl; simp at htl; omega
        have hc := toks_cov f s (a + n) (by omega) (by omega) z
        show a ≤ a ∧ a + ((s.drop a).take n).length ≤ s.length ∧ (s.drop a).take n ≠ [] ∧ (s.drop a).take ((s.drop a).take n).length = (s.drop a).take n ∧ (∀ i, a ≤ i → i < a → s[i]? = some 32) ∧ cov s (a + ((s.drop a).take n).length) _
        rw [htl]
        exact ⟨Nat.le_refl _, by omega, hne, rfl, fun i h1 h2 => absurd h1 (by omega), hc⟩
      · rw [if_neg z] at h; exact absurd h z
def nameB (s : List UInt8) : Bool := decide (0 < s.length) && decide (s.length ≤ 24) && (match s with | c :: _ => isL c | [] => false) && decide (nameN s = s.length)
theorem isL_ne {c : UInt8} (h : isL c = true) : c ≠ 35 ∧ c ≠ 32 := ⟨(fun e => by rw [e] at h; exact absurd h (by decide)), (fun e => by rw [e] at h; exact absurd h (by decide))⟩
theorem toks_name {s : List UInt8} (h : nameB s = true) (f : Nat) : toks (f + 2) s 0 = ⟨[⟨1, 0, s⟩], 0, 0⟩ := by
 cases s with
 | nil => cases h
 | cons c r =>
  unfold nameB at h
  simp only [Bool.and_eq_true, decide_eq_true_eq] at h
  obtain ⟨⟨⟨h1, h2⟩, h3⟩, h4⟩ := h
  have hs : stepT (c :: r) = .one 1 (c :: r).length := by
   rw [stepT_cons, if_neg (isL_ne h3).1, if_neg (isL_ne h3).2, if_pos h3, h4, if_neg (by omega)]
  rw [toks_one hs, List.drop_length, List.take_length, toks_fin stepT_nil, if_pos rfl]
end Go.Proofs.YtpdjgamdnjfmkaaDoor
namespace Go.Proofs.YtpdjgamdnjfmkaaDoor
open Go.RowKit
theorem ixb_cons (b : UInt8) (l : List UInt8) (c : UInt8) : Lib.indexByte (b :: l) c = if b == c then 0 else if Lib.indexByte l c == -1 then -1 else Lib.indexByte l c + 1 := rfl
theorem ixb_eq {b c : UInt8} (l : List UInt8) (h : b = c) : Lib.indexByte (b :: l) c = 0 := by
 rw [ixb_cons, if_pos (beq_iff_eq.2 h)]
theorem ixb_no {b c : UInt8} {l : List UInt8} (h : b ≠ c) (y : Lib.indexByte l c = -1) : Lib.indexByte (b :: l) c = -1 := by
 rw [ixb_cons, if_neg (fun z => h (beq_iff_eq.1 z)), if_pos (beq_iff_eq.2 y)]
theorem ixb_in {b c : UInt8} {l : List UInt8} (h : b ≠ c) (y : Lib.indexByte l c ≠ -1) : Lib.indexByte (b :: l) c = Lib.indexByte l c + 1 := by
 rw [ixb_cons, if_neg (fun z => h (beq_iff_eq.1 z)), if_neg (fun z => y (beq_iff_eq.1 z))]
theorem ixb_count : ∀ (s : List UInt8) (c : UInt8), Lib.indexByte s c = -1 ↔ s.count c = 0
 | [], _ => by constructor <;> intro _ <;> rfl
 | b :: l, c => by
  have ih := ixb_count l c
  have hg := Lib.indexByte_ge l c
  by_cases h : b = c
  ·rw [ixb_eq l h]
   subst h
   rw [List.count_cons_self]
   constructor <;> intro z <;> omega
  ·rw [List.count_cons_of_ne h]
   by_cases y : Lib.indexByte l c = -1
   ·rw [ixb_no h y]; exact ⟨fun _ => ih.1 y, fun _ => rfl⟩
   ·rw [ixb_in h y]
    constructor
    ·intro z; omega
    ·intro z; exact absurd (ih.2 z) y
end Go.Proofs.YtpdjgamdnjfmkaaDoor
namespace Go.Proofs.YtpdjgamdnjfmkaaDoor
open Go.RowKit
def resT {T : Type} (f : Tk → T) (out : List T) (S : TS) : List T × Int × Int := if S.e = 0 then (out ++ S.l.map f, 0, 0) else ([], (S.pos : Int), (S.e : Int))
section
variable {T : Type} {f : Tk → T} {out : List T} {s : List UInt8} {a : Nat}
theorem resT_fin (h : stepT (s.drop a) = .fin) : resT f out (toks (s.length - a + 1) (s.drop a) a) = (out, 0, 0) := by
 rw [toks_fin h]
 simp [resT]
theorem resT_bad {p e : Nat} (h : stepT (s.drop a) = .bad p e) : resT f out (toks (s.length - a + 1) (s.drop a) a) = ([], (a : Int) + p, (e : Int)) := by
 rw [toks_bad h]
 unfold resT
 rw [if_neg (fun z => by
  have z : e = 0 := z
  subst z; exact stepT_bad0 h)]
 simp
theorem resT_space (h : stepT (s.drop a) = .space) : resT f out (toks (s.length - a + 1) (s.drop a) a) = resT f out (toks (s.length - (a + 1) + 1) (s.drop (a + 1)) (a + 1)) := by
 obtain ⟨r, hr⟩ := stepT_space h
 have := (drop_head hr).2
 rw [toks_space h, List.drop_drop, toks_fuel _ (s.length - (a + 1) + 1) _ _ (by rw [List.length_drop]; omega) (by rw [List.length_drop]; omega)]
theorem resT_one {k n : Nat} (h : stepT (s.drop a) = .one k n) : resT f out (toks (s.length - a + 1) (s.drop a) a) = resT f (out ++ [f ⟨k, a, (s.drop a).take n⟩]) (toks (s.length - (a + n) + 1) (s.drop (a + n)) (a + n)) := by
 obtain ⟨_, hn, hn2⟩ := stepT_good h
 rw [List.length_drop] at hn2
 rw [toks_one h, List.drop_drop, toks_fuel _ (s.length - (a + n) + 1) _ _ (by rw [List.length_drop]; omega) (by rw [List.length_drop]; omega)]
 generalize toks (s.length - (a + n) + 1) (s.drop (a + n)) (a + n) = S
 unfold resT
 by_cases z : S.e = 0
 ·rw [if_pos z, if_pos z, if_pos rfl]
  simp
 ·rw [if_neg z, if_neg z, if_neg z]
end
structure LnT where
 num : Nat
 l : List Tk
structure LS where
 l : List LnT
 n : Nat
 e : Nat
def tokL (s : List UInt8) : TS := toks (s.length + 1) s 0
end Go.Proofs.YtpdjgamdnjfmkaaDoor
