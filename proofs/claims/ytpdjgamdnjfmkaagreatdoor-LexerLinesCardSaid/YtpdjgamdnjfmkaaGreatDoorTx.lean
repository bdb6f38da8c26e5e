/-
  Tk, Tl, Tn in one text.
-/
import Derived.Test.YtpdjgamdnjfmkaaGreatDoorJy
import Derived.Lib.Split
import Derived.Lib.SplitLaws
import Derived.Lib.IndexBytes
namespace Go.Proofs.YtpdjgamdnjfmkaaGreatDoor
open Go.RowKit
def isL (c : UInt8) : Bool := (decide (97 ≤ c.toNat) && decide (c.toNat ≤ 122)) || (decide (65 ≤ c.toNat) && decide (c.toNat ≤ 90))
def inN (c : UInt8) : Bool := isL c || isD c || c == 95 || c == 45
def isY (c : UInt8) : Bool := c == 61 || c == 44 || c == 59 || c == 58 || c == 40 || c == 41
def nameN (s : List UInt8) : Nat := (s.takeWhile inN).length
def digN (s : List UInt8) : Nat := (s.takeWhile isD).length
def sgN (s : List UInt8) : Nat := if s.head? = some 45 then 1 else 0
def wholeN (s : List UInt8) : Nat := sgN s + digN (s.drop (sgN s))
def fracN (s : List UInt8) : Nat := if (s.drop (wholeN s)).head? = some 46 then (if digN (s.drop (wholeN s + 1)) = 0 then 0 else 1 + digN (s.drop (wholeN s + 1))) else 0
def numN (s : List UInt8) : Nat := if digN (s.drop (sgN s)) = 0 then 0 else wholeN s + fracN s
structure Tk where
 kind : Nat
 pos : Nat
 text : List UInt8
inductive TR where
 | fin
 | space
 | bad (p e : Nat)
 | one (k n : Nat)
def aft (o : Option UInt8) : Bool := match o with
 | none => false
 | some d => isL d || d == 95 || d == 46
def stepT (s : List UInt8) : TR := match s with
 | [] => .fin
 | c :: _ =>
  if c = 35 then .fin
  else if c = 32 then .space
  else if isL c = true then (if nameN s > 24 then .bad 0 3 else .one 1 (nameN s))
  else if numN s > 0 then (if prsB (s.take (numN s)) = true then (if aft (s.drop (numN s)).head? = true then .bad (numN s) 2 else .one 2 (numN s)) else .bad 0 2)
  else if isY c = true then .one 3 1
  else .bad 0 2
structure TS where
 l : List Tk
 pos : Nat
 e : Nat
def toks : Nat → List UInt8 → Nat → TS
 | 0, _, _ => ⟨[], 0, 0⟩
 | f + 1, s, a => match stepT s with
  | .fin => ⟨[], 0, 0⟩
  | .space => toks f (s.drop 1) (a + 1)
  | .bad p e => ⟨[], a + p, e⟩
  | .one k n => if (toks f (s.drop n) (a + n)).e = 0 then ⟨⟨k, a, s.take n⟩ :: (toks f (s.drop n) (a + n)).l, 0, 0⟩ else toks f (s.drop n) (a + n)
theorem digN_le (s : List UInt8) : digN s ≤ s.length := (List.takeWhile_sublist _).length_le
theorem nameN_le (s : List UInt8) : nameN s ≤ s.length := (List.takeWhile_sublist _).length_le
theorem sgN_le (s : List UInt8) : sgN s ≤ s.length := by
 unfold sgN
 cases s with
 | nil => simp
 | cons c r => split <;> simp
theorem wholeN_le (s : List UInt8) : wholeN s ≤ s.length := by
 unfold wholeN
 have := digN_le (s.drop (sgN s))
 have := sgN_le s
 rw [List.length_drop] at *
 omega
theorem fracN_le (s : List UInt8) : wholeN s + fracN s ≤ s.length := by
 have h1 := wholeN_le s
 unfold fracN
 by_cases h : (s.drop (wholeN s)).head? = some 46
 ·rw [if_pos h]
  have h2 := digN_le (s.drop (wholeN s + 1))
  rw [List.length_drop] at h2
  have h3 : wholeN s < s.length := by
   cases hd : s.drop (wholeN s) with
   | nil => rw [hd] at h; simp at h
   | cons c r =>
    have := congrArg List.length hd
    rw [List.length_drop] at this
    simp at this; omega
  split <;> omega
 ·rw [if_neg h]; omega
theorem numN_le (s : List UInt8) : numN s ≤ s.length := by
 unfold numN
 have := fracN_le s
 split <;> omega
theorem nameN_pos {c : UInt8} {r : List UInt8} (h : isL c = true) : 0 < nameN (c :: r) := by
 unfold nameN
 rw [List.takeWhile_cons_of_pos (by unfold inN; rw [h]; rfl)]
 simp
theorem stepT_cons (c : UInt8) (r : List UInt8) : stepT (c :: r) = if c = 35 then .fin else if c = 32 then .space else if isL c = true then (if nameN (c :: r) > 24 then .bad 0 3 else .one 1 (nameN (c :: r))) else if numN (c :: r) > 0 then (if prsB ((c :: r).take (numN (c :: r))) = true then (if aft ((c :: r).drop (numN (c :: r))).head? = true then .bad (numN (c :: r)) 2 else .one 2 (numN (c :: r))) else .bad 0 2) else if isY c = true then .one 3 1 else .bad 0 2 := rfl
inductive Good : Nat → List UInt8 → List UInt8 → Prop
 | name {c : UInt8} {r : List UInt8} (h1 : c ≠ 35) (h2 : c ≠ 32) (h3 : isL c = true) (h4 : nameN (c :: r) ≤ 24) : Good 1 ((c :: r).take (nameN (c :: r))) (c :: r)
 | num {c : UInt8} {r : List UInt8} (h1 : c ≠ 35) (h2 : c ≠ 32) (h3 : isL c = false) (h4 : 0 < numN (c :: r)) (h5 : prsB ((c :: r).take (numN (c :: r))) = true) (h6 : aft ((c :: r).drop (numN (c :: r))).head? = false) : Good 2 ((c :: r).take (numN (c :: r))) (c :: r)
 | sym {c : UInt8} {r : List UInt8} (h1 : c ≠ 35) (h2 : c ≠ 32) (h3 : isL c = false) (h4 : numN (c :: r) = 0) (h5 : isY c = true) : Good 3 [c] (c :: r)
theorem stepT_good {s : List UInt8} {k n : Nat} (h : stepT s = .one k n) : Good k (s.take n) s ∧ 0 < n ∧ n ≤ s.length := by
 cases s with
 | nil => cases h
 | cons c r =>
  have h1 := nameN_le (c :: r)
  have h2 := numN_le (c :: r)
  rw [stepT_cons] at h
  by_cases a1 : c = 35
  ·rw [if_pos a1] at h; cases h
  rw [if_neg a1] at h
  by_cases a2 : c = 32
  ·rw [if_pos a2] at h; cases h
  rw [if_neg a2] at h
  by_cases a3 : isL c = true
  ·rw [if_pos a3] at h
   by_cases a4 : nameN (c :: r) > 24
   ·rw [if_pos a4] at h; cases h
   ·rw [if_neg a4] at h
    injection h with e1 e2; subst e1; subst e2
    exact ⟨.name a1 a2 a3 (by omega), nameN_pos a3, h1⟩
  rw [if_neg a3] at h
  have a3' : isL c = false := by simpa using a3
  by_cases a4 : numN (c :: r) > 0
  ·rw [if_pos a4] at h
   by_cases a5 : prsB ((c :: r).take (numN (c :: r))) = true
   ·rw [if_pos a5] at h
    by_cases a6 : aft ((c :: r).drop (numN (c :: r))).head? = true
    ·rw [if_pos a6] at h; cases h
    ·rw [if_neg a6] at h
     injection h with e1 e2; subst e1; subst e2
     exact ⟨.num a1 a2 a3' a4 a5 (by simpa using a6), a4, h2⟩
   ·rw [if_neg a5] at h; cases h
  rw [if_neg a4] at h
  by_cases a5 : isY c = true
  ·rw [if_pos a5] at h
   injection h with e1 e2; subst e1; subst e2
   exact ⟨.sym a1 a2 a3' (by omega) a5, by omega, by simp⟩
  ·rw [if_neg a5] at h; cases h
def stp (r : List UInt8) : Prop := ∀ d, r.head? = some d → d = 32 ∨ d = 35
theorem head_lt {s : List UInt8} {k : Nat} {c : UInt8} (h : (s.drop k).head? = some c) : k < s.length := by
 cases hd : s.drop k with
 | nil => rw [hd] at h; cases h
 | cons d r =>
  have := congrArg List.length hd
  rw [List.length_drop] at this
  simp at this; omega
theorem toks_fin {f : Nat} {s : List UInt8} {a : Nat} (h : stepT s = .fin) : toks (f + 1) s a = ⟨[], 0, 0⟩ := by
 unfold toks; rw [h]
theorem toks_space {f : Nat} {s : List UInt8} {a : Nat} (h : stepT s = .space) : toks (f + 1) s a = toks f (s.drop 1) (a + 1) := by
 conv => lhs; unfold toks
 rw [h]
theorem toks_bad {f : Nat} {s : List UInt8} {a p e : Nat} (h : stepT s = .bad p e) : toks (f + 1) s a = ⟨[], a + p, e⟩ := by
 unfold toks; rw [h]
theorem toks_one {f : Nat} {s : List UInt8} {a k n : Nat} (h : stepT s = .one k n) : toks (f + 1) s a = if (toks f (s.drop n) (a + n)).e = 0 then ⟨⟨k, a, s.take n⟩ :: (toks f (s.drop n) (a + n)).l, 0, 0⟩ else toks f (s.drop n) (a + n) := by
 conv => lhs; unfold toks
 rw [h]
theorem stepT_space {s : List UInt8} (h : stepT s = .space) : ∃ r, s = 32 :: r := by
 cases s with
 | nil => cases h
 | cons c r =>
  rw [stepT_cons] at h
  by_cases a1 : c = 35
  ·rw [if_pos a1] at h; cases h
  rw [if_neg a1] at h
  by_cases a2 : c = 32
  ·exact ⟨r, by rw [a2]⟩
  ·rw [if_neg a2] at h
   split at h
   ·split at h <;> cases h
   ·split at h
    ·split at h
     ·split at h <;> cases h
     ·cases h
    ·split at h <;> cases h
theorem stepT_bad0 {s : List UInt8} {p : Nat} (h : stepT s = .bad p 0) : False := by
 cases s with
 | nil => cases h
 | cons c r =>
  rw [stepT_cons] at h
  split at h
  ·cases h
  ·split at h
   ·cases h
   ·split at h
    ·split at h <;> cases h
    ·split at h
     ·split at h
      ·split at h <;> cases h
      ·cases h
     ·split at h <;> cases h
theorem toks_fuel : ∀ (f g : Nat) (s : List UInt8) (a : Nat), s.length < f → s.length < g → toks f s a = toks g s a
 | 0, _, _, _, h, _ => absurd h (by omega)
 | _ + 1, 0, _, _, _, h => absurd h (by omega)
 | f + 1, g + 1, s, a, h1, h2 => by
  cases hs : stepT s with
  | fin => rw [toks_fin hs, toks_fin hs]
  | bad p e => rw [toks_bad hs, toks_bad hs]
  | space =>
   obtain ⟨r, rfl⟩ := stepT_space hs
   rw [toks_space hs, toks_space hs]
   exact toks_fuel f g _ _ (by simp at *; omega) (by simp at *; omega)
  | one k n =>
   obtain ⟨_, hn, hn2⟩ := stepT_good hs
   rw [toks_one hs, toks_one hs, toks_fuel f g (s.drop n) (a + n) (by rw [List.length_drop]; omega) (by rw [List.length_drop]; omega)]
theorem drop_head {s : List UInt8} {a : Nat} {c : UInt8} {r : List UInt8} (h : s.drop a = c :: r) : s[a]? = some c ∧ a < s.length := by
 have h1 := congrArg List.length h
 rw [List.length_drop] at h1
 simp at h1
 have h2 : (s.drop a)[0]? = some c := by rw [h]; rfl
 rw [List.getElem?_drop] at h2
 exact ⟨h2, by omega⟩
end Go.Proofs.YtpdjgamdnjfmkaaGreatDoor
namespace Go.Proofs.YtpdjgamdnjfmkaaGreatDoor
open Go.RowKit
def pcs : List UInt8 → List (List UInt8)
 | [] => [[]]
 | c :: r => if c = 10 then [] :: pcs r else match pcs r with
  | [] => [[c]]
  | p :: ps => (c :: p) :: ps
theorem pcs_cons (c : UInt8) (r : List UInt8) : pcs (c :: r) = if c = 10 then [] :: pcs r else match pcs r with
  | [] => [[c]]
  | p :: ps => (c :: p) :: ps := rfl
theorem ixb_cons (b : UInt8) (l : List UInt8) (c : UInt8) : Lib.indexByte (b :: l) c = if b == c then 0 else if Lib.indexByte l c == -1 then -1 else Lib.indexByte l c + 1 := rfl
theorem ixb_eq {b c : UInt8} (l : List UInt8) (h : b = c) : Lib.indexByte (b :: l) c = 0 := by
 rw [ixb_cons, if_pos (beq_iff_eq.2 h)]
theorem ixb_no {b c : UInt8} {l : List UInt8} (h : b ≠ c) (y : Lib.indexByte l c = -1) : Lib.indexByte (b :: l) c = -1 := by
 rw [ixb_cons, if_neg (fun z => h (beq_iff_eq.1 z)), if_pos (beq_iff_eq.2 y)]
theorem ixb_in {b c : UInt8} {l : List UInt8} (h : b ≠ c) (y : Lib.indexByte l c ≠ -1) : Lib.indexByte (b :: l) c = Lib.indexByte l c + 1 := by
 rw [ixb_cons, if_neg (fun z => h (beq_iff_eq.1 z)), if_neg (fun z => y (beq_iff_eq.1 z))]
theorem ixb_count : ∀ (s : List UInt8) (c : UInt8), Lib.indexByte s c = -1 ↔ s.count c = 0
 | [], _ => by constructor <;> intro _ <;> rfl
 | b :: l, c => by
  have ih := ixb_count l c
  have hg := Lib.indexByte_ge l c
  by_cases h : b = c
  ·rw [ixb_eq l h]
   subst h
   rw [List.count_cons_self]
   constructor <;> intro z <;> omega
  ·rw [List.count_cons_of_ne h]
   by_cases y : Lib.indexByte l c = -1
   ·rw [ixb_no h y]; exact ⟨fun _ => ih.1 y, fun _ => rfl⟩
   ·rw [ixb_in h y]
    constructor
    ·intro z; omega
    ·intro z; exact absurd (ih.2 z) y
theorem splitK_z (s : List UInt8) : Lib.splitK [10] 0 0 s = [s] := rfl
theorem splitK_s (k : Nat) (s : List UInt8) : Lib.splitK [10] 0 (k + 1) s = if Lib.indexByte s 10 == -1 then [s] else s.take ((Lib.indexByte s 10).toNat + 0) :: Lib.splitK [10] 0 k (s.drop ((Lib.indexByte s 10).toNat + 1)) := by
 conv => lhs; unfold Lib.splitK
 rw [Lib.index_one]; rfl
theorem splitK_pcs : ∀ s : List UInt8, Lib.splitK [10] 0 (s.count 10) s = pcs s
 | [] => rfl
 | c :: r => by
  have ih := splitK_pcs r
  have hg := Lib.indexByte_ge r 10
  rw [pcs_cons]
  by_cases h : c = 10
  ·subst h
   rw [if_pos rfl, List.count_cons_self, splitK_s, ixb_eq r rfl, if_neg (by decide)]
   show [] :: Lib.splitK [10] 0 (r.count 10) r = _
   rw [ih]
  ·rw [if_neg h, List.count_cons_of_ne h]
   cases hk : r.count 10 with
   | zero =>
    rw [hk, splitK_z] at ih
    rw [splitK_z, ← ih]
   | succ k =>
    have hi : Lib.indexByte r 10 ≠ -1 := fun z => by
     have := (ixb_count r 10).1 z; omega
    rw [hk, splitK_s, if_neg (fun z => hi (beq_iff_eq.1 z))] at ih
    rw [splitK_s, ixb_in h hi, if_neg (fun z => by have := beq_iff_eq.1 z; omega), ← ih]
    have e : (Lib.indexByte r 10 + 1).toNat = (Lib.indexByte r 10).toNat + 1 := by omega
    rw [e]
    rfl
theorem split_pcs (s : List UInt8) : Lib.split s [10] = pcs s := by
 unfold Lib.split
 rw [Lib.count_one]
 exact splitK_pcs s
theorem pcs_one : ∀ {a : List UInt8}, (∀ c ∈ a, c ≠ 10) → pcs a = [a]
 | [], _ => rfl
 | c :: r, h => by
  rw [pcs_cons, if_neg (h c (by simp)), pcs_one (fun d hd => h d (by simp [hd]))]
theorem pcs_app : ∀ {a : List UInt8} (r : List UInt8), (∀ c ∈ a, c ≠ 10) → pcs (a ++ 10 :: r) = a :: pcs r
 | [], r, _ => by rw [List.nil_append, pcs_cons, if_pos rfl]
 | c :: a, r, h => by
  rw [List.cons_append, pcs_cons, if_neg (h c (by simp)), pcs_app r (fun d hd => h d (by simp [hd]))]
end Go.Proofs.YtpdjgamdnjfmkaaGreatDoor
namespace Go.Proofs.YtpdjgamdnjfmkaaGreatDoor
open Go.RowKit
def resT {T : Type} (f : Tk → T) (out : List T) (S : TS) : List T × Int × Int := if S.e = 0 then (out ++ S.l.map f, 0, 0) else ([], (S.pos : Int), (S.e : Int))
section
variable {T : Type} {f : Tk → T} {out : List T} {s : List UInt8} {a : Nat}
theorem resT_fin (h : stepT (s.drop a) = .fin) : resT f out (toks (s.length - a + 1) (s.drop a) a) = (out, 0, 0) := by
 rw [toks_fin h]
 simp [resT]
theorem resT_bad {p e : Nat} (h : stepT (s.drop a) = .bad p e) : resT f out (toks (s.length - a + 1) (s.drop a) a) = ([], (a : Int) + p, (e : Int)) := by
 rw [toks_bad h]
 unfold resT
 rw [if_neg (fun z => by
  have z : e = 0 := z
  subst z; exact stepT_bad0 h)]
 simp
theorem resT_space (h : stepT (s.drop a) = .space) : resT f out (toks (s.length - a + 1) (s.drop a) a) = resT f out (toks (s.length - (a + 1) + 1) (s.drop (a + 1)) (a + 1)) := by
 obtain ⟨r, hr⟩ := stepT_space h
 have := (drop_head hr).2
 rw [toks_space h, List.drop_drop, toks_fuel _ (s.length - (a + 1) + 1) _ _ (by rw [List.length_drop]; omega) (by rw [List.length_drop]; omega)]
theorem resT_one {k n : Nat} (h : stepT (s.drop a) = .one k n) : resT f out (toks (s.length - a + 1) (s.drop a) a) = resT f (out ++ [f ⟨k, a, (s.drop a).take n⟩]) (toks (s.length - (a + n) + 1) (s.drop (a + n)) (a + n)) := by
 obtain ⟨_, hn, hn2⟩ := stepT_good h
 rw [List.length_drop] at hn2
 rw [toks_one h, List.drop_drop, toks_fuel _ (s.length - (a + n) + 1) _ _ (by rw [List.length_drop]; omega) (by rw [List.length_drop]; omega)]
 generalize toks (s.length - (a + n) + 1) (s.drop (a + n)) (a + n) = S
 unfold resT
 by_cases z : S.e = 0
 ·rw [if_pos z, if_pos z, if_pos rfl]
  simp
 ·rw [if_neg z, if_neg z, if_neg z]
end
structure LnT where
 num : Nat
 l : List Tk
structure LS where
 l : List LnT
 n : Nat
 e : Nat
def tokL (s : List UInt8) : TS := toks (s.length + 1) s 0
def lnsT : List (List UInt8) → Nat → LS
 | [], _ => ⟨[], 0, 0⟩
 | p :: ps, i =>
  if (tokL p).e = 0 then
   (if (lnsT ps (i + 1)).e = 0 then ⟨(if (tokL p).l = [] then [] else [⟨i, (tokL p).l⟩]) ++ (lnsT ps (i + 1)).l, 0, 0⟩ else lnsT ps (i + 1))
  else ⟨[], i, (tokL p).e⟩
def resL {T : Type} (f : LnT → T) (out : List T) (S : LS) : List T × Int × Int := if S.e = 0 then (out ++ S.l.map f, 0, 0) else ([], (S.n : Int), (S.e : Int))
theorem resL_nil {T : Type} {f : LnT → T} {out : List T} {i : Nat} : resL f out (lnsT [] i) = (out, 0, 0) := by simp [resL, lnsT]
theorem resL_bad {T : Type} {f : LnT → T} {out : List T} {i : Nat} {p : List UInt8} {ps : List (List UInt8)} (h : (tokL p).e ≠ 0) : resL f out (lnsT (p :: ps) i) = ([], (i : Int), ((tokL p).e : Int)) := by
 unfold lnsT resL
 rw [if_neg h, if_neg h]
theorem resL_go {T : Type} {f : LnT → T} {out : List T} {i : Nat} {p : List UInt8} {ps : List (List UInt8)} (h : (tokL p).e = 0) : resL f out (lnsT (p :: ps) i) = resL f (if (tokL p).l = [] then out else out ++ [f ⟨i, (tokL p).l⟩]) (lnsT ps (i + 1)) := by
 have : lnsT (p :: ps) i = if (lnsT ps (i + 1)).e = 0 then ⟨(if (tokL p).l = [] then [] else [⟨i, (tokL p).l⟩]) ++ (lnsT ps (i + 1)).l, 0, 0⟩ else lnsT ps (i + 1) := by
  conv => lhs; unfold lnsT
  rw [if_pos h]
 rw [this]
 generalize lnsT ps (i + 1) = S
 unfold resL
 by_cases z : S.e = 0
 ·rw [if_pos z, if_pos rfl, if_pos z]
  by_cases y : (tokL p).l = []
  ·simp [y]
  ·simp [y]
 ·rw [if_neg z, if_neg z, if_neg z]
end Go.Proofs.YtpdjgamdnjfmkaaGreatDoor
