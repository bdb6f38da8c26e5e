/-
  Tk, Tl, Tn in one text.
-/
import Derived.Test.YtpdjgamdnjfmkaaGreatDoorJy
import Derived.Lib.Split
import Derived.Lib.SplitLaws
import Derived.Lib.IndexBytes
namespace Go.Proofs.YtpdjgamdnjfmkaaGreatDoor
open Go.RowKit
def isL (c : UInt8) : Bool := (decide (97 ≤ c.toNat) && decide (c.toNat ≤ 122)) || (decide (65 ≤ c.toNat) && decide (c.toNat ≤ 90))
def inN (c : UInt8) : Bool := isL c || isD c || c == 95 || c == 45
def isY (c : UInt8) : Bool := c == 61 || c == 44 || c == 59 || c == 58 || c == 40 || c == 41
def nameN (s : List UInt8) : Nat := (s.takeWhile inN).length
def digN (s : List UInt8) : Nat := (s.takeWhile isD).length
def sgN (s : List UInt8) : Nat := if s.head? = some 45 then 1 else 0
def wholeN (s : List UInt8) : Nat := sgN s + digN (s.drop (sgN s))
def fracN (s : List UInt8) : Nat := if (s.drop (wholeN s)).head? = some 46 then (if digN (s.drop (wholeN s + 1)) = 0 then 0 else 1 + digN (s.drop (wholeN s + 1))) else 0
def numN (s : List UInt8) : Nat := if digN (s.drop (sgN s)) = 0 then 0 else wholeN s + fracN s
structure Tk where
 kind : Nat
 pos : Nat
 text : List UInt8
inductive TR where
 | fin
 | space
 | bad (p e : Nat)
 | one (k n : Nat)
def aft (o : Option UInt8) : Bool := match o with
 | none => false
 | some d => isL d || d == 95 || d == 46
def stepT (s : List UInt8) : TR := match s with
 | [] => .fin
 | c :: _ =>
  if c = 35 then .fin
  else if c = 32 then .space
  else if isL c = true then (if nameN s > 24 then .bad 0 3 else .one 1 (nameN s))
  else if numN s > 0 then (if prsB (s.take (numN s)) = true then (if aft (s.drop (numN s)).head? = true then .bad (numN s) 2 else .one 2 (numN s)) else .bad 0 2)
  else if isY c = true then .one 3 1
  else .bad 0 2
structure TS where
 l : List Tk
 pos : Nat
 e : Nat
def toks : Nat → List UInt8 → Nat → TS
 | 0, _, _ => ⟨[], 0, 0⟩
 | f + 1, s, a => match stepT s with
  | .fin => ⟨[], 0, 0⟩
  | .space => toks f (s.drop 1) (a + 1)
  | .bad p e => ⟨[], a + p, e⟩
  | .one k n => if (toks f (s.drop n) (a + n)).e = 0 then ⟨⟨k, a, s.take n⟩ :: (toks f (s.drop n) (a + n)).l, 0, 0⟩ else toks f (s.drop n) (a + n)
inductive Good : Nat → List UInt8 → List UInt8 → Prop
 | name {c : UInt8} {r : List UInt8} (h1 : c ≠ 35) (h2 : c ≠ 32) (h3 : isL c = true) (h4 : nameN (c :: r) ≤ 24) : Good 1 ((c :: r).take (nameN (c :: r))) (c :: r)
 | num {c : UInt8} {r : List UInt8} (h1 : c ≠ 35) (h2 : c ≠ 32) (h3 : isL c = false) (h4 : 0 < numN (c :: r)) (h5 : prsB ((c :: r).take (numN (c :: r))) = true) (h6 : aft ((c :: r).drop (numN (c :: r))).head? = false) : Good 2 ((c :: r).take (numN (c :: r))) (c :: r)
 | sym {c : UInt8} {r : List UInt8} (h1 : c ≠ 35) (h2 : c ≠ 32) (h3 : isL c = false) (h4 : numN (c :: r) = 0) (h5 : isY c = true) : Good 3 [c] (c :: r)
def stp (r : List UInt8) : Prop := ∀ d, r.head? = some d → d = 32 ∨ d = 35
end Go.Proofs.YtpdjgamdnjfmkaaGreatDoor
namespace Go.Proofs.YtpdjgamdnjfmkaaGreatDoor
open Go.RowKit
end Go.Proofs.YtpdjgamdnjfmkaaGreatDoor
namespace Go.Proofs.YtpdjgamdnjfmkaaGreatDoor
open Go.RowKit
section
variable {T : Type} {f : Tk → T} {out : List T} {s : List UInt8} {a : Nat}
end
structure LnT where
 num : Nat
 l : List Tk
structure LS where
 l : List LnT
 n : Nat
 e : Nat
end Go.Proofs.YtpdjgamdnjfmkaaGreatDoor
