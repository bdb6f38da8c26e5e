/-
  Encoders of elements, and small facts that mirrors use.
-/
import Derived.Test.YtijihbegfmkceaaGreatDoorGc
namespace Go.Proofs.YtijihbegfmkceaaGreatDoor
open Go.RowKit

def eInt (k : IntKind) (n : Int) : List D := [.int k n]
def eBool (b : Bool) : List D := [.bool b]
def eStr (s : List UInt8) : List D := [.str s]
def eList {α : Type} (f : α → List D) (l : List α) : List D := [.list (List.map f l)]
theorem al_eInt {k : IntKind} {l : List Int} : (List.map (eInt k) l).all (fun x => x.length == 1) = true := by simp [List.all_eq_true, eInt]
theorem al_eBool {l : List Bool} : (List.map eBool l).all (fun x => x.length == 1) = true := by simp [List.all_eq_true, eBool]
theorem al_eStr {l : List (List UInt8)} : (List.map eStr l).all (fun x => x.length == 1) = true := by simp [List.all_eq_true, eStr]
theorem al_eList {α : Type} {f : α → List D} {l : List (List α)} : (List.map (eList f) l).all (fun x => x.length == 1) = true := by simp [List.all_eq_true, eList]
def okStr (a b : List UInt8) : Bool := decide (a.length + b.length ≤ 9223372036854775807)
theorem okStr_ok {a b : List UInt8} (h : okStr a b = true) : (a.length + b.length ≤ 9223372036854775807) = True := eq_true (of_decide_eq_true h)
/-- The bytes of a string as numbers; the text of a code point. -/
def bytesI (s : List UInt8) : List Int := s.map fun b => (b.toNat : Int)
theorem bytes_enc {s : List UInt8} : (s.map fun b => [D.int .u8 (b.toNat : Int)]) = List.map (eInt .u8) (bytesI s) := by simp [bytesI, eInt, Function.comp_def]
def runeS (n : Int) : List UInt8 := (Utf8.encode n).data.toList
theorem rune_enc {n : Int} : (Utf8.encode n).data.toList = runeS n := rfl
/-- A list without elements may be nil or not. -/
theorem Spec.nilcase {P : Program} {g : Pg P} {f : FuncId} {r : V} (h : ∀ A c, Spec g f [.d (.other (.slice A 0 c))] r) : Spec g f [.d (.list [])] r := by
  refine ⟨(h none 0).1, fun w F vs hF hgl hr => ?_⟩
  cases vs with
  | nil => have := hr.1; simp at this
  | cons v us =>
    have hl : us = [] := by have := hr.1; simp at this; exact this
    subst hl
    obtain ⟨h1, _⟩ := rels_cons_inv hr
    cases h1 with
    | d q =>
      generalize hd : D.list [] = D0 at q
      cases q with
      | nil A c => exact (h A c).2 w F _ hF hgl (rels_cons (.d (.other _ rfl)) (rels_nil _))
      | list es b off c sz u hne => cases hd; simp at hne
      | _ => cases hd
theorem nn_of {b : Int} (h : decide (0 ≤ b) = true) : (b < 0) = False := eq_false (by have := of_decide_eq_true h; omega)
theorem ne_of_beq_false {a b : Int} (h : (a == b) = false) : a ≠ b := by simpa using h
theorem ne_of {b : Int} (h : (!(b == 0)) = true) : (b = 0) = False := by simp at h; simp [h]

end Go.Proofs.YtijihbegfmkceaaGreatDoor
