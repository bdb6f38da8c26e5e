/-
  Gd, Ge, Gf in one text.
-/
import Derived.Test.YthljcnchaopncaaGreatDoorGc
import Derived.Test.YthljcnchaopncaaGreatDoorSr
import Derived.Test.YthljcnchaopncaaGreatDoorSx
namespace Go.Proofs.YthljcnchaopncaaGreatDoor
open Go.RowKit
def eInt (k : IntKind) (n : Int) : List D := [.int k n]
def eBool (b : Bool) : List D := [.bool b]
def eStr (s : List UInt8) : List D := [.str s]
def eList {α : Type} (f : α → List D) (l : List α) : List D := [.list (List.map f l)]
theorem al_eStr {l : List (List UInt8)} : (List.map eStr l).all (fun x=>x.length == 1) = true := by simp [List.all_eq_true,eStr]
def okStr (a b : List UInt8) : Bool := decide (a.length + b.length ≤ 9223372036854775807)
theorem okStr_ok {a b : List UInt8} (h : okStr a b = true) : (a.length + b.length ≤ 9223372036854775807) = True := eq_true (of_decide_eq_true h)
def runeS (n : Int) : List UInt8 := (Utf8.encode n).data.toList
theorem Spec.nilcase {P : Program} {g : Pg P} {f : FuncId} {r : V} (h : ∀ A c,Spec g f [.d (.other (.slice A 0 c))] r) : Spec g f [.d (.list [])] r := by
 refine ⟨(h none 0).1,fun w F vs hF hgl hr=>?_⟩
 cases vs with
 | nil=>have := hr.1; simp at this
 | cons v us =>
  have hl : us = [] := by have := hr.1; simp at this; exact this
  subst hl
  obtain ⟨h1,_⟩ := rels_cons_inv hr
  cases h1 with
  | d q =>
   generalize hd : D.list [] = D0 at q
   cases q with
   | nil A c=>exact (h A c).2 w F _ hF hgl (rels_cons (.d (.other _ rfl)) (rels_nil _))
   | list es b off c sz u hne=>cases hd; simp at hne
   | _=>cases hd
theorem ne_of {b : Int} (h : (!(b == 0)) = true) : (b = 0) = False := by simp at h; simp [h]
end Go.Proofs.YthljcnchaopncaaGreatDoor
namespace Go.Proofs.YthljcnchaopncaaGreatDoor
open Go.RowKit
section
variable {P : Program} {g : Pg P} {fr : Fr} {s : Sg} {ε : Type} {Φ : ε → SQ} {m : Option ε}
theorem Mir.regionW {id : Nat} {ops : Array Oper} (h : ∀ e,m = some e → regW g ops ops.toList fr s (Φ e .normal)) : Mir g (.region id ops false) fr s m Φ := fun e he=>SWs.regionW (h e he)
theorem w_none {ops : Array Oper} {d : Option Tmp} {op : Op} {ty : TypeId} {p : String} {af : Array Edge} : wantedS ops fr ⟨d,op,ty,p,af,none⟩ = some true := nr rfl
theorem w_eq : ((some true : Option Bool) = some true) = True := eq_true rfl
end
def mget {β : Type} : List (Int × β) → Int → Option β
 | [],_=>none
 | (k,v) :: r,n=>if n == k then some v else mget r n
end Go.Proofs.YthljcnchaopncaaGreatDoor
namespace Go.Proofs.YthljcnchaopncaaGreatDoor
open Go.RowKit
section
variable {P : Program} {g : Pg P} {fr : Fr} {s : Sg} {ε : Type} {Φ : ε → SQ} {m : Option ε}
end
section
variable {P : Program} {g : Pg P} {fr : Fr} {s : Sg}
theorem SpecY.nilcase {f : FuncId} {e : TypeId} {es : List (List D)} (h : ∀ (A : Option Addr) (c : Nat),SpecY g f [.d (.other (.slice A 0 c))] e es) : SpecY g f [.d (.list [])] e es := by
 refine ⟨(h none 0).1,fun w F vs hF hgl hr=>?_⟩
 match vs,hr with
 | [v],hr =>
  obtain ⟨r,_⟩ := rels_cons_inv hr
  cases r with
  | d q =>
   cases q with
   | nil A c=>exact (h A c).2 w F _ hF hgl (rels_cons (.d (.other _ rfl)) (rels_nil _))
   | list _ _ _ _ _ _ hne=>simp at hne
 | [],hr=>have := hr.1; simp at this
 | _ :: _ :: _,hr=>have := hr.1; simp at this
end
theorem Mir.no {P : Program} {g : Pg P} {fr : Fr} {s : Sg} {ε : Type} {Φ : ε → SQ} {c : Code} : Mir g c fr s (none : Option ε) Φ := fun e h=>by cases h
theorem lns_at {e : TypeId} {m n : Nat} (h : m = n) : some (e,m) = some (e,n) := by rw [h]
theorem ok2 {a b c d : Nat} (h : okLen (a + b) = true) (h1 : c = a) (h2 : d = b) : okLen (c + d) = true := by rw [h1,h2]; exact h
theorem PB : type_of% (And.intro @Bool.true_and <| And.intro @Bool.false_and <| And.intro @Bool.true_or <| And.intro @Bool.false_or <| And.intro @Bool.or_true <| And.intro @Bool.or_false <| And.intro @Bool.and_true <| And.intro @Bool.and_false <| And.intro @Bool.not_true <| @Bool.not_false) := And.intro @Bool.true_and <| And.intro @Bool.false_and <| And.intro @Bool.true_or <| And.intro @Bool.false_or <| And.intro @Bool.or_true <| And.intro @Bool.or_false <| And.intro @Bool.and_true <| And.intro @Bool.and_false <| And.intro @Bool.not_true <| @Bool.not_false
theorem mU {P : Program} {g : Pg P} {fr : Fr} {s : Sg} {ε : Type} {Φ : ε → SQ} {m : Option ε} {c : Code} (e : ε) (h : Mir g c fr s m Φ) (hm : m = some e) : SWs g c (Φ e) fr s := h e hm
theorem Mir.sR {P : Program} {g : Pg P} {fr : Fr} {s : Sg} {ε : Type} {Φ : ε → SQ} {m : Option ε} {id : Nat} {ops : Array Oper} {k : Code} (h : ∀ e,m = some e → regS g false ops ops.toList fr s (kQ g k Φ e .normal)) : Mir g (.seq (.region id ops false) k) fr s m Φ := Mir.seqK (Mir.region h)
def us : Nat → List V
 | 0=>[]
 | n + 1=>U :: us n
theorem us_0 : us 0 = [] := nr rfl
theorem us_s {n : Nat} : us (n + 1) = U :: us n := nr rfl
theorem zNI : ((0 : Nat) : Int) = 0 := nr rfl
theorem oL (n : Nat) (h : Nat.ble n 16777216 = true := by rfl) : okLen n = true := h
theorem SE : type_of% (And.intro @SR <| And.intro @SV <| And.intro @us_0 <| @us_s) := And.intro @SR <| And.intro @SV <| And.intro @us_0 <| @us_s
theorem SF : type_of% (And.intro @SL <| And.intro @and_self <| And.intro @and_true <| And.intro @true_and <| And.intro @us_0 <| @us_s) := And.intro @SL <| And.intro @and_self <| And.intro @and_true <| And.intro @true_and <| And.intro @us_0 <| @us_s
theorem SB : type_of% (And.intro @sepL_nil <| And.intro @sepL_cons <| And.intro @sepV_ne <| And.intro @sepV_d <| And.intro @sepV_i <| @Bool.and_self) := And.intro @sepL_nil <| And.intro @sepL_cons <| And.intro @sepV_ne <| And.intro @sepV_d <| And.intro @sepV_i <| @Bool.and_self
end Go.Proofs.YthljcnchaopncaaGreatDoor
