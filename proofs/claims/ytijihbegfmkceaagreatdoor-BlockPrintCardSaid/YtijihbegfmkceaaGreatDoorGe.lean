/-
  Mirrors of maps; regions with operations that have a meaning of their own.
-/
import Derived.Test.YtijihbegfmkceaaGreatDoorGd
import Derived.Test.YtijihbegfmkceaaGreatDoorSr
namespace Go.Proofs.YtijihbegfmkceaaGreatDoor
open Go.RowKit

section
variable {P : Program} {g : Pg P} {fr : Fr} {s : Sg} {ε : Type} {Φ : ε → SQ} {m : Option ε}
theorem Mir.regionW {id : Nat} {ops : Array Oper} (h : ∀ e, m = some e → regW g ops ops.toList fr s (Φ e .normal)) : Mir g (.region id ops false) fr s m Φ := fun e he => SWs.regionW (h e he)
theorem w_none {ops : Array Oper} {d : Option Tmp} {op : Op} {ty : TypeId} {p : String} {af : Array Edge} : wantedS ops fr ⟨d, op, ty, p, af, none⟩ = some true := nr rfl
theorem w_eq : ((some true : Option Bool) = some true) = True := eq_true rfl
end

/-- Maps with integers as keys. -/
def mget {β : Type} : List (Int × β) → Int → Option β
  | [], _ => none
  | (k, v) :: r, n => if n == k then some v else mget r n
def mput {β : Type} : List (Int × β) → Int → β → List (Int × β)
  | [], n, v => [(n, v)]
  | (k, u) :: r, n, v => if n == k then (k, v) :: r else (k, u) :: mput r n v
def ekv {β : Type} (ev : β → D) (p : Int × β) : Int × D := (p.1, ev p.2)
def evB (b : Bool) : D := .bool b
def evI (k : IntKind) (n : Int) : D := .int k n
def evL {β : Type} (en : β → List D) (l : List β) : D := .list (List.map en l)
theorem mapGet_kv {β : Type} {ev : β → D} {n : Int} : ∀ {l : List (Int × β)}, mapGet (List.map (ekv ev) l) n = (mget l n).map ev
  | [] => rfl
  | (k, v) :: r => by
    simp only [List.map_cons, ekv, mapGet, mget]
    split
    · rfl
    · exact mapGet_kv
theorem mapPut_cons {k n : Int} {u v : D} {r : List (Int × D)} : mapPut ((k, u) :: r) n v = if n = k then (k, v) :: r else (k, u) :: mapPut r n v := by simp [mapPut]
theorem mapPut_kv {β : Type} {ev : β → D} {n : Int} {v : β} : ∀ {l : List (Int × β)}, mapPut (List.map (ekv ev) l) n (ev v) = List.map (ekv ev) (mput l n v)
  | [] => rfl
  | (k, u) :: r => by
    have ih := mapPut_kv (ev := ev) (n := n) (v := v) (l := r)
    show mapPut ((k, ev u) :: List.map (ekv ev) r) n (ev v) = _
    rw [mapPut_cons, ih]
    by_cases h : n = k
    · subst h; simp [mput, ekv]
    · rw [if_neg h]
      have : mput ((k, u) :: r) n v = (k, u) :: mput r n v := by simp [mput, h]
      rw [this]; rfl
theorem mg_B {l : List (Int × Bool)} {n : Int} {z : Bool} : (mapGet (List.map (ekv evB) l) n).getD (.bool z) = .bool ((mget l n).getD z) := by rw [mapGet_kv]; cases mget l n <;> rfl
theorem mg_I {k : IntKind} {l : List (Int × Int)} {n z : Int} : (mapGet (List.map (ekv (evI k)) l) n).getD (.int k z) = .int k ((mget l n).getD z) := by rw [mapGet_kv]; cases mget l n <;> rfl
theorem mg_L {β : Type} {en : β → List D} {l : List (Int × List β)} {n : Int} : (mapGet (List.map (ekv (evL en)) l) n).getD (.list []) = .list (List.map en ((mget l n).getD [])) := by rw [mapGet_kv]; cases mget l n <;> rfl
theorem mp_B {l : List (Int × Bool)} {n : Int} {v : Bool} : mapPut (List.map (ekv evB) l) n (.bool v) = List.map (ekv evB) (mput l n v) := mapPut_kv (ev := evB)
theorem mp_I {k : IntKind} {l : List (Int × Int)} {n v : Int} : mapPut (List.map (ekv (evI k)) l) n (.int k v) = List.map (ekv (evI k)) (mput l n v) := mapPut_kv (ev := evI k)
theorem mp_L {β : Type} {en : β → List D} {l : List (Int × List β)} {n : Int} {v : List β} : mapPut (List.map (ekv (evL en)) l) n (.list (List.map en v)) = List.map (ekv (evL en)) (mput l n v) := mapPut_kv (ev := evL en)

end Go.Proofs.YtijihbegfmkceaaGreatDoor
