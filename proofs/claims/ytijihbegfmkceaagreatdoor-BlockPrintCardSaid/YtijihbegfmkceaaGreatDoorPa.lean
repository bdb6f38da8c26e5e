/-
  Plain facts on the words of mirrors.
-/
import Derived.Test.YtijihbegfmkceaaGreatDoorGf
namespace Go.Proofs.YtijihbegfmkceaaGreatDoor
open Go.RowKit

theorem bindO_of {α β : Type} {e : Option α} {f : α → Option β} {x : α} (h : e = some x) : bindO e f = f x := by rw [h]; rfl
@[simp] theorem bindO_s {α β : Type} {f : α → Option β} {x : α} : bindO (some x) f = f x := rfl
@[simp] theorem bindX_r {ε ν : Type} {f : ν → Option ε} {r : ε} : bindX (some (.ret r)) f = some r := rfl
@[simp] theorem bindX_g {ε ν : Type} {f : ν → Option ε} {v : ν} : bindX (some (.go v)) f = f v := rfl
@[simp] theorem guardO_t {β : Type} {e : Option β} : guardO true e = e := rfl
theorem okIdx_of {α : Type} {l : List α} (h : l.length ≤ 9223372036854775807) : okIdx l = true := Nat.ble_eq_true_of_le h

/-- A loop over a list whose rounds all go on. -/
theorem rangeX_go {α ε ν : Type} {f : Nat → α → ν → Option (Ex ε ν)} {d : ν → Option ε} (h : ν → α → ν) : ∀ (l : List α) (i : Nat) (v : ν), (∀ i x v, x ∈ l → f i x v = some (.go (h v x))) → rangeX f d l i v = d (l.foldl h v)
  | [], _, _, _ => rfl
  | x :: l, i, v, hf => by
    simp only [rangeX, hf i x v (by simp), List.foldl_cons]
    exact rangeX_go h l (i + 1) (h v x) fun i x v hx => hf i x v (by simp [hx])
/-- A loop with an invariant. -/
theorem rangeX_inv {α ε ν : Type} {f : Nat → α → ν → Option (Ex ε ν)} {d : ν → Option ε} (R : Nat → ν → Prop) (E : ε → Prop) (L : List α)
    (hf : ∀ i x v, L[i]? = some x → R i v → (∃ e, f i x v = some (.ret e) ∧ E e) ∨ (∃ u, f i x v = some (.go u) ∧ R (i + 1) u))
    (hd : ∀ v, R L.length v → ∃ e, d v = some e ∧ E e) : ∀ (l : List α) (i : Nat) (v : ν), L.drop i = l → i ≤ L.length → R i v → ∃ e, rangeX f d l i v = some e ∧ E e
  | [], i, v, hl, hi, hr => by
    have : i = L.length := by
      have := congrArg List.length hl
      simp at this; omega
    subst this
    exact hd v hr
  | x :: l, i, v, hl, hi, hr => by
    have hx : L[i]? = some x := by
      have : (L.drop i)[0]? = some x := by rw [hl]; rfl
      simpa using this
    have hlt : i < L.length := getElem_lt hx
    have hrest : L.drop (i + 1) = l := by rw [← List.drop_drop, hl]; rfl
    rcases hf i x v hx hr with ⟨e, h1, h3⟩ | ⟨u, h1, h3⟩
    · exact ⟨e, by simp only [rangeX, h1], h3⟩
    · simp only [rangeX, h1]
      exact rangeX_inv R E L hf hd l (i + 1) u hrest (by omega) h3
/-- A loop with a measure. -/
theorem loopX_inv {ε ν : Type} {f : ν → Option (Ex ε ν)} (R : Nat → ν → Prop) (E : ε → Prop) (hf : ∀ m v, R m v → (∃ e, f v = some (.ret e) ∧ E e) ∨ (∃ u m', f v = some (.go u) ∧ R m' u ∧ m' < m)) : ∀ (n m : Nat) (v : ν), R m v → m < n → ∃ e, loopX f n v = some e ∧ E e
  | 0, m, v, _, h => by omega
  | n + 1, m, v, hr, h => by
    rcases hf m v hr with ⟨e, h1, h2⟩ | ⟨u, m', h1, h2, h3⟩
    · exact ⟨e, by simp only [loopX, h1], h2⟩
    · simp only [loopX, h1]
      exact loopX_inv R E hf n m' u h2 (by omega)
theorem fuel_gt {n : Nat} (h : n ≤ 9223372036854775807) : n < fuel := by unfold fuel; omega

theorem mget_put {β : Type} {n k : Int} {v : β} : ∀ {l : List (Int × β)}, mget (mput l n v) k = if k == n then some v else mget l k
  | [] => by simp [mput, mget]
  | (a, u) :: r => by
    simp only [mput]
    by_cases h : n = a
    · subst h; simp [mget]; split <;> simp_all
    · have : (n == a) = false := by simpa using h
      simp only [this, Bool.false_eq_true, if_false, mget]
      rw [mget_put]
      by_cases h2 : k = a
      · subst h2
        have : (k == n) = false := by simpa using fun e => h e.symm
        simp [this]
      · have h2' : (k == a) = false := by simpa using h2
        simp [h2']

end Go.Proofs.YtijihbegfmkceaaGreatDoor
