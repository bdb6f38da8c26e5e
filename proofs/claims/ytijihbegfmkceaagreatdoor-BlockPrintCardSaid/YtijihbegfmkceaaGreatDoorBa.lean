/-
  Layer 41: the examples; words of blocks.
-/
import Derived.Test.YtijihbegfmkceaaGreatDoorMB
import Derived.Test.YtijihbegfmkceaaGreatDoorPe
import Derived.Test.YtijihbegfmkceaaGreatDoorGp
namespace Go.Proofs.YtijihbegfmkceaaGreatDoor
open Go.RowKit

set_option maxRecDepth 100000 in
theorem awake41 : l41_awake = some true := by kernel_rfl
theorem wrap_i64 {n : Int} (h : -9223372036854775808 ≤ n) (h2 : n ≤ 9223372036854775807) : IntKind.i64.wrap n = n := IntWalk.i64_in _ ⟨h, by omega⟩
theorem gt_k {α : Type} {l : List α} {k : Nat} {x : α} (h : l[k]? = some x) : gt l (k : Int) = some x := by
  unfold gt
  have hl := getElem_lt h
  rw [if_neg (by omega)]
  simpa using h
theorem rangeX_ext {α ε ν : Type} {f f' : Nat → α → ν → Option (Ex ε ν)} {d : ν → Option ε} {L : List α} (hf : ∀ (i : Nat) x v, L[i]? = some x → f i x v = f' i x v) : ∀ (l : List α) (i : Nat) (v : ν), L.drop i = l → rangeX f d l i v = rangeX f' d l i v
  | [], _, _, _ => rfl
  | x :: l, i, v, hd => by
    have hx : L[i]? = some x := by
      have : (L.drop i)[0]? = some x := by rw [hd]; rfl
      simpa using this
    have hd' : L.drop (i + 1) = l := by rw [← List.drop_drop, hd]; rfl
    unfold rangeX
    rw [hf i x v hx]
    split
    · rfl
    · rfl
    · exact rangeX_ext hf l (i + 1) _ hd'

/-- Few blocks. -/
def fewP (l : List ApiBlock) (n : Int) : Prop := (l.length : Int) ≤ n ∧ ∀ x ∈ l, x.Words.length ≤ 20 ∧ x.Comment.length ≤ 120
theorem r41_Few_tot (l : List ApiBlock) (n : Int) (hn : n ≤ 1000) : Tot (r41_Few l n) (fun b => b = true → fewP l n) := by
  unfold r41_Few
  refine Tot.ite (fun _ => .ok (fun q => by cases q)) (fun h => ?_)
  have hl : (l.length : Int) ≤ n := by simpa using h
  refine Tot.bindX (E := fun _ => fewP l n) (TotX.of (Tot.mono (E := fun x => (x = .ret false) ∨ (x = .go () ∧ fewP l n)) ?_ ?_)) (fun x hx => .ok (fun _ => hx))
  · refine Tot.guard (okIdx_of (by omega)) (Tot.range (fun i _ => ∀ (k : Nat) x, k < i → l[k]? = some x → x.Words.length ≤ 20 ∧ x.Comment.length ≤ 120) _ (fun k x q => by omega) (fun i x v hx hr => ?_) (fun v hr => .ok (.inr ⟨rfl, hl, fun x hx => ?_⟩)))
    · refine TotX.ite (fun _ => .ret (.inl rfl)) (fun h2 => .go (fun k y hk hy => ?_))
      simp at h2
      rcases Nat.lt_or_ge k i with q | q
      · exact hr k y q hy
      · obtain rfl : k = i := by omega
        rw [hx] at hy; injection hy with hy; subst hy
        omega
    · obtain ⟨k, hk⟩ := List.mem_iff_getElem?.1 hx
      exact hr k x (getElem_lt hk) hk
  · rintro x (rfl | ⟨rfl, h3⟩)
    · exact fun q => by cases q
    · exact h3

/-- Blocks compared by the reference. -/
theorem r41_equal_eq (a b : ApiBlock) (ha : a.Words.length ≤ 1000000) : r41_Equal a b = some (decide (a = b)) := by
  have key : Tot (r41_Equal a b) (fun e => e = decide (a = b)) := by
    unfold r41_Equal
    refine Tot.ite (fun h => .ok ?_) (fun h => ?_)
    · refine (decide_eq_false fun q => ?_).symm
      subst q
      simp at h
    · simp only [Bool.or_eq_false_iff, Bool.not_eq_false', beq_iff_eq, bne_eq_false_iff_eq] at h
      obtain ⟨h1, h2, h3⟩ := h
      have hlm : a.Words.length = b.Words.length := by omega
      refine Tot.bindX (E := fun _ => a.Words = b.Words) (TotX.of (Tot.mono (E := fun x => (x = .ret false ∧ a.Words ≠ b.Words) ∨ (x = .go () ∧ a.Words = b.Words)) ?_ ?_)) (fun x hx => .ok ?_)
      · refine Tot.guard (okIdx_of (by omega)) (Tot.range (fun i _ => ∀ (k : Nat), k < i → a.Words[k]? = b.Words[k]?) _ (fun k q => by omega) (fun i x v hx hr => ?_) (fun v hr => .ok (.inr ⟨rfl, ?_⟩)))
        · have hlt := getElem_lt hx
          obtain ⟨y, hy, hy2⟩ := gt_ok' (l := b.Words) (i := (i : Int)) (by omega) (by omega)
          rw [hy, bindO_s]
          simp only [Int.toNat_natCast] at hy2
          refine TotX.ite (fun h2 => .ret (.inl ⟨rfl, fun q => ?_⟩)) (fun h2 => .go (fun k hk => ?_))
          · rw [q, hy2] at hx; injection hx with hx; subst hx
            simp at h2
          · rcases Nat.lt_or_ge k i with q | q
            · exact hr k q
            · obtain rfl : k = i := by omega
              rw [hx, hy2]
              obtain ⟨x1, x2⟩ := x; obtain ⟨y1, y2⟩ := y
              simp at h2
              rw [h2.1, h2.2]
        · apply List.ext_getElem?
          intro k
          rcases Nat.lt_or_ge k a.Words.length with q | q
          · exact hr k q
          · rw [List.getElem?_eq_none q, List.getElem?_eq_none (by omega)]
      · rintro x (⟨rfl, h3⟩ | ⟨rfl, h3⟩)
        · exact (decide_eq_false (fun q => h3 (by rw [q]))).symm
        · exact h3
      · refine (decide_eq_true ?_).symm
        obtain ⟨a1, a2, a3⟩ := a; obtain ⟨b1, b2, b3⟩ := b
        simp only at h1 h2 hx
        rw [h1, h2, hx]
  obtain ⟨e, he, rfl⟩ := key
  exact he
end Go.Proofs.YtijihbegfmkceaaGreatDoor
