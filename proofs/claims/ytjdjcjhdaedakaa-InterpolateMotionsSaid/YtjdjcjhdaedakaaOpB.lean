/-
  How a slice of moves that comes in reads.
-/
import Derived.Test.YtjdjcjhdaedakaaPsD
import Derived.Deep.Slices
namespace Go.Proofs.Ytjdjcjhdaedakaa
open Go.ChangeShapes Go.WideShapes Go.ChangeAt Go.RowKit Go.Deep


theorem list_of_each {n : Nat} {Q : Nat → Mv → Prop} (h : ∀ i, i < n → ∃ m, Q i m) : ∃ l : List Mv, l.length = n ∧ ∀ i (hi : i < l.length), Q i (l[i]'hi) := by
  induction n with
  | zero => exact ⟨[], rfl, fun i hi => absurd hi (by simp)⟩
  | succ n ih =>
    obtain ⟨l, h1, h2⟩ := ih (fun i hi => h i (by omega))
    obtain ⟨m, hm⟩ := h n (by omega)
    refine ⟨l ++ [m], by simp [h1], fun i hi => ?_⟩
    by_cases hin : i < l.length
    · rw [List.getElem_append_left hin]; exact h2 i hin
    · have : i = n := by simp at hi; omega
      subst this
      rw [List.getElem_append_right (by omega)]
      simpa [h1] using hm

theorem cells7_length (l : List Mv) : (cells7 l).length = l.length * 7 := by
  induction l with
  | nil => rfl
  | cons p l ih => simp only [cells7, List.flatMap_cons, List.length_append, List.length_cons, List.length_nil] at ih ⊢; omega
theorem cells7_get {l : List Mv} {w : World} {b off : Nat} (h : ∀ i (hi : i < l.length), ∀ j, j < 7 → w.cell? ⟨b, off + (i * 7 + j), none⟩ = [Value.int .i64 (l[i]'hi).k, .int .i64 (l[i]'hi).x, .int .i64 (l[i]'hi).y, .int .i64 (l[i]'hi).z, .int .i64 (l[i]'hi).cx, .int .i64 (l[i]'hi).cy, .int .i64 (l[i]'hi).r][j]?) :
    ∀ j u, (cells7 l)[j]? = some u → w.cell? ⟨b, off + j, none⟩ = some u := by
  intro j u hu
  have hj : j < (cells7 l).length := (List.getElem?_eq_some_iff.1 hu).1
  have hl : (cells7 l).length = l.length * 7 := by
    clear hu hj h
    induction l with
    | nil => rfl
    | cons p l ih => simp only [cells7, List.flatMap_cons, List.length_append, List.length_cons, List.length_nil] at ih ⊢; omega
  have hi : j / 7 < l.length := by omega
  have hd : j / 7 * 7 + j % 7 = j := by omega
  have h1 := h (j / 7) hi (j % 7) (by omega)
  rw [hd] at h1
  rw [h1, ← hu]
  obtain ⟨p1, p2, p3, p4, p5, p6, p7⟩ := cells7_at hi
  have hm : j % 7 = 0 ∨ j % 7 = 1 ∨ j % 7 = 2 ∨ j % 7 = 3 ∨ j % 7 = 4 ∨ j % 7 = 5 ∨ j % 7 = 6 := by omega
  rcases hm with hm | hm | hm | hm | hm | hm | hm
  · rw [hm]; exact p1.symm.trans (congrArg (fun q => (cells7 l)[q]?) (show j / 7 * 7 = j by omega))
  · rw [hm]; exact p2.symm.trans (congrArg (fun q => (cells7 l)[q]?) (show j / 7 * 7 + 1 = j by omega))
  · rw [hm]; exact p3.symm.trans (congrArg (fun q => (cells7 l)[q]?) (show j / 7 * 7 + 2 = j by omega))
  · rw [hm]; exact p4.symm.trans (congrArg (fun q => (cells7 l)[q]?) (show j / 7 * 7 + 3 = j by omega))
  · rw [hm]; exact p5.symm.trans (congrArg (fun q => (cells7 l)[q]?) (show j / 7 * 7 + 4 = j by omega))
  · rw [hm]; exact p6.symm.trans (congrArg (fun q => (cells7 l)[q]?) (show j / 7 * 7 + 5 = j by omega))
  · rw [hm]; exact p7.symm.trans (congrArg (fun q => (cells7 l)[q]?) (show j / 7 * 7 + 6 = j by omega))

section
variable {H : Type} {enc : TypeId × Value → H} {w : World} {r : Reach} {b0 : Nat} {v : Value} {d : DataW H} {p : List MemPlace}
theorem open_moves (hv : Value.okWide Try.prog w r b0 37 v) (h : DataW.Trod enc Try.prog w 0 (fun _ => true) true 37 v d p) : ∃ ms : List Mv, Rd w 7 v ms.length (cells7 ms) ∧ (∀ m ∈ ms, m.ok) ∧ ms.length ≤ 9223372036854775807 := by
  obtain ⟨a0, len0, cap0, rfl⟩ := okWide_slice Try.underlying37 hv
  obtain ⟨fuel, hf⟩ := h
  rcases open_slice Try.underlying37 hf with ⟨hcs, _⟩ | ⟨a, len, cap, m, n, D, Pl, hcs, _, hl, hm, hmm, _, hi⟩
  · simp [Value.cells] at hcs
    obtain ⟨rfl, rfl, rfl⟩ := hcs
    exact ⟨[], Rd.nil _ _, by simp, by simp⟩
  · simp [Value.cells] at hcs
    obtain ⟨rfl, rfl, rfl⟩ := hcs
    simp only [if_true] at hmm
    subst hmm
    have hQ : ∀ i, i < len0 → ∃ mv : Mv, mv.ok ∧ ∀ j, j < 7 → w.cell? (a.add (i * 7 + j)) = [Value.int .i64 mv.k, .int .i64 mv.x, .int .i64 mv.y, .int .i64 mv.z, .int .i64 mv.cx, .int .i64 mv.cy, .int .i64 mv.r][j]? := by
      intro i hil
      obtain ⟨cs', hc, ht⟩ := hi i (by omega)
      obtain ⟨k, x, y, z, cx, cy, rr, rfl, hk⟩ := trod_move ht
      obtain ⟨_, _, hat⟩ := World.cells?_some hc
      refine ⟨⟨k, x, y, z, cx, cy, rr⟩, hk, fun j hj => ?_⟩
      have := hat j (by rw [cellsMove]; exact hj)
      rw [cellsMove, Go.Deep.add_add] at this
      exact this
    obtain ⟨l, hll, hlq⟩ := list_of_each hQ
    refine ⟨l, ?_, ?_, by unfold maxLen at hm; omega⟩
    · subst hll
      have hcl := cells7_length l
      refine ⟨hcl, some a, _, rfl, fun h0 => ?_⟩
      obtain ⟨b, off, spot⟩ := a
      have hc0 := (hlq 0 h0).2 0 (by omega)
      have hspot : spot = none := by simpa [Addr.add] using World.cell?_spot hc0
      subst hspot
      refine ⟨b, off, rfl, World.block_lt_of_cell? w ⟨b, off, none⟩ (by simpa [Addr.add] using hc0), cells7_get fun i hi j hj => ?_⟩
      rw [← addr_add]
      exact (hlq i hi).2 j hj
    · intro m hm
      obtain ⟨i, hi, rfl⟩ := List.mem_iff_getElem.1 hm
      exact (hlq i hi).1
end

end Go.Proofs.Ytjdjcjhdaedakaa
