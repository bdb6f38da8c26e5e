/-
  How positions and moves that come in read.
-/
import Derived.Test.YtjdjcjhdaedakaaSmB
import Derived.ProofKit
import Derived.ChangeArms
import Derived.Carry
namespace Go.Proofs.Ytjdjcjhdaedakaa
open Go.ChangeShapes Go.WideShapes Go.ChangeAt Go.RowKit

theorem ownKnob_none : ownKnob Try.prog.godebug = none := by kernel_rfl
theorem laidOut_ok : laidOutB Try.prog = true := by kernel_rfl

theorem cellsI64 : Try.prog.cellsOf 2 = 1 := by kernel_rfl
theorem cellsInt : Try.prog.cellsOf 3 = 1 := by kernel_rfl
theorem cellsPos : Try.prog.cellsOf 23 = 3 := by kernel_rfl
theorem cellsGrid : Try.prog.cellsOf 25 = 2 := by kernel_rfl
theorem cellsMove : Try.prog.cellsOf 27 = 7 := by kernel_rfl

section
variable {H : Type} {enc : TypeId × Value → H} {w : World} {base : Nat} {spare : Nat → Bool} {held : Bool} {fuel : Nat} {cs : List Value} {x : DataW H × List MemPlace}
theorem trod_i64 (h : DataW.trod enc Try.prog w base spare held fuel 2 cs = some x) : ∃ n, cs = [.int .i64 n] ∧ I64 n := by
  obtain ⟨n, h1, _, h2⟩ := DataW.trod_int Try.underlying2 h
  exact ⟨n, h1, I64.of_wf h2⟩
theorem trod_goint (h : DataW.trod enc Try.prog w base spare held fuel 3 cs = some x) : ∃ n, cs = [.int .i64 n] ∧ I64 n := by
  obtain ⟨n, h1, _, h2⟩ := DataW.trod_int Try.underlying3 h
  exact ⟨n, h1, I64.of_wf h2⟩
theorem list3 {α : Type} {l : List α} (h : l.length = 3) : ∃ a b c, l = [a, b, c] := by
  match l, h with
  | [a, b, c], _ => exact ⟨a, b, c, rfl⟩
theorem list2 {α : Type} {l : List α} (h : l.length = 2) : ∃ a b, l = [a, b] := by
  match l, h with
  | [a, b], _ => exact ⟨a, b, rfl⟩
theorem list7 {α : Type} {l : List α} (h : l.length = 7) : ∃ a b c d e f g, l = [a, b, c, d, e, f, g] := by
  match l, h with
  | [a, b, c, d, e, f, g], _ => exact ⟨a, b, c, d, e, f, g, rfl⟩
theorem field_at {fs : Array Field} {n : Nat} {cs : List Value} {xs : List (DataW H × List MemPlace)} (hf : ∀ (i : Nat) (f : Field), fs[i]? = some f → DataW.trod enc Try.prog w base spare held n f.type ((cs.drop f.offset).take (Try.prog.cellsOf f.type)) = xs[i]?)
    (i : Nat) (t off k : Nat) (h : fs[i]?.map (fun f => (f.type, f.offset)) = some (t, off)) (hc : Try.prog.cellsOf t = k) (hi : i < xs.length) : ∃ y, DataW.trod enc Try.prog w base spare held n t ((cs.drop off).take k) = some y := by
  obtain ⟨f, h1, h2⟩ := Option.map_eq_some_iff.1 h
  injection h2 with h2 h3
  subst h2 h3 hc
  exact ⟨_, (hf i f h1).trans (List.getElem?_eq_getElem hi)⟩
theorem trod_pos (h : DataW.trod enc Try.prog w base spare held fuel 23 cs = some x) : ∃ a b c, cs = [.int .i64 a, .int .i64 b, .int .i64 c] ∧ I64 a ∧ I64 b ∧ I64 c := by
  obtain ⟨xs, n, _, _, hl, hxl, hf⟩ := DataW.trod_struct Try.underlying23 h
  obtain ⟨c0, c1, c2, rfl⟩ := list3 (hl.trans cellsPos)
  have hxl' : xs.length = 3 := hxl
  obtain ⟨y0, e0⟩ := field_at hf 0 2 0 1 rfl cellsI64 (by omega)
  obtain ⟨y1, e1⟩ := field_at hf 1 2 1 1 rfl cellsI64 (by omega)
  obtain ⟨y2, e2⟩ := field_at hf 2 2 2 1 rfl cellsI64 (by omega)
  obtain ⟨a, ha, wa⟩ := trod_i64 e0
  obtain ⟨b, hb, wb⟩ := trod_i64 e1
  obtain ⟨c, hc, wc⟩ := trod_i64 e2
  simp only [List.drop_zero, List.drop_succ_cons, List.take_succ_cons, List.take_zero, List.cons.injEq, and_true] at ha hb hc
  subst ha hb hc
  exact ⟨a, b, c, rfl, wa, wb, wc⟩
theorem trod_grid (h : DataW.trod enc Try.prog w base spare held fuel 25 cs = some x) : ∃ a b, cs = [.int .i64 a, .int .i64 b] ∧ I64 a ∧ I64 b := by
  obtain ⟨xs, n, _, _, hl, hxl, hf⟩ := DataW.trod_struct Try.underlying25 h
  obtain ⟨c0, c1, rfl⟩ := list2 (hl.trans cellsGrid)
  have hxl' : xs.length = 2 := hxl
  obtain ⟨y0, e0⟩ := field_at hf 0 2 0 1 rfl cellsI64 (by omega)
  obtain ⟨y1, e1⟩ := field_at hf 1 2 1 1 rfl cellsI64 (by omega)
  obtain ⟨a, ha, wa⟩ := trod_i64 e0
  obtain ⟨b, hb, wb⟩ := trod_i64 e1
  simp only [List.drop_zero, List.drop_succ_cons, List.take_succ_cons, List.take_zero, List.cons.injEq, and_true] at ha hb
  subst ha hb
  exact ⟨a, b, rfl, wa, wb⟩
theorem trod_move (h : DataW.trod enc Try.prog w base spare held fuel 27 cs = some x) : ∃ k a b c d e r, cs = [.int .i64 k, .int .i64 a, .int .i64 b, .int .i64 c, .int .i64 d, .int .i64 e, .int .i64 r] ∧ I64 k ∧ I64 a ∧ I64 b ∧ I64 c ∧ I64 d ∧ I64 e ∧ I64 r := by
  obtain ⟨xs, n, _, _, hl, hxl, hf⟩ := DataW.trod_struct Try.underlying27 h
  obtain ⟨c0, c1, c2, c3, c4, c5, c6, rfl⟩ := list7 (hl.trans cellsMove)
  have hxl' : xs.length = 4 := hxl
  obtain ⟨y0, e0⟩ := field_at hf 0 3 0 1 rfl cellsInt (by omega)
  obtain ⟨y1, e1⟩ := field_at hf 1 23 1 3 rfl cellsPos (by omega)
  obtain ⟨y2, e2⟩ := field_at hf 2 25 4 2 rfl cellsGrid (by omega)
  obtain ⟨y3, e3⟩ := field_at hf 3 2 6 1 rfl cellsI64 (by omega)
  obtain ⟨k, hk, wk⟩ := trod_goint e0
  obtain ⟨a, b, c, hp, wa, wb, wc⟩ := trod_pos e1
  obtain ⟨d, e, hg, wd, we⟩ := trod_grid e2
  obtain ⟨r, hr, wr⟩ := trod_i64 e3
  simp only [List.drop_zero, List.drop_succ_cons, List.take_succ_cons, List.take_zero, List.cons.injEq, and_true] at hk hp hg hr
  obtain ⟨rfl, rfl, rfl⟩ := hp
  obtain ⟨rfl, rfl⟩ := hg
  subst hk hr
  exact ⟨k, a, b, c, d, e, r, rfl, wk, wa, wb, wc, wd, we, wr⟩
end

section
variable {H : Type} {enc : TypeId × Value → H} {w : World} {base : Nat} {spare : Nat → Bool} {held : Bool} {r : Reach} {b0 : Nat} {v : Value} {d : DataW H} {p : List MemPlace}
theorem open_pos (hv : Value.okWide Try.prog w r b0 23 v) (h : DataW.Trod enc Try.prog w base spare held 23 v d p) : ∃ a b c, v = .agg #[.int .i64 a, .int .i64 b, .int .i64 c] ∧ I64 a ∧ I64 b ∧ I64 c := by
  obtain ⟨cs, rfl, _⟩ := okWide_struct Try.underlying23 hv
  obtain ⟨fuel, hf⟩ := h
  obtain ⟨a, b, c, h1, h2⟩ := trod_pos hf
  refine ⟨a, b, c, ?_, h2⟩
  have h3 : cs.toList = [.int .i64 a, .int .i64 b, .int .i64 c] := by simpa [Value.cells] using h1
  rw [show cs = cs.toList.toArray from by simp, h3]
theorem open_move (hv : Value.okWide Try.prog w r b0 27 v) (h : DataW.Trod enc Try.prog w base spare held 27 v d p) : ∃ k a b c d e r, v = .agg #[.int .i64 k, .int .i64 a, .int .i64 b, .int .i64 c, .int .i64 d, .int .i64 e, .int .i64 r] ∧ I64 k ∧ I64 a ∧ I64 b ∧ I64 c ∧ I64 d ∧ I64 e ∧ I64 r := by
  obtain ⟨cs, rfl, _⟩ := okWide_struct Try.underlying27 hv
  obtain ⟨fuel, hf⟩ := h
  obtain ⟨k, a, b, c, d, e, r, h1, h2⟩ := trod_move hf
  refine ⟨k, a, b, c, d, e, r, ?_, h2⟩
  have h3 : cs.toList = [.int .i64 k, .int .i64 a, .int .i64 b, .int .i64 c, .int .i64 d, .int .i64 e, .int .i64 r] := by simpa [Value.cells] using h1
  rw [show cs = cs.toList.toArray from by simp, h3]
end

end Go.Proofs.Ytjdjcjhdaedakaa
