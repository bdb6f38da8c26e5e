/-
  The walk over a list of moves: the model, and the frame of a closure that writes to memory of its own.
-/
import Derived.Test.YtjdjcjhdaedakaaMiA
namespace Go.Proofs.Ytjdjcjhdaedakaa
open Go.RowKit

/-- The positions to which one move leads. -/
def stepPs (x y z : Int) (m : Mv) : List (Int × Int × Int) := if m.arc = true then arcM x y z m.k m.x m.y m.z m.cx m.cy else [(m.x, m.y, m.z)]
/-- The positions of each move up to the first error, and that error. -/
def runM : Int → Int → Int → List Mv → List (List (Int × Int × Int)) × Int
  | _, _, _, [] => ([], 0)
  | x, y, z, m :: l => if Mv.valid x y z m = 0 then (stepPs x y z m :: (runM m.x m.y m.z l).1, (runM m.x m.y m.z l).2) else ([], Mv.valid x y z m)
theorem runM_drop (l : List Mv) (j : Nat) (h : j < l.length) (x y z : Int) : runM x y z (l.drop j) = if Mv.valid x y z l[j] = 0 then (stepPs x y z l[j] :: (runM l[j].x l[j].y l[j].z (l.drop (j + 1))).1, (runM l[j].x l[j].y l[j].z (l.drop (j + 1))).2) else ([], Mv.valid x y z l[j]) := by
  rw [List.drop_eq_getElem_cons h]; rfl

/-- All blocks of the first world but those of the set are unchanged in the second. -/
structure Kx (own : Nat → Prop) (w w' : World) : Prop where
  os : w'.os = w.os
  tape : w'.tape = w.tape
  output : w'.output = w.output
  size : w.heap.size ≤ w'.heap.size
  block : ∀ b, b < w.heap.size → ¬ own b → w'.heap[b]? = w.heap[b]?
theorem Kx.of_kp {own : Nat → Prop} {w w' : World} (h : Kp w w') : Kx own w w' := ⟨h.below.os, h.below.tape, h.below.output, h.size, fun b hb _ => h.below.block b hb⟩
theorem Kx.trans {own own' : Nat → Prop} {a b c : World} (h : Kx own a b) (k : Kx own' b c) (ho : ∀ i, i < a.heap.size → own' i → own i) : Kx own a c :=
  ⟨k.os.trans h.os, k.tape.trans h.tape, k.output.trans h.output, Nat.le_trans h.size k.size, fun i hi hn => (k.block i (Nat.lt_of_lt_of_le hi h.size) (fun q => hn (ho i hi q))).trans (h.block i hi hn)⟩
theorem Kx.kp {own : Nat → Prop} {a b c : World} (h : Kx own a b) (k : Kp b c) : Kx own a c := h.trans (own' := fun _ => False) (Kx.of_kp k) (fun _ _ q => q.elim)
theorem Kx.cell {own : Nat → Prop} {w w' : World} (h : Kx own w w') {p : Addr} (hp : p.block < w.heap.size) (hn : ¬ own p.block) : w'.cell? p = w.cell? p := World.cell?_of_block (w := w) (h.block p.block hp hn)
theorem Kx.bk3 {own : Nat → Prop} {w w' : World} (h : Kx own w w') {g : Nat} {x y z : Int} (hb : Bk3 w g x y z) (hn : ¬ own g) : Bk3 w' g x y z := (h.block g hb.lt hn).trans hb
theorem Kx.to_kp {own : Nat → Prop} {w w' : World} (h : Kx own w w') (hn : ∀ b, b < w.heap.size → ¬ own b) : Kp w w' := ⟨h.os, h.tape, h.output, h.size, fun b hb => h.block b hb (hn b hb)⟩

/-- A store of the caller's own, in a block that was not there and that the closure does not own. -/
structure Closure (fn : Nat) (args : Value → Value → Array Value) (Inv : List (List (Int × Int × Int)) → World → Prop) (Own : World → Nat → Prop) : Prop where
  lt : ∀ acc W b, Inv acc W → Own W b → b < W.heap.size
  kp : ∀ acc W W', Inv acc W → Kp W W' → Inv acc W' ∧ ∀ b, Own W' b ↔ Own W b
  far : ∀ acc W p u, Inv acc W → ¬ Own W p.block → p.block < W.heap.size → Inv acc (W.setCell p u) ∧ ∀ b, Own (W.setCell p u) b ↔ Own W b
  call : ∀ acc W v ps, Inv acc W → Rd W 3 v ps.length (cells3 ps) → 0 < ps.length → acc.flatten.length + ps.length ≤ 20000 → acc.length ≤ 1000000000000 →
    Calls Try.prog fn (args (.int .i64 (acc.length : Int)) v) W fun e W' => e = .returned (.tuple #[]) ∧ Inv (acc ++ [ps]) W' ∧ Kx (Own W) W W' ∧ ∀ b, b < W.heap.size → Own W' b → Own W b

end Go.Proofs.Ytjdjcjhdaedakaa
