/-
  PostBlocks: what its mirror computes is true.
-/
import Derived.Test.YtejknolljjpodaaGreatDoorPq
import Derived.Test.YtejknolljjpodaaGreatDoorMLBlocks
namespace Go.Proofs.YtejknolljjpodaaGreatDoor
open Go.RowKit
set_option linter.unusedVariables false
set_option linter.unusedSimpArgs false

theorem in_i64 {n : Int} (h : (inInt .i64) n) : i64P n := by
  simp [inInt, Lit.wf, IntKind.min, IntKind.max, IntKind.signed, IntKind.bits] at h
  unfold i64P; omega
theorem in_pos {p : ApiPos} (h : inApiPos p) : okPos p := ⟨in_i64 h.1, in_i64 h.2.1, in_i64 h.2.2⟩
theorem in_move {m : ApiMove} (h : inApiMove m) : okMove m := by
  obtain ⟨a, ⟨b1, b2, b3⟩, ⟨c1, c2⟩, d⟩ := h
  exact ⟨in_i64 a, ⟨in_i64 b1, in_i64 b2, in_i64 b3⟩, in_i64 c1, in_i64 c2, in_i64 d⟩
theorem r46_Few_tot {l : List ApiStage} (hl : l.length ≤ 9223372036854775807) (hm : ∀ s ∈ l, ∀ m ∈ s.Moves, okMove m) : Tot (r46_Few l 30) (fun b => b = true → okStages l) := by
  unfold r46_Few
  refine Tot.ite (fun q => .ok (fun h => by cases h)) (fun q => ?_)
  simp at q
  refine Tot.bindX (E := fun _ => ∀ s ∈ l, s.Moves.length ≤ 30) (TotX.of (Tot.guard (okIdx_of hl) (Tot.range (fun i _ => ∀ j, j < i → ∀ s, l[j]? = some s → s.Moves.length ≤ 30) _ (fun j q => by omega) (fun i s _ hs hr => ?_) (fun _ hr => .ok ?_)))) (fun _ h => .ok (fun _ => ⟨by omega, fun s hs => ⟨h s hs, hm s hs⟩⟩))
  · refine TotX.ite (fun z => .ret (fun h => by cases h)) (fun z => .go (fun j hj t ht => ?_))
    simp at z
    rcases Nat.lt_or_ge j i with y | y
    · exact hr j y t ht
    · obtain rfl : j = i := by omega
      rw [hs] at ht; injection ht with ht; rw [← ht]; omega
  · intro s hs
    obtain ⟨j, hj⟩ := List.mem_iff_getElem?.1 hs
    exact hr j (getElem_lt hj) s hj
theorem postBlocks_plain (w : L46Work) (o : R46Options) (hw : inL46Work w) (ho : inR46Options o) : l46_PostBlocks w o = some true := by
  obtain ⟨hs, hp⟩ := hw
  obtain ⟨b, hb, hf⟩ := r46_Few_tot (l := w.Stages) hs.1 (fun s h m hm => in_move ((hs.2 s h).2.2 m hm))
  unfold l46_PostBlocks
  simp only [awake46, bindO_s, if_true, hb]
  cases b with
  | false => rfl
  | true =>
    obtain ⟨c, d, e, f⟩ := o
    obtain ⟨h1, h2⟩ := blocks_few (w := c) (c := d) (n := e) (f := f) (hf rfl) (in_pos hp)
    simp only [Bool.not_true, Bool.false_eq_true, if_false]
    rw [po_Blocks_eq (hf rfl) (in_pos hp), bindO_s, r46_Blocks_eq (hf rfl) (in_pos hp), bindO_s]
    unfold po_Lines
    rw [po_Blocks_eq (hf rfl) (in_pos hp), bindO_s, bindO_s]
    simp only [beq_self_eq_true, if_true]
    rw [same_refl6 _ (by omega) (fun b hb => by have := h2 b hb; omega)]
    rfl
end Go.Proofs.YtejknolljjpodaaGreatDoor
