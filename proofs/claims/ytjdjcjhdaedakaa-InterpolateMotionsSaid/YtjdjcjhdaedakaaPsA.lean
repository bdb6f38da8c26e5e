/-
  The closure of interpolate.Positions, and the contract of Positions.
-/
import Derived.Test.YtjdjcjhdaedakaaEaB
import Derived.OneCell
namespace Go.Proofs.Ytjdjcjhdaedakaa
open Go.RowKit

theorem addr_add (b off j : Nat) : (⟨b, off, none⟩ : Addr).add j = ⟨b, off + j, none⟩ := by unfold Addr.add; split <;> simp_all
theorem cells3_one (l : List (Int × Int × Int)) : ∀ u ∈ cells3 l, u.oneCell' = true := by
  intro u hu
  unfold cells3 at hu
  simp only [List.mem_flatMap, List.mem_cons, List.not_mem_nil, or_false] at hu
  obtain ⟨p, _, rfl | rfl | rfl⟩ := hu <;> rfl
theorem cells3_append (a b : List (Int × Int × Int)) : cells3 (a ++ b) = cells3 a ++ cells3 b := by simp [cells3]

def PosInv (B : Nat) (acc : List (List (Int × Int × Int))) (W : World) : Prop := ∃ v, W.heap[B]? = some (.cells #[v] 38 (0, 0)) ∧ W.ownsRow (B + 1) 23 3 v acc.flatten.length (cells3 acc.flatten)
def PosOwn (B : Nat) (W : World) (b : Nat) : Prop := b = B ∨ ∃ v, W.heap[B]? = some (.cells #[v] 38 (0, 0)) ∧ v.ownBlock = some b
theorem heap_lt {W : World} {B : Nat} {o : Obj} (h : W.heap[B]? = some o) : B < W.heap.size := by
  rcases Nat.lt_or_ge B W.heap.size with hlt | hge
  · exact hlt
  · rw [Array.getElem?_eq_none hge] at h; cases h
theorem same_cell {W : World} {B : Nat} {t t' : TypeId} {v v' : Value} (h : W.heap[B]? = some (.cells #[v] t (0, 0))) (h' : W.heap[B]? = some (.cells #[v'] t' (0, 0))) : v = v' := by
  rw [h] at h'; injection h' with h'; injection h' with h'; simpa using h'

set_option maxHeartbeats 1000000 in
theorem posClosure (B : Nat) : Closure 44 (fun i v => #[i, v, .pointer (some ⟨B, 0, none⟩)]) (PosInv B) (PosOwn B) := by
  refine ⟨?_, ?_, ?_, ?_⟩
  · rintro acc W b ⟨v, h1, h2⟩ (rfl | ⟨v', h3, h4⟩)
    · exact heap_lt h1
    · obtain rfl := same_cell h1 h3
      exact (h2.lt _ h4).2
  · rintro acc W W' ⟨v, h1, h2⟩ hk
    have h3 : W'.heap[B]? = some (.cells #[v] 38 (0, 0)) := (hk.below.block B (heap_lt h1)).trans h1
    refine ⟨⟨v, h3, own_kp h2 hk⟩, fun b => ⟨?_, ?_⟩⟩
    · rintro (rfl | ⟨v', h4, h5⟩)
      · exact .inl rfl
      · obtain rfl := same_cell h3 h4; exact .inr ⟨_, h1, h5⟩
    · rintro (rfl | ⟨v', h4, h5⟩)
      · exact .inl rfl
      · obtain rfl := same_cell h1 h4; exact .inr ⟨_, h3, h5⟩
  · rintro acc W p u ⟨v, h1, h2⟩ hn hp
    have hB : B ≠ p.block := fun e => hn (.inl e.symm)
    have ho : v.ownBlock ≠ some p.block := fun e => hn (.inr ⟨v, h1, e⟩)
    have h3 : (W.setCell p u).heap[B]? = some (.cells #[v] 38 (0, 0)) := (Below.heap_setCell W p u B hB).trans h1
    refine ⟨⟨v, h3, ownsRow_setCell_other h2 ho u⟩, fun b => ⟨?_, ?_⟩⟩
    · rintro (rfl | ⟨v', h4, h5⟩)
      · exact .inl rfl
      · obtain rfl := same_cell h3 h4; exact .inr ⟨_, h1, h5⟩
    · rintro (rfl | ⟨v', h4, h5⟩)
      · exact .inl rfl
      · obtain rfl := same_cell h1 h4; exact .inr ⟨_, h3, h5⟩
  · rintro acc W v ps ⟨vo, h1, h2⟩ hrd hpos htot hal
    obtain ⟨hcl, A, ca, rfl, hA⟩ := hrd
    obtain ⟨b1, o1, rfl, hb1, hc1⟩ := hA hpos
    have Hcl := Lib.hid hcl
    have hbl := heap_lt h1
    have hcell : W.cell? ⟨B, 0, none⟩ = some vo := by rw [cell_of_row W B 0 _ _ _ h1]; rfl
    have hfr : W.frozen? ⟨B, 0, none⟩ = false := by simp [World.frozen?, h1]
    have H1 := Lib.hid h1
    have hown := h2
    obtain ⟨Ao, co, rfl⟩ := own_slice h2
    obtain ⟨i0, hi0, iz0, is0, ib0⟩ := info_parts info_pos
    obtain ⟨n, hn⟩ : ∃ n, acc.flatten.length = n := ⟨_, rfl⟩
    rw [hn] at hown hcell htot
    have Hn := Lib.hid hn
    clear hcl hA h1 h2 hn
    go_enter Try.func44, Try.ntmps44
    go_wp2_with (at_builtin; refine wpList_append_lies _ rfl (.tmp 5) (.tmp 6) 38 rfl (B + 1) 23 i0 _ 3 24 Try.underlying38 hi0 iz0 is0 ib0 rfl (by decide) (.slice Ao n co) n (cells3 acc.flatten) rfl hown ⟨b1, o1, none⟩ ps.length ca (cells3 ps) rfl Hcl.out ?c1 (cells3_one ps) hpos ?c3 ?c4 (by omega) W.heap.size rfl ?_)
    case c1 => intro j u hu; rw [addr_add]; exact hc1 j u hu
    case c3 => unfold maxLen; omega
    case c4 => omega
    intro g cap w1 hown1 hg1 hat hlt
    have hg0 := (hown1.lt g rfl).1
    have hBg : some B ≠ (Value.slice Ao n co).ownBlock := fun e => by have := (hown.lt B e.symm).1; omega
    have hB1 : w1.heap[B]? = some (.cells #[.slice Ao n co] 38 (0, 0)) := by
      have := (hg1.block B hbl hBg).trans H1.out
      rw [Hn.out] at this
      exact this
    have hc1' : w1.cell? ⟨B, 0, none⟩ = some (.slice Ao n co) := by rw [cell_of_row w1 B 0 _ _ _ hB1]; rfl
    have hf1' : w1.frozen? ⟨B, 0, none⟩ = false := by simp [World.frozen?, hB1]
    have hBg' : B ≠ g := by omega
    have hown2 := ownsRow_setCell_other (a := ⟨B, 0, none⟩) hown1 (by simp only [Value.ownBlock]; intro e; injection e with e; exact hBg' e.symm) (.slice (some ⟨g, 0, none⟩) (n + ps.length) cap)
    have hB2 : (w1.setCell ⟨B, 0, none⟩ (.slice (some ⟨g, 0, none⟩) (n + ps.length) cap)).heap[B]? = some (.cells #[.slice (some ⟨g, 0, none⟩) (n + ps.length) cap] 38 (0, 0)) := by
      simp [World.setCell, Array.getElem?_modify, hB1]
    have hat' := Lib.hid hat
    clear hat
    go_wp2_with fail
    go_end0
    refine ⟨rfl, ⟨_, hB2, ?_⟩, ?_, ?_⟩
    · simp only [List.flatten_append, List.flatten_cons, List.flatten_nil, List.append_nil, List.length_append]
      rw [Hn.out, cells3_append]
      exact hown2
    · refine ⟨hg1.os, hg1.tape, hg1.output, by simpa [World.setCell] using hg1.size, fun b hb hn => ?_⟩
      have n1 : b ≠ B := fun e => hn (.inl e)
      have n2 : some b ≠ (Value.slice Ao n co).ownBlock := fun e => hn (.inr ⟨_, H1.out, by rw [e, Hn.out]⟩)
      rw [Below.heap_setCell _ _ _ _ n1]
      exact hg1.block b hb n2
    · rintro b hb (rfl | ⟨v', h3, h4⟩)
      · exact .inl rfl
      · obtain rfl := same_cell hB2 h3
        simp only [Value.ownBlock] at h4
        injection h4 with h4
        subst h4
        rcases hat'.out with h5 | h5
        · exact .inr ⟨_, H1.out, by rw [Hn.out]; exact h5⟩
        · omega

end Go.Proofs.Ytjdjcjhdaedakaa
