/-
  The contract of interpolate.Positions.
-/
import Derived.Test.YtjdjcjhdaedakaaPsA
namespace Go.Proofs.Ytjdjcjhdaedakaa
open Go.RowKit

def outM (r : List (List (Int × Int × Int)) × Int) : List (Int × Int × Int) := if r.2 = 0 then r.1.flatten else []
def PosPost (w : World) (r : List (List (Int × Int × Int)) × Int) (e : Ending) (w' : World) : Prop :=
  ∃ v, e = .returned (.tuple #[v, .int .i64 r.2]) ∧ w'.ownsRow w.heap.size 23 3 v (outM r).length (cells3 (outM r)) ∧ Kp w w'

set_option maxRecDepth 100000 in
set_option maxHeartbeats 1000000 in
theorem positions_any (x y z : Int) (v : Value) (l : List Mv) (w : World) (hx : I64 x) (hy : I64 y) (hz : I64 z) (hrd : Rd w 7 v l.length (cells7 l)) (hok : ∀ m ∈ l, m.ok) (hlen : l.length ≤ 1000000000) (htot : (runM x y z l).1.flatten.length ≤ 20000) :
    Calls Try.prog 23 #[.agg #[.int .i64 x, .int .i64 y, .int .i64 z], v] w (PosPost w (runM x y z l)) := by
  have hmf : ∀ (fn : Fn) (first cap : Array Value) (w : World), (Instr.makeFunc fn first cap).run Try.prog w = .ok (.func fn first cap) w := fun _ _ _ _ => rfl
  obtain ⟨hcl, A, ca, rfl, hA⟩ := hrd
  have Hrd : Hid (Rd w 7 (.slice A l.length ca) l.length (cells7 l)) := Lib.hid ⟨hcl, A, ca, rfl, hA⟩
  have HA := Lib.hid hA
  have Hok := Lib.hid hok
  clear hA hok hcl
  obtain ⟨rr, hrr⟩ : ∃ rr, runM x y z l = rr := ⟨_, rfl⟩
  rw [hrr] at htot ⊢
  have HR := Lib.hid hrr
  clear hrr
  go_enter Try.func23, Try.ntmps23
  go_wp2_with fail
  have hkW : Kp w ((w.alloc (.cells #[.int .i64 x, .int .i64 y, .int .i64 z] 23)).alloc (.cells #[.slice none 0 0] 38)) := (by repeat (first | exact Kp.refl _ | assumption | (refine Kp.alloc ?_ _) | (refine Kp.drew ?_) | (refine Kp.drewN ?_ _) | (refine Kp.setCell ?_ (by first | omega | (simp only [World.size_alloc]; omega)) _) | (refine Kp.trans ?_ (by assumption))))
  have hB : ((w.alloc (.cells #[.int .i64 x, .int .i64 y, .int .i64 z] 23)).alloc (.cells #[.slice none 0 0] 38)).heap[w.heap.size + 1]? = some (.cells #[.slice none 0 0] 38 (0, 0)) := by
    have h := heap_alloc_new (w.alloc (.cells #[.int .i64 x, .int .i64 y, .int .i64 z] 23)) (.cells #[.slice none 0 0] 38)
    rw [World.size_alloc] at h
    exact h
  have hown0 : ∀ b, b < w.heap.size → ¬ PosOwn (w.heap.size + 1) ((w.alloc (.cells #[.int .i64 x, .int .i64 y, .int .i64 z] 23)).alloc (.cells #[.slice none 0 0] 38)) b := by
    rintro b hb (rfl | ⟨v', h1, h2⟩)
    · omega
    · obtain rfl := same_cell hB h1
      simp [Value.ownBlock] at h2
  refine (each_pos _ (PosInv (w.heap.size + 1)) (PosOwn (w.heap.size + 1)) x y z _ l _ (posClosure _) hx hy hz (Hrd.out.kp hkW) ?hnb Hok.out hlen (by rw [HR.out]; exact htot) ⟨_, hB, World.ownsRow_nil _ _ _ _⟩).mono ?_
  case hnb =>
    intro h0 b off n c hv
    injection hv with hv h2 _
    subst hv
    obtain ⟨b', off', h3, h4, _⟩ := HA.out h0
    injection h3 with h3
    injection h3 with h3 _ _
    subst h3
    exact hown0 _ h4
  rw [HR.out]
  rintro e w1 ⟨rfl, ⟨vo, i1, i2⟩, kx, o1⟩
  have hk1 : Kp w w1 := by
    refine ⟨kx.os, kx.tape, kx.output, Nat.le_trans hkW.size kx.size, fun b hb => ?_⟩
    exact (kx.block b (Nat.lt_of_lt_of_le hb hkW.size) (hown0 b hb)).trans (hkW.below.block b hb)
  obtain ⟨N, hN⟩ : ∃ N, rr.1.flatten.length = N := ⟨_, rfl⟩
  rw [hN] at i2
  have HN := Lib.hid hN
  clear hN
  obtain ⟨Ao, co, rfl⟩ := own_slice i2
  have hc1 : w1.cell? ⟨w.heap.size + 1, 0, none⟩ = some (.slice Ao N co) := by rw [cell_of_row w1 _ 0 _ _ _ i1]; rfl
  have HI2 := Lib.hid i2
  by_cases he : rr.2 = 0
  · have he' : (rr.2 != 0) = false := neqz he
    have Ho : Hid (outM rr = rr.1.flatten) := Lib.hid (by unfold outM; rw [if_pos he])
    have He := Lib.hid he
    clear he
    go_wp2_with fail
    go_ret2
    refine ⟨_, by rw [He.out]; rfl, ?_, hk1⟩
    rw [Ho.out, HN.out]
    exact own_mono HI2.out (show w.heap.size ≤ w.heap.size + 1 + 1 by omega)
  · have he' : (rr.2 != 0) = true := neqnz he
    have Ho : Hid (outM rr = []) := Lib.hid (by unfold outM; rw [if_neg he])
    go_wp2_with fail
    go_ret2
    refine ⟨_, rfl, ?_, hk1⟩
    rw [Ho.out]
    exact World.ownsRow_nil _ _ _ _

end Go.Proofs.Ytjdjcjhdaedakaa
