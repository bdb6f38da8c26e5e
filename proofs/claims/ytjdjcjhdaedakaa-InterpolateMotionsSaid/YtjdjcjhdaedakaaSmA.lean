/-
  A slice that reads as a list; the contract of swarfref33.Same.
-/
import Derived.Test.YtjdjcjhdaedakaaArD
import Derived.Test.YtjdjcjhdaedakaaEqA
namespace Go.Proofs.Ytjdjcjhdaedakaa
open Go.RowKit

/-- The slice value v, n elements of 'size' cells each, reads as the cells xs. -/
def Rd (w : World) (size : Nat) (v : Value) (n : Nat) (xs : List Value) : Prop :=
  xs.length = n * size ∧ ∃ A c, v = .slice A n c ∧ (0 < n → ∃ b off, A = some ⟨b, off, none⟩ ∧ b < w.heap.size ∧ ∀ j u, xs[j]? = some u → w.cell? ⟨b, off + j, none⟩ = some u)
theorem Rd.kp {w w' : World} {size : Nat} {v : Value} {n : Nat} {xs : List Value} (h : Rd w size v n xs) (hk : Kp w w') : Rd w' size v n xs := by
  obtain ⟨h1, A, c, rfl, h2⟩ := h
  refine ⟨h1, A, c, rfl, fun hn => ?_⟩
  obtain ⟨b, off, rfl, hb, hc⟩ := h2 hn
  exact ⟨b, off, rfl, Nat.lt_of_lt_of_le hb hk.size, fun j u hu => (hk.below.cell (p := ⟨b, off + j, none⟩) hb).trans (hc j u hu)⟩
theorem Rd.drewN {w : World} {size : Nat} {v : Value} {n : Nat} {xs : List Value} (h : Rd w size v n xs) (k : Nat) : Rd (w.drewN k) size v n xs := h
theorem Rd.nil (w : World) (size : Nat) : Rd w size (.slice none 0 0) 0 [] := ⟨by simp, none, 0, rfl, fun h => absurd h (by omega)⟩
theorem Rd.of_own {w : World} {base : Nat} {e : TypeId} {size : Nat} {v : Value} {n : Nat} {xs : List Value} (h : w.ownsRow base e size v n xs) : Rd w size v n xs := by
  obtain ⟨A, c, rfl⟩ := own_slice h
  refine ⟨h.1, A, c, rfl, fun hn => ?_⟩
  obtain ⟨g, cap, hv, hg, hlt⟩ := h.form hn
  have hA : A = some ⟨g, 0, none⟩ := by injection hv
  subst hA
  refine ⟨g, 0, rfl, hlt, fun j u hu => ?_⟩
  have := h.cells (g := g) rfl j u hu
  have hadd : (⟨g, 0, none⟩ : Addr).add j = ⟨g, 0 + j, none⟩ := by unfold Addr.add; split <;> simp_all
  rw [hadd] at this
  exact this

theorem cells3_at {l : List (Int × Int × Int)} {i : Nat} (h : i < l.length) : (cells3 l)[i * 3]? = some (.int .i64 (l[i]'h).1) ∧ (cells3 l)[i * 3 + 1]? = some (.int .i64 (l[i]'h).2.1) ∧ (cells3 l)[i * 3 + 2]? = some (.int .i64 (l[i]'h).2.2) := by
  induction l generalizing i with
  | nil => simp at h
  | cons p l ih =>
    have e : cells3 (p :: l) = .int .i64 p.1 :: .int .i64 p.2.1 :: .int .i64 p.2.2 :: cells3 l := by simp [cells3]
    cases i with
    | zero => rw [e]; simp
    | succ i =>
      rw [e]
      have := ih (i := i) (by simpa using h)
      simpa [Nat.add_mul, Nat.succ_mul] using this

def sameM (a b : List (Int × Int × Int)) : Bool := decide (a = b)

theorem same_no {a b : List (Int × Int × Int)} {j : Nat} (h1 : j < a.length) (h2 : j < b.length) (h : (!a[j].fst == b[j].fst) = true ∨ (!a[j].snd.fst == b[j].snd.fst) = true ∨ (!a[j].snd.snd == b[j].snd.snd) = true) : sameM a b = false := by
  unfold sameM
  refine decide_eq_false fun e => ?_
  subst e
  simp at h
theorem same_step {a b : List (Int × Int × Int)} {j : Nat} (h1 : j < a.length) (h2 : j < b.length) (ht : a.take j = b.take j) (h : (!a[j].fst == b[j].fst) = false ∧ (!a[j].snd.fst == b[j].snd.fst) = false ∧ (!a[j].snd.snd == b[j].snd.snd) = false) : a.take (j + 1) = b.take (j + 1) := by
  rw [List.take_succ_eq_append_getElem h1, List.take_succ_eq_append_getElem h2, ht]
  simp only [Bool.not_eq_eq_eq_not, Bool.not_false, beq_iff_eq] at h
  have : a[j] = b[j] := Prod.ext h.1 (Prod.ext h.2.1 h.2.2)
  rw [this]

set_option maxHeartbeats 1000000 in
theorem same_any (va vb : Value) (a b : List (Int × Int × Int)) (w : World) (ha : Rd w 3 va a.length (cells3 a)) (hb : Rd w 3 vb b.length (cells3 b)) (la : a.length ≤ 1000000000) (lb : b.length ≤ 1000000000) :
    Calls Try.prog 20 #[va, vb] w fun e w' => e = .returned (.bool (sameM a b)) ∧ Kp w w' := by
  obtain ⟨_, A, ca, rfl, hA⟩ := ha
  obtain ⟨_, B, cb, rfl, hB⟩ := hb
  by_cases hl : a.length = b.length
  · have hl' : ((a.length : Int) != (b.length : Int)) = false := by simp [hl]
    have Hl := Lib.hid hl
    clear hl
    go_enter Try.func20, Try.ntmps20
    go_wp2_with fail
    go_loopg [5] a.length (fun g i wr => ∃ j : Nat, g + j = a.length ∧ i = .int .i64 j ∧ Hid (a.take j = b.take j) ∧ ∃ n, wr = w.drewN n)
    case atStart => exact ⟨0, by omega, rfl, rfl, 0, rfl⟩
    case round =>
      obtain ⟨j, hj, rfl, Hj, n, rfl⟩ := hrel
      by_cases hlt : j < a.length
      · obtain ⟨b1, o1, rfl, hb1, hc1⟩ := hA (by omega)
        obtain ⟨b2, o2, rfl, hb2, hc2⟩ := hB (by have := Hl.out; omega)
        have hlt2 : j < b.length := by have := Hl.out; omega
        obtain ⟨p1, p2, p3⟩ := cells3_at hlt
        obtain ⟨q1, q2, q3⟩ := cells3_at hlt2
        have x1 := hc1 _ _ p1
        have x2 := hc1 _ _ p2
        have x3 := hc1 _ _ p3
        have y1 := hc2 _ _ q1
        have y2 := hc2 _ _ q2
        have y3 := hc2 _ _ q3
        rw [← Nat.add_assoc] at x2 x3 y2 y3
        clear hc1 hc2 p1 p2 p3 q1 q2 q3 hA hB
        go_wp2_with fail
        go_quiet (fail)
        go_wp2_with fail
        · go_ret
          refine ⟨ret_bool ?_, (by repeat (first | exact Kp.refl _ | assumption | (refine Kp.alloc ?_ _) | (refine Kp.drew ?_) | (refine Kp.drewN ?_ _) | (refine Kp.setCell ?_ (by first | omega | (simp only [World.size_alloc]; omega)) _) | (refine Kp.trans ?_ (by assumption))))⟩
          exact (same_no hlt hlt2 ‹_›).symm
        · go_roundg (gk - 1)
          case measure => omega
          case rel => exact ⟨j + 1, by omega, by go_num, same_step hlt hlt2 Hj.out ‹_›, _, rfl⟩
      · go_wp2_with fail
        go_ret
        refine ⟨ret_bool ?_, (by repeat (first | exact Kp.refl _ | assumption | (refine Kp.alloc ?_ _) | (refine Kp.drew ?_) | (refine Kp.drewN ?_ _) | (refine Kp.setCell ?_ (by first | omega | (simp only [World.size_alloc]; omega)) _) | (refine Kp.trans ?_ (by assumption))))⟩
        have h1 := Hj.out
        have h2 := Hl.out
        rw [List.take_of_length_le (by omega), List.take_of_length_le (by omega)] at h1
        exact (decide_eq_true h1).symm
  · have hl' : ((a.length : Int) != (b.length : Int)) = true := by
      rw [bne_iff_ne]; omega
    go_enter Try.func20, Try.ntmps20
    go_wp2_with fail
    go_ret
    refine ⟨ret_bool ?_, (by repeat (first | exact Kp.refl _ | assumption | (refine Kp.alloc ?_ _) | (refine Kp.drew ?_) | (refine Kp.drewN ?_ _) | (refine Kp.setCell ?_ (by first | omega | (simp only [World.size_alloc]; omega)) _) | (refine Kp.trans ?_ (by assumption))))⟩
    exact (decide_eq_false (fun h => hl (by rw [h]))).symm

end Go.Proofs.Ytjdjcjhdaedakaa
