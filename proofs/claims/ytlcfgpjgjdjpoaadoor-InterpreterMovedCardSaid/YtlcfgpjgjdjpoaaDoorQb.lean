/-
  Arcs and cycles of the interpreter: they end, with few positions.
-/
import Derived.Test.YtlcfgpjgjdjpoaaDoorQa
namespace Go.Proofs.YtlcfgpjgjdjpoaaDoor
open Go.RowKit

theorem ip_apart_tot (a b : Int) : Tot (ip_apart a b) (fun _ => True) := by
  unfold ip_apart
  exact Tot.bind (E := fun _ => True) (Tot.ite (fun _ => .ok trivial) (fun _ => .ok trivial)) fun _ _ => .ok trivial
theorem ip_point_tot (p : ApiPos) (c : ApiGrid2) : Tot (ip_point p c) (fun r => 0 ≤ r.1 ∧ r.1 ≤ 3) := by
  unfold ip_point
  refine Tot.ite (fun _ => Tot.bind (ip_apart_tot _ _) fun _ _ => .ok (by simp)) (fun _ => Tot.ite (fun _ => Tot.bind (ip_apart_tot _ _) fun _ _ => .ok (by simp)) (fun _ => Tot.ite (fun _ => Tot.bind (ip_apart_tot _ _) fun _ _ => .ok (by simp)) (fun _ => Tot.ite (fun _ => Tot.bind (ip_apart_tot _ _) fun _ _ => .ok (by simp)) (fun _ => .ok (by simp)))))
theorem ip_right_tot (p : ApiPos) (m : ApiMove) : Tot (ip_right p m) (fun _ => True) := by
  unfold ip_right
  refine Tot.ite (fun _ => .ok trivial) (fun _ => Tot.ite (fun _ => .ok trivial) (fun _ => Tot.bind (ip_point_tot _ _) fun a _ => Tot.bind (ip_point_tot _ _) fun b _ => Tot.bind (E := fun _ => True) (Tot.bind (E := fun _ => True) (.ok trivial) fun y _ => ?_) fun _ _ => .ok trivial))
  exact Tot.ite (fun _ => Tot.ite (fun _ => Tot.ite (fun _ => .ok trivial) (fun _ => .ok trivial)) (fun _ => .ok trivial)) (fun _ => .ok trivial)
theorem ip_Valid_tot (p : ApiPos) (m : ApiMove) : Tot (ip_Valid p m) (fun _ => True) := by
  unfold ip_Valid
  refine Tot.bind (ip_right_tot _ _) fun _ _ => Tot.ite (fun _ => .ok trivial) (fun _ => Tot.bind (E := fun _ => True) (.ok trivial) fun b _ => ?_)
  refine Tot.bindX (E := fun l => l.length ≤ 10) (TotX.ite (fun _ => TotX.bind (ip_point_tot _ _) fun r _ => TotX.bind (E := fun _ => True) ?_ fun b _ => TotX.ite (fun _ => .ret trivial) (fun _ => .go (by simp))) (fun _ => .go (by simp))) (fun l hl => ?_)
  · refine Tot.ite (fun _ => .ok trivial) (fun _ => Tot.bind (ip_apart_tot _ _) fun _ _ => Tot.ite (fun _ => .ok trivial) (fun _ => Tot.bind (ip_apart_tot _ _) fun _ _ => .ok trivial))
  · refine Tot.bindX (E := fun _ => True) (TotX.guard (okIdx_of (by omega)) (TotX.of (Tot.range (fun _ _ => True) _ trivial (fun i x v _ _ => TotX.bind (ip_apart_tot _ _) fun _ _ => TotX.ite (fun _ => .ret trivial) (fun _ => .go trivial)) (fun v _ => .ok trivial)))) (fun _ _ => .ok trivial)
theorem ip_Quarters_tot (p : ApiPos) (m : ApiMove) : Tot (ip_Quarters p m) (fun r => r.2 = 0 → 1 ≤ r.1 ∧ r.1 ≤ 4) := by
  unfold ip_Quarters
  refine Tot.bind (E := fun _ => True) (.ok trivial) fun b _ => Tot.ite (fun _ => .ok (by simp)) (fun _ => Tot.bind (ip_Valid_tot _ _) fun e _ => Tot.ite (fun h => .ok fun h2 => ?_) (fun _ => Tot.bind (ip_point_tot _ _) fun a ha => Tot.bind (ip_point_tot _ _) fun c hc => ?_))
  · simp at h h2; exact absurd h2 h
  · have e1 : IntKind.i64.wrap (c.1 - a.1) = c.1 - a.1 := wrap_i64 (by omega) (by omega)
    rw [e1, wrap_i64 (n := 0 - (c.1 - a.1)) (by omega) (by omega)]
    refine Tot.bind (E := fun v : Int => -3 ≤ v ∧ v ≤ 3) (Tot.ite (fun _ => .ok (by omega)) (fun _ => .ok (by omega))) fun v hv => Tot.bind (E := fun v : Int => 1 ≤ v ∧ v ≤ 4) (Tot.ite (fun h => .ok ?_) (fun h => .ok ?_)) fun v hv => .ok fun _ => hv
    · simp at h; rw [wrap_i64 (by omega) (by omega)]; omega
    · simp at h; omega
theorem ip_Chords_tot (r : Int) : Tot (ip_Chords r) (fun n => 0 ≤ n ∧ n ≤ 1073741824) := by
  unfold ip_Chords
  refine Tot.ite (fun _ => .ok (by decide)) (fun _ => Tot.bind (E := fun n : Int => 0 ≤ n ∧ n ≤ 1073741824) ?_ fun n hn => .ok hn)
  refine Tot.loop (fun m v => 1 ≤ v.1 ∧ v.1 ≤ v.2 ∧ v.2 ≤ 1073741824 ∧ m = (v.2 - v.1).toNat) _ 1073741823 (fuel_gt (by omega)) (by decide) (fun m v hr => ?_)
  obtain ⟨a, b, c, d⟩ := hr
  refine TotX.ite (fun h => ?_) (fun _ => .ret (by omega))
  simp at h
  rw [wrap_i64 (n := v.1 + v.2) (by omega) (by omega), Int.tdiv_eq_ediv_of_nonneg (by omega), wrap_i64 (n := (v.1 + v.2) / 2) (by omega) (by omega)]
  refine TotX.ite (fun _ => .go ?_) (fun _ => .go ?_)
  · exact ⟨_, by omega, a, by simp; omega, by simp; omega, rfl⟩
  · rw [wrap_i64 (by omega) (by omega)]
    exact ⟨_, by omega, by simp; omega, by simp; omega, c, rfl⟩
theorem ip_turned_tot (x y q : Int) : Tot (ip_turned x y q) (fun _ => True) := by
  unfold ip_turned
  have hA : -9223372036854775808 ≤ andI .i64 q 3 ∧ andI .i64 q 3 ≤ 9223372036854775807 := i64_lo _
  generalize andI .i64 q 3 = A at hA
  refine Tot.bind (E := fun _ => True) ?_ fun _ _ => .ok trivial
  refine Tot.loop (fun m v => 0 ≤ v.2.2 ∧ m = (A - v.2.2).toNat) _ A.toNat (fuel_gt (by omega)) ⟨by simp, by simp⟩ (fun m v hr => ?_)
  refine TotX.ite (fun h => .go ?_) (fun _ => .ret trivial)
  simp at h
  rw [wrap_i64 (n := v.2.2 + 1) (by omega) (by omega)]
  exact ⟨(A - (v.2.2 + 1)).toNat, by have := hr.2; have := hr.1; omega, by simp; omega, rfl⟩
theorem ip_floor_tot (a b : Int) (h : b ≠ 0) : Tot (ip_floor a b) (fun _ => True) := by
  unfold ip_floor
  have hb : (!(b == 0)) = true := by simp [h]
  exact Tot.guard hb (Tot.guard hb (Tot.bind (E := fun _ => True) (Tot.ite (fun _ => .ok trivial) (fun _ => .ok trivial)) fun _ _ => .ok trivial))
theorem sq_le {i n : Int} (h0 : 0 ≤ i) (h : i ≤ n) (hn : n ≤ 20000) : 0 ≤ i * i ∧ i * i ≤ 400000000 := by
  have h1 : i * i ≤ 20000 * i := Int.mul_le_mul_of_nonneg_right (by omega) h0
  have h2 : 0 ≤ i * i := Int.mul_nonneg h0 h0
  omega
theorem ip_Arc_tot (p : ApiPos) (mv : ApiMove) : Tot (ip_Arc p mv) (fun r => r.1.length ≤ 80000) := by
  unfold ip_Arc
  refine Tot.bind (ip_Quarters_tot _ _) fun q hq => Tot.ite (fun _ => .ok (by simp)) (fun h => ?_)
  simp at h
  have hq4 := hq h
  refine Tot.bind (ip_point_tot _ _) fun pt _ => Tot.bind (ip_Chords_tot _) fun n hn => Tot.ite (fun _ => .ok (by simp)) (fun hm => ?_)
  have hn2 : n ≤ 20000 := by
    simp at hm
    have : q.1 = 1 ∨ q.1 = 2 ∨ q.1 = 3 ∨ q.1 = 4 := by omega
    rcases this with e | e | e | e <;> (rw [e, wrap_i64 (by omega) (by omega)] at hm; omega)
  have hnq : 0 < n → IntKind.i64.wrap (n * q.1) ≠ 0 := by
    intro h0
    have : q.1 = 1 ∨ q.1 = 2 ∨ q.1 = 3 ∨ q.1 = 4 := by omega
    rcases this with e | e | e | e <;> (rw [e, wrap_i64 (by omega) (by omega)]; omega)
  have hnn := sq_le (i := n) hn.1 (Int.le_refl n) hn2
  refine Tot.bind (E := fun l : List ApiPos => l.length ≤ 80000) ?_ fun l hl => .ok hl
  refine Tot.loop (fun m v => 0 ≤ v.2 ∧ v.2 ≤ q.1 ∧ (v.1.length : Int) ≤ v.2 * 20000 ∧ m = (q.1 - v.2).toNat) _ q.1.toNat (fuel_gt (by omega)) ⟨by simp, by simp; omega, by simp, by simp⟩ (fun m v hr => ?_)
  obtain ⟨a, b, c, d⟩ := hr
  refine TotX.ite (fun h => ?_) (fun _ => .ret (by omega))
  simp at h
  refine TotX.bind (E := fun l : List ApiPos => (l.length : Int) ≤ (v.2 + 1) * 20000) ?_ (fun l hl => .go ?_)
  · refine Tot.loop (fun m u => 1 ≤ u.2 ∧ u.2 ≤ n + 1 ∧ (u.1.length : Int) ≤ v.2 * 20000 + u.2 - 1 ∧ m = (n + 1 - u.2).toNat) _ n.toNat (fuel_gt (by omega)) ⟨by simp, by simp; omega, by simp; omega, by simp⟩ (fun m u hr => ?_)
    obtain ⟨a', b', c', d'⟩ := hr
    refine TotX.ite (fun h' => ?_) (fun h' => .ret ?_)
    · simp at h'
      have hii := sq_le (i := u.2) (by omega) h' hn2
      have hpos : 0 < n * n := Int.mul_pos (by omega) (by omega)
      have hg : (!((IntKind.i64.wrap ((IntKind.i64.wrap (n * n)) + (IntKind.i64.wrap (u.2 * u.2)))) == 0)) = true := by
        rw [wrap_i64 (n := n * n) (by omega) (by omega), wrap_i64 (n := u.2 * u.2) (by omega) (by omega), wrap_i64 (by omega) (by omega)]
        simp; omega
      refine TotX.guard hg (TotX.guard hg (TotX.bind (E := fun _ => True) (Tot.ite (fun _ => Tot.bind (ip_turned_tot _ _ _) fun _ _ => .ok trivial) (fun _ => Tot.bind (ip_turned_tot _ _ _) fun _ _ => .ok trivial)) fun r _ => TotX.bind (ip_floor_tot _ _ (hnq (by omega))) fun z _ => TotX.guard (okLen_of (by omega)) (.go ?_)))
      rw [wrap_i64 (n := u.2 + 1) (by omega) (by omega)]
      exact ⟨_, by omega, by simp; omega, by simp; omega, by simp; omega, rfl⟩
    · simp at h'; omega
  · rw [wrap_i64 (n := v.2 + 1) (by omega) (by omega)]
    exact ⟨_, by omega, by simp; omega, by simp; omega, by simpa using hl, rfl⟩
theorem inp_arc_tot (s : ModalState) (b : ApiBlock) (p q : ApiPos) (hl : b.Words.length ≤ 1000) : Tot (inp_arc s b p q) (fun r => r.1.length ≤ 80000) := by
  unfold inp_arc
  rw [inp_value_eq b _ hl, bindO_s, inp_value_eq b _ hl, bindO_s]
  refine Tot.bind (E := fun _ => True) (Tot.ite (fun _ => .ok trivial) (fun _ => .ok trivial)) fun k _ => Tot.bind (ip_Arc_tot _ _) fun r hr => Tot.bind (E := fun l : List InterpreterReached => l.length ≤ 80000) ?_ fun l hl => .ok hl
  refine Tot.guard (okIdx_of (by omega)) (Tot.range (fun i v => v.length ≤ i) _ (by simp) (fun i x v hx hr' => ?_) (fun v hv => .ok (by omega)))
  have hlt := getElem_lt hx
  exact TotX.guard (okLen_of (by omega)) (.go (by simp; omega))

theorem cy_Read_c1_tot (c d : Int) (b : ApiBlock) (hl : b.Words.length ≤ 1000) : Tot (cy_Read_c1 c d b) (fun _ => True) := by
  unfold cy_Read_c1
  rw [bk_Find_eq b c hl, bindO_s]
  exact Tot.ite (fun _ => .ok trivial) (fun _ => .ok trivial)
def cyOk (c : CycleCycle) : Prop := c.Code = 83000 → 0 < c.Q ∧ c.Q ≤ 10000000 ∧ (-10000000 ≤ c.R ∧ c.R ≤ 10000000) ∧ (-10000000 ≤ c.Z ∧ c.Z ≤ 10000000) ∧ c.R - c.Z - 1 < 1000 * c.Q ∧ c.Z < c.R
theorem cy_Valid_tot (c : CycleCycle) : Tot (cy_Valid c) (fun e => e = 0 → cyOk c) := by
  unfold cy_Valid
  refine Tot.ite (fun _ => .ok (by simp)) (fun h0 => ?_)
  simp only [cy_far, bindO_s]
  refine Tot.bind (E := fun b => b = true ∨ ((c.Code = 83000 → c.Q ≤ 10000000) ∧ (-10000000 ≤ c.R ∧ c.R ≤ 10000000) ∧ (-10000000 ≤ c.Z ∧ c.Z ≤ 10000000))) ?_ (fun b hb => Tot.ite (fun _ => .ok (by simp)) (fun hf => ?_))
  · refine Tot.ite (fun _ => .ok (.inl rfl)) (fun h1 => Tot.ite (fun _ => .ok (.inl rfl)) (fun h2 => Tot.ite (fun _ => .ok (.inl rfl)) (fun h3 => Tot.ite (fun hc => ?_) (fun hc => .ok (.inr ?_)))))
    · simp at h1 h2 hc
      by_cases hq : c.Q > 10000000 ∨ c.Q < -10000000
      · exact .ok (.inl (by simpa using hq))
      · exact .ok (.inr ⟨fun _ => by omega, by omega, by omega⟩)
    · simp at h1 h2 hc
      exact ⟨fun e => absurd e hc, by omega, by omega⟩
  · have hb' := hb.resolve_left (by simp [hf])
    refine Tot.bind (E := fun b => b = true ∨ cyOk c) (Tot.ite (fun hc => ?_) (fun hc => .ok (.inr fun e => ?_))) (fun b hb2 => Tot.ite (fun _ => .ok (by simp)) (fun hf2 => .ok fun _ => hb2.resolve_left (by simp [hf2])))
    · simp at hc
      simp only [hc, beq_self_eq_true, if_true, Bool.or_eq_false_iff, decide_eq_false_iff_not] at h0
      have hq : 0 < c.Q := by omega
      refine Tot.guard (by simp; omega) (.ok ?_)
      have hqq := hb'.1 hc
      rw [wrap_i64 (n := c.R - c.Z) (by omega) (by omega), wrap_i64 (n := c.R - c.Z - 1) (by omega) (by omega), Int.tdiv_eq_ediv_of_nonneg (by omega)]
      have hd0 : 0 ≤ (c.R - c.Z - 1) / c.Q := Int.ediv_nonneg (by omega) (by omega)
      have hd1 : (c.R - c.Z - 1) / c.Q ≤ c.R - c.Z - 1 := Int.ediv_le_self _ (by omega)
      rw [wrap_i64 (by omega) (by omega)]
      by_cases h9 : (c.R - c.Z - 1) / c.Q > 999
      · exact .inl (by simpa using h9)
      · refine .inr fun _ => ⟨hq, hqq, hb'.2.1, hb'.2.2, ?_, by omega⟩
        have := Int.lt_mul_of_ediv_lt hq (show (c.R - c.Z - 1) / c.Q < 1000 by omega)
        exact this
    · simp at hc; exact absurd e hc
theorem cy_Depths_tot (c : CycleCycle) : Tot (cy_Depths c) (fun r => r.1.length ≤ 1001) := by
  unfold cy_Depths
  refine Tot.bind (cy_Valid_tot c) fun e he => Tot.ite (fun _ => .ok (by simp)) (fun h => Tot.bind (E := fun l : List Int => l.length ≤ 1000) (Tot.ite (fun hc => ?_) (fun _ => .ok (by simp))) fun l hl => Tot.guard (okLen_of (by omega)) (.ok (by simp; omega)))
  simp at h hc
  obtain ⟨h1, h2, h3, h4, h5, h6⟩ := he h hc
  rw [wrap_i64 (n := c.R - c.Q) (by omega) (by omega)]
  refine Tot.loop (fun m v => v.2 = c.R - ((v.1.length : Int) + 1) * c.Q ∧ c.Z - c.Q ≤ v.2 ∧ v.2 ≤ c.R ∧ v.1.length ≤ 1000 ∧ m = (v.2 - c.Z).toNat) _ (c.R - c.Q - c.Z).toNat (fuel_gt (by omega)) ?_ (fun m v hr => ?_)
  · exact ⟨by simp, by simp; omega, by simp; omega, by simp, rfl⟩
  · obtain ⟨a, b, b2, c', d⟩ := hr
    refine TotX.ite (fun h => ?_) (fun _ => .ret c')
    simp at h
    have hlt : (v.1.length : Int) + 1 < 1000 := by
      have : ((v.1.length : Int) + 1) * c.Q < 1000 * c.Q := by omega
      exact Int.lt_of_mul_lt_mul_right this (by omega)
    refine TotX.guard (okLen_of (by omega)) (.go ?_)
    rw [wrap_i64 (n := v.2 - c.Q) (by omega) (by omega)]
    refine ⟨_, by omega, ?_, by simp; omega, by simp; omega, by simp; omega, rfl⟩
    simp only [List.length_append, List.length_cons, List.length_nil]
    rw [a]
    have : (((v.1.length + (0 + 1) : Nat) : Int) + 1) * c.Q = ((v.1.length : Int) + 1) * c.Q + c.Q := by
      rw [show (((v.1.length + (0 + 1) : Nat) : Int) + 1) = ((v.1.length : Int) + 1) + 1 by omega, Int.add_mul, Int.one_mul]
    omega

end Go.Proofs.YtlcfgpjgjdjpoaaDoor
