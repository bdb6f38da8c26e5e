/-
  The interpreter's parts (table, block), as plain functions.
-/
import Derived.Test.YtlcfgpjgjdjpoaaDoorNa
import Derived.Test.YtlcfgpjgjdjpoaaDoorPe
namespace Go.Proofs.YtlcfgpjgjdjpoaaDoor
open Go.RowKit

def inR (p : ApiPos) : Prop := (-10000000 ≤ p.X ∧ p.X ≤ 10000000) ∧ (-10000000 ≤ p.Y ∧ p.Y ≤ 10000000) ∧ (-10000000 ≤ p.Z ∧ p.Z ≤ 10000000)
instance (p : ApiPos) : Decidable (inR p) := by unfold inR; infer_instance
theorem tb_far_eq (p : ApiPos) : tb_far p = some (!decide (inR p)) := by
  unfold tb_far mmI
  by_cases h : inR p
  · rw [decide_eq_true h]
    unfold inR at h
    simp only [Bool.not_true, Option.some.injEq, Bool.or_eq_false_iff, decide_eq_false_iff_not]
    constructor <;> (repeat' split) <;> omega
  · rw [decide_eq_false h]
    unfold inR at h
    simp only [Bool.not_false, Option.some.injEq, Bool.or_eq_true, decide_eq_true_eq]
    repeat' split
    all_goals omega
theorem inp_inside_eq (p : ApiPos) : inp_inside p = some (decide (inR p)) := by
  have h : ∀ n, inp_inside_c1 n = some (decide (n < -10000000) || decide (n > 10000000)) := fun n => rfl
  unfold inp_inside
  simp only [h, bindO_s]
  by_cases h1 : (decide (p.X < -10000000) || decide (p.X > 10000000)) = true
  · have : ¬ inR p := by unfold inR; simp at h1; omega
    simp [h1, this]
  by_cases h2 : (decide (p.Y < -10000000) || decide (p.Y > 10000000)) = true
  · have : ¬ inR p := by unfold inR; simp at h2; omega
    simp [h1, h2, this]
  by_cases h3 : (decide (p.Z < -10000000) || decide (p.Z > 10000000)) = true
  · have : ¬ inR p := by unfold inR; simp at h3; omega
    simp [h1, h2, h3, this]
  · have : inR p := by unfold inR; simp at h1 h2 h3; omega
    simp [h1, h2, h3, this]

def findW (b : ApiBlock) (c : Int) : Int × Bool := match b.Words.find? (fun w => w.Letter == c) with | some w => (w.Value, true) | none => (0, false)
theorem bk_Find_eq (b : ApiBlock) (c : Int) (hl : b.Words.length ≤ 1000) : bk_Find b c = some (findW b c) := by
  unfold bk_Find findW
  rw [okIdx_of (by omega), guardO_t, range_find (p := fun w : ApiWord => w.Letter == c) (e := fun w => (w.Value, true)) b.Words 0 (fun i x => rfl)]
  cases b.Words.find? (fun w => w.Letter == c) <;> rfl
def hasW (b : ApiBlock) (l : List UInt8) : Bool := l.any fun c => (findW b (c.toNat : Int)).2
theorem inp_has_eq (b : ApiBlock) (l : List UInt8) (hl : b.Words.length ≤ 1000) (h2 : l.length ≤ 1000) : inp_has b l = some (hasW b l) := by
  unfold inp_has hasW
  rw [okIdx_of (by omega), guardO_t, range_any (p := fun c : UInt8 => (findW b (c.toNat : Int)).2) (r := true) l 0 (fun i x => by rw [bk_Find_eq b _ hl, bindO_s])]
  cases l.any fun c => (findW b (c.toNat : Int)).2 <;> rfl
theorem inp_value_eq (b : ApiBlock) (c : Int) (hl : b.Words.length ≤ 1000) : inp_value b c = some (findW b c).1 := by
  unfold inp_value
  rw [bk_Find_eq b c hl, bindO_s]
theorem bk_Valid_tot (b : ApiBlock) (hl : b.Words.length ≤ 1000) (hc : b.Comment.length ≤ 1000) : Tot (bk_Valid b) (fun e => (e = 0 ∨ e = 1) ∧ (e = 0 → ∀ w ∈ b.Words, -1000000000000 ≤ w.Value ∧ w.Value ≤ 1000000000000)) := by
  unfold bk_Valid
  refine Tot.ite (fun _ => .ok ⟨.inr rfl, by simp⟩) (fun _ => ?_)
  refine Tot.bindX (E := fun _ => ∀ w ∈ b.Words, -1000000000000 ≤ w.Value ∧ w.Value ≤ 1000000000000) (TotX.guard (okIdx_of (by omega)) (TotX.of (Tot.range (fun i _ => ∀ w ∈ b.Words.take i, -1000000000000 ≤ w.Value ∧ w.Value ≤ 1000000000000) _ (by simp) (fun i x v hx hr => ?_) (fun v hr => .ok (by simpa using hr))))) (fun _ hw => ?_)
  · refine TotX.ite (fun _ => .ret ⟨.inr rfl, by simp⟩) (fun h => .go ?_)
    intro w hw
    rw [List.take_add_one, hx, List.mem_append] at hw
    rcases hw with hw | hw
    · exact hr w hw
    · simp at hw; subst hw
      simp at h
      omega
  · refine Tot.bindX (E := fun _ => True) (TotX.guard (okIdx_of (by simp [bytesI]; omega)) (TotX.of (Tot.range (fun _ _ => True) _ trivial (fun i x v _ _ => ?_) (fun v _ => .ok trivial)))) (fun _ _ => .ok ⟨.inl rfl, fun _ => hw⟩)
    refine TotX.bind (E := fun _ => True) (.ok trivial) fun y _ => TotX.ite (fun _ => .ret ⟨.inr rfl, by simp⟩) (fun _ => .go trivial)
theorem index_tot (l : List Int) (c : Int) (hl : l.length ≤ 1000) : Tot (slices_Index_int64_int64 l c) (fun _ => True) := by
  unfold slices_Index_int64_int64
  exact Tot.bindX (E := fun _ => True) (TotX.guard (okIdx_of (by omega)) (TotX.of (Tot.range (fun _ _ => True) _ trivial (fun i x v _ _ => TotX.ite (fun _ => .ret trivial) (fun _ => .go trivial)) (fun v _ => .ok trivial)))) (fun _ _ => .ok trivial)
theorem contains_tot (l : List Int) (c : Int) (hl : l.length ≤ 1000) : Tot (slices_Contains_int64_int64 l c) (fun _ => True) := by
  unfold slices_Contains_int64_int64
  exact Tot.bind (index_tot l c hl) fun _ _ => .ok trivial
theorem inp_known_tot (b : ApiBlock) (hl : b.Words.length ≤ 1000) : Tot (inp_known b) (fun _ => True) := by
  unfold inp_known
  refine Tot.bindX (E := fun _ => True) (TotX.guard (okIdx_of (by omega)) (TotX.of (Tot.range (fun _ _ => True) _ trivial (fun i x v _ _ => ?_) (fun v _ => .ok trivial)))) (fun _ _ => .ok trivial)
  refine TotX.bindX (E := fun _ => True) (TotX.of (Tot.bind (E := fun _ => True) ?_ fun y _ => ?_)) (fun _ _ => .go trivial)
  · repeat' (first | exact .ok trivial | refine Tot.ite (fun _ => ?_) (fun _ => ?_))
  · refine Tot.ite (fun _ => .ok trivial) (fun _ => Tot.ite (fun _ => ?_) (fun _ => Tot.ite (fun _ => Tot.ite (fun _ => .ok trivial) (fun _ => .ok trivial)) (fun _ => .ok trivial)))
    exact Tot.bind (contains_tot _ _ (by decide)) fun y _ => Tot.ite (fun _ => .ok trivial) (fun _ => .ok trivial)

theorem tb_Valid_tot (t : TableTable) (hl : t.Lengths.length ≤ 1000) : Tot (tb_Valid t) (fun e => (e = 0 ∨ e = 1) ∧ (e = 0 → (inR t.Work.e0 ∧ inR t.Work.e1 ∧ inR t.Work.e2 ∧ inR t.Work.e3 ∧ inR t.Work.e4 ∧ inR t.Work.e5) ∧ ∀ x ∈ t.Lengths, 0 ≤ x.Length ∧ x.Length ≤ 10000000)) := by
  unfold tb_Valid
  simp only [tb_far_eq, bindO_s]
  refine Tot.bind (E := fun b => b = true ∨ (inR t.Work.e0 ∧ inR t.Work.e1 ∧ inR t.Work.e2 ∧ inR t.Work.e3 ∧ inR t.Work.e4 ∧ inR t.Work.e5)) (Tot.bind (E := fun i : Int => i ≥ 0 ∨ (inR t.Work.e0 ∧ inR t.Work.e1 ∧ inR t.Work.e2 ∧ inR t.Work.e3 ∧ inR t.Work.e4 ∧ inR t.Work.e5)) (Tot.bindX (E := fun _ => inR t.Work.e0 ∧ inR t.Work.e1 ∧ inR t.Work.e2 ∧ inR t.Work.e3 ∧ inR t.Work.e4 ∧ inR t.Work.e5) ?_ (fun _ h => .ok (.inr h))) (fun i hi => .ok (hi.elim (fun h => .inl (by simpa using h)) .inr))) (fun b hb => Tot.ite (fun _ => .ok ⟨.inr rfl, by simp⟩) (fun h => ?_))
  · by_cases h0 : inR t.Work.e0
    · by_cases h1 : inR t.Work.e1
      · by_cases h2 : inR t.Work.e2
        · by_cases h3 : inR t.Work.e3
          · by_cases h4 : inR t.Work.e4
            · by_cases h5 : inR t.Work.e5
              · simp only [h0, h1, h2, h3, h4, h5, decide_true, Bool.not_true, Bool.false_eq_true, if_false]; exact .go ⟨trivial, trivial, trivial, trivial, trivial, trivial⟩
              · simp [h0, h1, h2, h3, h4, h5]; exact .ret (by simp)
            · simp [h0, h1, h2, h3, h4]; exact .ret (by simp)
          · simp [h0, h1, h2, h3]; exact .ret (by simp)
        · simp [h0, h1, h2]; exact .ret (by simp)
      · simp [h0, h1]; exact .ret (by simp)
    · simp [h0]; exact .ret (by simp)
  · have hw := hb.resolve_left (by simp [h])
    refine Tot.bindX (E := fun _ => ∀ x ∈ t.Lengths, 0 ≤ x.Length ∧ x.Length ≤ 10000000) (TotX.guard (okIdx_of (by omega)) (TotX.of (Tot.range (fun i _ => ∀ x ∈ t.Lengths.take i, 0 ≤ x.Length ∧ x.Length ≤ 10000000) _ (by simp) (fun i x v hx hr => ?_) (fun v hr => .ok (by simpa using hr))))) (fun _ h => .ok ⟨.inl rfl, fun _ => ⟨hw, h⟩⟩)
    refine TotX.bind (E := fun b => b = true ∨ (0 ≤ x.Length ∧ x.Length ≤ 10000000)) ?_ (fun b hb => TotX.ite (fun _ => .ret ⟨.inr rfl, by simp⟩) (fun h => .go ?_))
    · unfold tb_entry
      rw [bindO_s]
      refine Tot.ite (fun he => ?_) (fun _ => .ok (.inl rfl))
      have he' : 0 ≤ x.Length ∧ x.Length ≤ 10000000 := by simp at he; omega
      refine Tot.ite (fun hi => ?_) (fun _ => .ok (.inr he'))
      have hlt := getElem_lt hx
      simp at hi
      rw [wrap_i64 (by omega) (by omega)]
      obtain ⟨y, hy, _⟩ := gt_ok' (l := t.Lengths) (i := (i : Int) - 1) (by omega) (by omega)
      rw [hy, bindO_s]
      exact .ok (.inr he')
    · intro y hy
      rw [List.take_add_one, hx, List.mem_append] at hy
      rcases hy with hy | hy
      · exact hr y hy
      · simp at hy; subst hy
        exact hb.resolve_left (by simp [h])

theorem mid_eq {lo hi : Int} (h0 : 0 ≤ lo) (h1 : lo ≤ 4000000000000000000) (h2 : 0 ≤ hi) (h3 : hi ≤ 4000000000000000000) : IntKind.i64.wrap (shrI .u64 (IntKind.u64.wrap (IntKind.i64.wrap (lo + hi))) 1) = (lo + hi) / 2 := by
  rw [wrap_i64 (n := lo + hi) (by omega) (by omega)]
  have : IntKind.u64.wrap (lo + hi) = lo + hi := by unfold IntKind.wrap; simp [IntKind.signed, IntKind.bits]; omega
  rw [this]
  have : shrI .u64 (lo + hi) 1 = (lo + hi) / 2 := by
    unfold shrI
    simp [IntKind.bits]
    rw [Int.fdiv_eq_ediv_of_nonneg _ (by decide)]
  rw [this, wrap_i64 (by omega) (by omega)]
theorem compare_eq (a b : Int) : cmp_Compare_int64 a b = some (if a < b then -1 else if a > b then 1 else 0) := by
  unfold cmp_Compare_int64 cmp_isNaN_int64
  simp only [bne_self_eq_false, bindO_s, Bool.false_eq_true, if_false]
  by_cases h : a < b
  · simp [h]
  · by_cases h2 : a > b <;> simp [h, h2]
theorem tb_find_tot (t : TableTable) (n : Int) (hl : t.Lengths.length ≤ 1000) : Tot (tb_find t n) (fun r => 0 ≤ r.1 ∧ (r.2 = true → r.1 < (t.Lengths.length : Int))) := by
  unfold tb_find
  refine Tot.bind (E := fun r => 0 ≤ r.1 ∧ (r.2 = true → r.1 < (t.Lengths.length : Int))) (Tot.bind (E := fun v : Int => 0 ≤ v) ?_ (fun v hv => ?_)) (fun r hr => .ok hr)
  · refine Tot.loop (fun m v => 0 ≤ v.1 ∧ v.1 ≤ v.2 ∧ v.2 ≤ (t.Lengths.length : Int) ∧ m = (v.2 - v.1).toNat) _ t.Lengths.length (fuel_gt (by omega)) ⟨by simp, by simp, by simp, by simp⟩ (fun m v hr => ?_)
    obtain ⟨a, b, c, d⟩ := hr
    refine TotX.ite (fun h => ?_) (fun _ => .ret a)
    simp at h
    rw [mid_eq a (by omega) (by omega) (by omega)]
    obtain ⟨y, hy, _⟩ := gt_ok' (l := t.Lengths) (i := (v.1 + v.2) / 2) (by omega) (by omega)
    rw [hy, bindO_s]
    unfold tb_find_c1
    rw [compare_eq, bindO_s, bindO_s]
    refine TotX.ite (fun _ => .go ?_) (fun _ => .go ?_)
    · rw [wrap_i64 (by omega) (by omega)]
      exact ⟨_, by omega, by simp; omega, by simp; omega, c, rfl⟩
    · exact ⟨_, by omega, a, by simp; omega, by simp; omega, rfl⟩
  · refine Tot.bind (E := fun b => b = true → v < (t.Lengths.length : Int)) (Tot.ite (fun h => ?_) (fun _ => .ok (by simp))) (fun b hb => .ok ⟨hv, hb⟩)
    simp at h
    obtain ⟨y, hy, _⟩ := gt_ok' (l := t.Lengths) (i := v) hv h
    rw [hy, bindO_s]
    unfold tb_find_c1
    rw [compare_eq, bindO_s, bindO_s]
    exact .ok fun _ => h
theorem tb_length_tot (t : TableTable) (n : Int) (hl : t.Lengths.length ≤ 1000) (hv : ∀ x ∈ t.Lengths, 0 ≤ x.Length ∧ x.Length ≤ 10000000) : Tot (tb_length t n) (fun r => 0 ≤ r.1 ∧ r.1 ≤ 10000000) := by
  unfold tb_length
  refine Tot.ite (fun _ => .ok (by decide)) (fun _ => Tot.bind (tb_find_tot ⟨t.Work, t.Lengths⟩ n hl) fun r hr => Tot.ite (fun _ => .ok (by decide)) (fun h => ?_))
  simp at h
  obtain ⟨y, hy, hq⟩ := gt_ok' (l := t.Lengths) (i := r.1) hr.1 (hr.2 h)
  rw [hy, bindO_s]
  exact .ok (hv y (List.mem_of_getElem? hq))
theorem tb_slot_tot (c : Int) : Tot (tb_slot c) (fun r => r.2 = 0 → 0 ≤ r.1 ∧ r.1 < 6) := by
  unfold tb_slot
  refine Tot.ite (fun _ => .ok (by simp)) (fun h => .ok fun _ => ?_)
  simp at h
  have : Int.tdiv c 1000 = c / 1000 := Int.tdiv_eq_ediv_of_nonneg (by omega)
  simp only [this]
  rw [wrap_i64 (n := c / 1000) (by omega) (by omega), wrap_i64 (by omega) (by omega)]
  omega
theorem tb_offset_tot (t : TableTable) (c n : Int) (hl : t.Lengths.length ≤ 1000) : Tot (tb_offset t c n) (fun r => r.2 = 0 → (-10000000 ≤ r.1.X ∧ r.1.X ≤ 10000000) ∧ (-10000000 ≤ r.1.Y ∧ r.1.Y ≤ 10000000) ∧ (-10000000 ≤ r.1.Z ∧ r.1.Z ≤ 20000000)) := by
  unfold tb_offset
  refine Tot.bind (tb_Valid_tot t hl) fun e he => Tot.ite (fun h => .ok fun h2 => ?_) (fun h => ?_)
  · simp at h h2; exact absurd h2 h
  · simp at h
    obtain ⟨hw, hle⟩ := he.2 h
    refine Tot.bind (tb_slot_tot c) fun r hr => Tot.bind (tb_length_tot ⟨t.Work, t.Lengths⟩ n hl hle) fun q hq => Tot.ite (fun _ => .ok (by simp)) (fun h2 => ?_)
    simp at h2
    have h3 := hr h2.1
    refine Tot.bind (E := fun p => inR p) (Tot.guard (by simp; omega) ?_) (fun p hp => .ok fun _ => ?_)
    · repeat' (first | exact .ok hw.1 | exact .ok hw.2.1 | exact .ok hw.2.2.1 | exact .ok hw.2.2.2.1 | exact .ok hw.2.2.2.2.1 | exact .ok hw.2.2.2.2.2 | refine Tot.ite (fun _ => ?_) (fun _ => ?_))
    · unfold inR at hp
      simp only
      rw [wrap_i64 (by omega) (by omega)]
      omega
theorem tb_moved_tot (p by_ : ApiPos) (s : Int) : Tot (tb_moved p by_ s) (fun r => r.2 = 0 → inR r.1) := by
  unfold tb_moved
  simp only [tb_far_eq, bindO_s]
  refine Tot.ite (fun _ => .ok (by simp)) (fun _ => Tot.ite (fun _ => .ok (by simp)) (fun h => .ok fun _ => ?_))
  simpa using h
theorem tb_Machine_tot (t : TableTable) (c n : Int) (p : ApiPos) (hl : t.Lengths.length ≤ 1000) : Tot (tb_Machine t c n p) (fun r => r.2 = 0 → inR r.1) := by
  unfold tb_Machine
  refine Tot.bind (tb_offset_tot t c n hl) fun e _ => Tot.ite (fun h => .ok fun h2 => ?_) (fun _ => Tot.bind (tb_moved_tot _ _ _) fun r hr => .ok hr)
  simp at h h2; exact absurd h2 h
theorem tb_Work_tot (t : TableTable) (c n : Int) (p : ApiPos) (hl : t.Lengths.length ≤ 1000) : Tot (tb_Work t c n p) (fun r => r.2 = 0 → inR r.1) := by
  unfold tb_Work
  refine Tot.bind (tb_offset_tot ⟨t.Work, t.Lengths⟩ c n hl) fun e _ => Tot.ite (fun h => .ok fun h2 => ?_) (fun _ => Tot.bind (tb_moved_tot _ _ _) fun r hr => .ok hr)
  simp at h h2; exact absurd h2 h
theorem inp_checked_tot (t : TableTable) (p : ApiPos) (hl : t.Lengths.length ≤ 1000) : Tot (inp_checked t p) (fun e => e = 0 → inR p) := by
  unfold inp_checked
  refine Tot.bind (tb_Valid_tot ⟨t.Work, t.Lengths⟩ hl) fun e he => Tot.ite (fun _ => .ok (by simp)) (fun _ => ?_)
  rw [inp_inside_eq, bindO_s]
  exact Tot.ite (fun _ => .ok (by simp)) (fun h => .ok fun _ => by simpa using h)

end Go.Proofs.YtlcfgpjgjdjpoaaDoor
