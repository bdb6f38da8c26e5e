/-
  The table: the check of both, the binary search and the search one by one, offsets, the way there and back.
-/
import Derived.Test.YtiiglghanajfcaaDoorMB
import Derived.Test.YtiiglghanajfcaaDoorPe
namespace Go.Proofs.YtiiglghanajfcaaDoor
open Go.RowKit

theorem wrap_i64 {n : Int} (h : -9223372036854775808 ≤ n) (h2 : n ≤ 9223372036854775807) : IntKind.i64.wrap n = n := IntWalk.i64_in _ ⟨h, by omega⟩
theorem gt_k {α : Type} {l : List α} {k : Nat} {x : α} (h : l[k]? = some x) : gt l (k : Int) = some x := by
  simp [gt, h]
def inR (p : ApiPos) : Prop := (-10000000 ≤ p.X ∧ p.X ≤ 10000000) ∧ (-10000000 ≤ p.Y ∧ p.Y ≤ 10000000) ∧ (-10000000 ≤ p.Z ∧ p.Z ≤ 10000000)
instance (p : ApiPos) : Decidable (inR p) := by unfold inR; infer_instance
theorem tb_far_eq (p : ApiPos) : tb_far p = some (!decide (inR p)) := by
  unfold tb_far mmI
  by_cases h : inR p
  · rw [decide_eq_true h]
    unfold inR at h
    simp only [Bool.not_true, Option.some.injEq, Bool.or_eq_false_iff, decide_eq_false_iff_not]
    constructor <;> (repeat' split) <;> omega
  · rw [decide_eq_false h]
    unfold inR at h
    simp only [Bool.not_false, Option.some.injEq, Bool.or_eq_true, decide_eq_true_eq]
    repeat' split
    all_goals omega
theorem tb_Valid_tot (t : TableTable) (hl : t.Lengths.length ≤ 1000) : Tot (tb_Valid t) (fun e => (e = 0 ∨ e = 1) ∧ (e = 0 → (inR t.Work.e0 ∧ inR t.Work.e1 ∧ inR t.Work.e2 ∧ inR t.Work.e3 ∧ inR t.Work.e4 ∧ inR t.Work.e5) ∧ ∀ x ∈ t.Lengths, 0 ≤ x.Length ∧ x.Length ≤ 10000000)) := by
  unfold tb_Valid
  simp only [tb_far_eq, bindO_s]
  refine Tot.bind (E := fun b => b = true ∨ (inR t.Work.e0 ∧ inR t.Work.e1 ∧ inR t.Work.e2 ∧ inR t.Work.e3 ∧ inR t.Work.e4 ∧ inR t.Work.e5)) (Tot.bind (E := fun i : Int => i ≥ 0 ∨ (inR t.Work.e0 ∧ inR t.Work.e1 ∧ inR t.Work.e2 ∧ inR t.Work.e3 ∧ inR t.Work.e4 ∧ inR t.Work.e5)) (Tot.bindX (E := fun _ => inR t.Work.e0 ∧ inR t.Work.e1 ∧ inR t.Work.e2 ∧ inR t.Work.e3 ∧ inR t.Work.e4 ∧ inR t.Work.e5) ?_ (fun _ h => .ok (.inr h))) (fun i hi => .ok (hi.elim (fun h => .inl (by simpa using h)) .inr))) (fun b hb => Tot.ite (fun _ => .ok ⟨.inr rfl, by simp⟩) (fun h => ?_))
  · by_cases h0 : inR t.Work.e0
    · by_cases h1 : inR t.Work.e1
      · by_cases h2 : inR t.Work.e2
        · by_cases h3 : inR t.Work.e3
          · by_cases h4 : inR t.Work.e4
            · by_cases h5 : inR t.Work.e5
              · simp only [h0, h1, h2, h3, h4, h5, decide_true, Bool.not_true, Bool.false_eq_true, if_false]; exact .go ⟨trivial, trivial, trivial, trivial, trivial, trivial⟩
              · simp [h0, h1, h2, h3, h4, h5]; exact .ret (by simp)
            · simp [h0, h1, h2, h3, h4]; exact .ret (by simp)
          · simp [h0, h1, h2, h3]; exact .ret (by simp)
        · simp [h0, h1, h2]; exact .ret (by simp)
      · simp [h0, h1]; exact .ret (by simp)
    · simp [h0]; exact .ret (by simp)
  · have hw := hb.resolve_left (by simp [h])
    refine Tot.bindX (E := fun _ => ∀ x ∈ t.Lengths, 0 ≤ x.Length ∧ x.Length ≤ 10000000) (TotX.guard (okIdx_of (by omega)) (TotX.of (Tot.range (fun i _ => ∀ x ∈ t.Lengths.take i, 0 ≤ x.Length ∧ x.Length ≤ 10000000) _ (by simp) (fun i x v hx hr => ?_) (fun v hr => .ok (by simpa using hr))))) (fun _ h => .ok ⟨.inl rfl, fun _ => ⟨hw, h⟩⟩)
    refine TotX.bind (E := fun b => b = true ∨ (0 ≤ x.Length ∧ x.Length ≤ 10000000)) ?_ (fun b hb => TotX.ite (fun _ => .ret ⟨.inr rfl, by simp⟩) (fun h => .go ?_))
    · unfold tb_entry
      rw [bindO_s]
      refine Tot.ite (fun he => ?_) (fun _ => .ok (.inl rfl))
      have he' : 0 ≤ x.Length ∧ x.Length ≤ 10000000 := by simp at he; omega
      refine Tot.ite (fun hi => ?_) (fun _ => .ok (.inr he'))
      have hlt := getElem_lt hx
      simp at hi
      rw [wrap_i64 (by omega) (by omega)]
      obtain ⟨y, hy, _⟩ := gt_ok' (l := t.Lengths) (i := (i : Int) - 1) (by omega) (by omega)
      rw [hy, bindO_s]
      exact .ok (.inr he')
    · intro y hy
      rw [List.take_add_one, hx, List.mem_append] at hy
      rcases hy with hy | hy
      · exact hr y hy
      · simp at hy; subst hy
        exact hb.resolve_left (by simp [h])
theorem mid_eq {lo hi : Int} (h0 : 0 ≤ lo) (h1 : lo ≤ 4000000000000000000) (h2 : 0 ≤ hi) (h3 : hi ≤ 4000000000000000000) : IntKind.i64.wrap (shrI .u64 (IntKind.u64.wrap (IntKind.i64.wrap (lo + hi))) 1) = (lo + hi) / 2 := by
  rw [wrap_i64 (n := lo + hi) (by omega) (by omega)]
  have : IntKind.u64.wrap (lo + hi) = lo + hi := by unfold IntKind.wrap; simp [IntKind.signed, IntKind.bits]; omega
  rw [this]
  have : shrI .u64 (lo + hi) 1 = (lo + hi) / 2 := by
    unfold shrI
    simp [IntKind.bits]
    rw [Int.fdiv_eq_ediv_of_nonneg _ (by decide)]
  rw [this, wrap_i64 (by omega) (by omega)]
theorem compare_eq (a b : Int) : cmp_Compare_int64 a b = some (if a < b then -1 else if a > b then 1 else 0) := by
  unfold cmp_Compare_int64 cmp_isNaN_int64
  simp only [bne_self_eq_false, bindO_s, Bool.false_eq_true, if_false]
  by_cases h : a < b
  · simp [h]
  · by_cases h2 : a > b <;> simp [h, h2]
theorem tb_find_tot (t : TableTable) (n : Int) (hl : t.Lengths.length ≤ 1000) : Tot (tb_find t n) (fun r => 0 ≤ r.1 ∧ (r.2 = true → r.1 < (t.Lengths.length : Int))) := by
  unfold tb_find
  refine Tot.bind (E := fun r => 0 ≤ r.1 ∧ (r.2 = true → r.1 < (t.Lengths.length : Int))) (Tot.bind (E := fun v : Int => 0 ≤ v) ?_ (fun v hv => ?_)) (fun r hr => .ok hr)
  · refine Tot.loop (fun m v => 0 ≤ v.1 ∧ v.1 ≤ v.2 ∧ v.2 ≤ (t.Lengths.length : Int) ∧ m = (v.2 - v.1).toNat) _ t.Lengths.length (fuel_gt (by omega)) ⟨by simp, by simp, by simp, by simp⟩ (fun m v hr => ?_)
    obtain ⟨a, b, c, d⟩ := hr
    refine TotX.ite (fun h => ?_) (fun _ => .ret a)
    simp at h
    rw [mid_eq a (by omega) (by omega) (by omega)]
    obtain ⟨y, hy, _⟩ := gt_ok' (l := t.Lengths) (i := (v.1 + v.2) / 2) (by omega) (by omega)
    rw [hy, bindO_s]
    unfold tb_find_c1
    rw [compare_eq, bindO_s, bindO_s]
    refine TotX.ite (fun _ => .go ?_) (fun _ => .go ?_)
    · rw [wrap_i64 (by omega) (by omega)]
      exact ⟨_, by omega, by simp; omega, by simp; omega, c, rfl⟩
    · exact ⟨_, by omega, a, by simp; omega, by simp; omega, rfl⟩
  · refine Tot.bind (E := fun b => b = true → v < (t.Lengths.length : Int)) (Tot.ite (fun h => ?_) (fun _ => .ok (by simp))) (fun b hb => .ok ⟨hv, hb⟩)
    simp at h
    obtain ⟨y, hy, _⟩ := gt_ok' (l := t.Lengths) (i := v) hv h
    rw [hy, bindO_s]
    unfold tb_find_c1
    rw [compare_eq, bindO_s, bindO_s]
    exact .ok fun _ => h
theorem tb_length_tot (t : TableTable) (n : Int) (hl : t.Lengths.length ≤ 1000) (hv : ∀ x ∈ t.Lengths, 0 ≤ x.Length ∧ x.Length ≤ 10000000) : Tot (tb_length t n) (fun r => 0 ≤ r.1 ∧ r.1 ≤ 10000000) := by
  unfold tb_length
  refine Tot.ite (fun _ => .ok (by decide)) (fun _ => Tot.bind (tb_find_tot ⟨t.Work, t.Lengths⟩ n hl) fun r hr => Tot.ite (fun _ => .ok (by decide)) (fun h => ?_))
  simp at h
  obtain ⟨y, hy, hq⟩ := gt_ok' (l := t.Lengths) (i := r.1) hr.1 (hr.2 h)
  rw [hy, bindO_s]
  exact .ok (hv y (List.mem_of_getElem? hq))
theorem tb_slot_tot (c : Int) : Tot (tb_slot c) (fun r => r.2 = 0 → 0 ≤ r.1 ∧ r.1 < 6) := by
  unfold tb_slot
  refine Tot.ite (fun _ => .ok (by simp)) (fun h => .ok fun _ => ?_)
  simp at h
  have : Int.tdiv c 1000 = c / 1000 := Int.tdiv_eq_ediv_of_nonneg (by omega)
  simp only [this]
  rw [wrap_i64 (n := c / 1000) (by omega) (by omega), wrap_i64 (by omega) (by omega)]
  omega
theorem tb_offset_tot (t : TableTable) (c n : Int) (hl : t.Lengths.length ≤ 1000) : Tot (tb_offset t c n) (fun r => r.2 = 0 → (-10000000 ≤ r.1.X ∧ r.1.X ≤ 10000000) ∧ (-10000000 ≤ r.1.Y ∧ r.1.Y ≤ 10000000) ∧ (-10000000 ≤ r.1.Z ∧ r.1.Z ≤ 20000000)) := by
  unfold tb_offset
  refine Tot.bind (tb_Valid_tot t hl) fun e he => Tot.ite (fun h => .ok fun h2 => ?_) (fun h => ?_)
  · simp at h h2; exact absurd h2 h
  · simp at h
    obtain ⟨hw, hle⟩ := he.2 h
    refine Tot.bind (tb_slot_tot c) fun r hr => Tot.bind (tb_length_tot ⟨t.Work, t.Lengths⟩ n hl hle) fun q hq => Tot.ite (fun _ => .ok (by simp)) (fun h2 => ?_)
    simp at h2
    have h3 := hr h2.1
    refine Tot.bind (E := fun p => inR p) (Tot.guard (by simp; omega) ?_) (fun p hp => .ok fun _ => ?_)
    · repeat' (first | exact .ok hw.1 | exact .ok hw.2.1 | exact .ok hw.2.2.1 | exact .ok hw.2.2.2.1 | exact .ok hw.2.2.2.2.1 | exact .ok hw.2.2.2.2.2 | refine Tot.ite (fun _ => ?_) (fun _ => ?_))
    · unfold inR at hp
      simp only
      rw [wrap_i64 (by omega) (by omega)]
      omega
theorem tb_moved_tot (p by_ : ApiPos) (s : Int) : Tot (tb_moved p by_ s) (fun r => r.2 = 0 → inR r.1) := by
  unfold tb_moved
  simp only [tb_far_eq, bindO_s]
  refine Tot.ite (fun _ => .ok (by simp)) (fun _ => Tot.ite (fun _ => .ok (by simp)) (fun h => .ok fun _ => ?_))
  simpa using h
theorem tb_Machine_tot (t : TableTable) (c n : Int) (p : ApiPos) (hl : t.Lengths.length ≤ 1000) : Tot (tb_Machine t c n p) (fun r => r.2 = 0 → inR r.1) := by
  unfold tb_Machine
  refine Tot.bind (tb_offset_tot t c n hl) fun e _ => Tot.ite (fun h => .ok fun h2 => ?_) (fun _ => Tot.bind (tb_moved_tot _ _ _) fun r hr => .ok hr)
  simp at h h2; exact absurd h2 h
theorem tb_Work_tot (t : TableTable) (c n : Int) (p : ApiPos) (hl : t.Lengths.length ≤ 1000) : Tot (tb_Work t c n p) (fun r => r.2 = 0 → inR r.1) := by
  unfold tb_Work
  refine Tot.bind (tb_offset_tot ⟨t.Work, t.Lengths⟩ c n hl) fun e _ => Tot.ite (fun h => .ok fun h2 => ?_) (fun _ => Tot.bind (tb_moved_tot _ _ _) fun r hr => .ok hr)
  simp at h h2; exact absurd h2 h
def theirsW (t : R45Table) : TableTable := ⟨t.Work, t.Lengths.map fun l => ⟨l.Number, l.Length⟩⟩
theorem map_fold {α β : Type} (g : α → β) (l : List α) : ∀ o : List β, l.foldl (fun o x => o ++ [g x]) o = o ++ l.map g := by
  induction l with
  | nil => intro o; simp
  | cons x l ih => intro o; rw [List.foldl_cons, ih]; simp
theorem l45_theirs_eq (t : R45Table) (hl : t.Lengths.length ≤ 1000) : l45_theirs t = some (theirsW t) := by
  unfold l45_theirs
  rw [okIdx_of (by omega), guardO_t, range_fold (g := fun (o : List TableLength) (x : R45Length) => o ++ [TableLength.mk x.Number x.Length]) (R := fun i v => v.length ≤ i) (L := t.Lengths) ?_ t.Lengths 0 [] rfl (by simp)]
  · rw [bindO_s, map_fold]; rfl
  · intro i x v hx hr
    have hlt := getElem_lt hx
    rw [okLen_of (by omega), guardO_t]
    exact ⟨rfl, by simp; omega⟩
/-- Both tests of a table come to the same. -/
theorem r45_out_eq (p : ApiPos) : r45_out p = some (!decide (inR p)) := by
  unfold r45_out r45_far
  simp only [bindO_s]
  by_cases h1 : (decide (p.X > 10000000) || decide (p.X < -10000000)) = true
  · have : ¬ inR p := by unfold inR; simp at h1; omega
    simp [h1, this]
  by_cases h2 : (decide (p.Y > 10000000) || decide (p.Y < -10000000)) = true
  · have : ¬ inR p := by unfold inR; simp at h2; omega
    simp [h1, h2, this]
  by_cases h3 : (decide (p.Z > 10000000) || decide (p.Z < -10000000)) = true
  · have : ¬ inR p := by unfold inR; simp at h3; omega
    simp [h1, h2, h3, this]
  · have : inR p := by unfold inR; simp at h1 h2 h3; omega
    simp [h1, h2, h3, this]
theorem valid_same (t : R45Table) (hl : t.Lengths.length ≤ 1000) : tb_Valid (theirsW t) = r45_Valid t := by
  unfold tb_Valid r45_Valid theirsW
  simp only [tb_far_eq, r45_out_eq, bindO_s]
  by_cases h0 : inR t.Work.e0
  · by_cases h1 : inR t.Work.e1
    · by_cases h2 : inR t.Work.e2
      · by_cases h3 : inR t.Work.e3
        · by_cases h4 : inR t.Work.e4
          · by_cases h5 : inR t.Work.e5
            · simp only [h0, h1, h2, h3, h4, h5, decide_true, Bool.not_true, Bool.false_eq_true, if_false, bindX_g, bindO_s]
              rw [okIdx_of (l := t.Lengths) (by omega), okIdx_of (by simp; omega), guardO_t, guardO_t]
              simp only [show decide ((-1 : Int) ≥ 0) = false by decide, Bool.false_eq_true, if_false]
              congr 1
              have key : ∀ (f : Nat → TableLength → Unit → Option (Ex (Ex Int Unit) Unit)) (g : Nat → R45Length → Unit → Option (Ex (Ex Int Unit) Unit)), (∀ i x, t.Lengths[i]? = some x → f i ⟨x.Number, x.Length⟩ () = g i x ()) → (∀ i x, t.Lengths[i]? = some x → ∃ e, g i x () = some e) →
                  ∀ (l : List R45Length) (i : Nat), t.Lengths.drop i = l → rangeX f (fun _ => some (.go ())) (l.map fun l => ⟨l.Number, l.Length⟩) i () = rangeX g (fun _ => some (.go ())) l i () := by
                intro f g hfg hg l
                induction l with
                | nil => intro i _; rfl
                | cons x l ih =>
                  intro i hd
                  have hx : t.Lengths[i]? = some x := by
                    have : (t.Lengths.drop i)[0]? = some x := by rw [hd]; rfl
                    simpa using this
                  have hrest : t.Lengths.drop (i + 1) = l := by rw [← List.drop_drop, hd]; rfl
                  simp only [List.map_cons, rangeX, hfg i x hx]
                  obtain ⟨e, he⟩ := hg i x hx
                  rw [he]
                  cases e with
                  | ret e => rfl
                  | go v => exact ih (i + 1) hrest
              refine key _ _ ?_ ?_ t.Lengths 0 rfl
              · intro i x hx
                have hlt := getElem_lt hx
                change bindO (bindO (tb_entry ⟨x.Number, x.Length⟩) _) _ = _
                unfold tb_entry r45_entry
                simp only [bindO_s]
                by_cases hi : i = 0
                · subst hi; simp
                · rw [wrap_i64 (by omega) (by omega), show ((i : Int) - 1) = ((i - 1 : Nat) : Int) by omega]
                  obtain ⟨y, hy⟩ : ∃ y, t.Lengths[i - 1]? = some y := ⟨_, List.getElem?_eq_getElem (by omega)⟩
                  rw [gt_k hy, gt_k (x := ⟨y.Number, y.Length⟩) (by rw [List.getElem?_map, hy]; rfl)]
                  simp only [bindO_s, ge_iff_le]
              · intro i x hx
                have hlt := getElem_lt hx
                unfold r45_entry
                simp only [bindO_s]
                by_cases hi : i = 0
                · subst hi
                  refine Exists.imp (fun _ h => h) ?_
                  have := Tot.bind (m := if (decide (x.Number ≥ 1) && (decide (x.Number ≤ 999) && (decide (x.Length ≥ 0) && decide (x.Length ≤ 10000000)))) = true then (if decide (((0 : Nat) : Int) > 0) = true then bindO (gt t.Lengths (IntKind.i64.wrap (((0 : Nat) : Int) - 1))) fun (e197 : R45Length) => some (decide (x.Number ≤ e197.Number)) else some false) else some true) (E := fun _ => True) (F := fun _ => True) (f := fun v198 : Bool => if v198 = true then (some (.ret (.ret 1)) : Option (Ex (Ex Int Unit) Unit)) else some (.go ())) (Tot.ite (fun _ => .ok trivial) (fun _ => .ok trivial)) (fun b _ => Tot.ite (fun _ => .ok trivial) (fun _ => .ok trivial))
                  obtain ⟨e, he, _⟩ := this
                  exact ⟨e, he⟩
                · rw [wrap_i64 (by omega) (by omega), show ((i : Int) - 1) = ((i - 1 : Nat) : Int) by omega]
                  obtain ⟨y, hy⟩ : ∃ y, t.Lengths[i - 1]? = some y := ⟨_, List.getElem?_eq_getElem (by omega)⟩
                  rw [gt_k hy]
                  simp only [bindO_s]
                  have := Tot.bind (m := if (decide (x.Number ≥ 1) && (decide (x.Number ≤ 999) && (decide (x.Length ≥ 0) && decide (x.Length ≤ 10000000)))) = true then (if decide ((i : Int) > 0) = true then some (decide (x.Number ≤ y.Number)) else some false) else some true) (E := fun _ => True) (F := fun _ => True) (f := fun v198 : Bool => if v198 = true then (some (.ret (.ret 1)) : Option (Ex (Ex Int Unit) Unit)) else some (.go ())) (Tot.ite (fun _ => Tot.ite (fun _ => .ok trivial) (fun _ => .ok trivial)) (fun _ => .ok trivial)) (fun b _ => Tot.ite (fun _ => .ok trivial) (fun _ => .ok trivial))
                  obtain ⟨e, he, _⟩ := this
                  exact ⟨e, he⟩
            · simp [h0, h1, h2, h3, h4, h5]
          · simp [h0, h1, h2, h3, h4]
        · simp [h0, h1, h2, h3]
      · simp [h0, h1, h2]
    · simp [h0, h1]
  · simp [h0]
theorem r45_Valid_tot (t : R45Table) (hl : t.Lengths.length ≤ 1000) : Tot (r45_Valid t) (fun e => e = 0 ∨ e = 1) := by
  rw [← valid_same t hl]
  exact (tb_Valid_tot (theirsW t) (by simp [theirsW]; omega)).mono fun e h => h.1
/-- The numbers ascend up to an index. -/
def asc (L : List TableLength) (i : Nat) : Prop := ∀ a b x y, a < b → b < i → L[a]? = some x → L[b]? = some y → x.Number < y.Number
theorem tb_Valid_asc (t : TableTable) (hl : t.Lengths.length ≤ 1000) (h : tb_Valid t = some 0) : asc t.Lengths t.Lengths.length := by
  have key : Tot (tb_Valid t) (fun e => e = 0 → asc t.Lengths t.Lengths.length) := by
    unfold tb_Valid
    simp only [tb_far_eq, bindO_s]
    refine Tot.bind (E := fun _ => True) (Tot.bind (E := fun _ => True) (Tot.bindX (E := fun _ => True) ?_ (fun _ _ => .ok trivial)) (fun i _ => .ok trivial)) (fun b _ => Tot.ite (fun _ => .ok (by simp)) (fun _ => ?_))
    · repeat' (first | exact TotX.ret trivial | exact TotX.go trivial | refine TotX.ite (fun _ => ?_) (fun _ => ?_))
    · refine Tot.bindX (E := fun _ => asc t.Lengths t.Lengths.length) (TotX.guard (okIdx_of (by omega)) (TotX.of (Tot.range (fun i _ => asc t.Lengths i) _ (fun a b x y h1 h2 => by omega) (fun i x v hx hr => ?_) (fun v hr => .ok hr)))) (fun _ h => .ok fun _ => h)
      have hlt := getElem_lt hx
      refine TotX.bind (E := fun b => b = true ∨ ∀ y, i > 0 → t.Lengths[i - 1]? = some y → y.Number < x.Number) ?_ (fun b hb => TotX.ite (fun _ => .ret (by simp)) (fun hf => .go ?_))
      · unfold tb_entry
        rw [bindO_s]
        refine Tot.ite (fun _ => ?_) (fun _ => .ok (.inl rfl))
        refine Tot.ite (fun hi => ?_) (fun hi => .ok (.inr fun y h0 => by simp at hi; omega))
        simp at hi
        rw [wrap_i64 (by omega) (by omega), show ((i : Int) - 1) = ((i - 1 : Nat) : Int) by omega]
        obtain ⟨y, hy⟩ : ∃ y, t.Lengths[i - 1]? = some y := ⟨_, List.getElem?_eq_getElem (by omega)⟩
        rw [gt_k hy, bindO_s]
        by_cases hq : y.Number ≥ x.Number
        · exact .ok (.inl (by simpa using hq))
        · refine .ok (.inr fun z _ hz => ?_)
          rw [hy] at hz; injection hz with hz; subst hz; omega
      · have hb' := hb.resolve_left (by simp [hf])
        intro a b y z h1 h2 hy hz
        rcases Nat.lt_or_ge b i with q | q
        · exact hr a b y z h1 q hy hz
        · obtain rfl : b = i := by omega
          rw [hx] at hz; injection hz with hz; subst hz
          obtain ⟨u, hu⟩ : ∃ u, t.Lengths[b - 1]? = some u := ⟨_, List.getElem?_eq_getElem (by omega)⟩
          have h3 := hb' u (by omega) hu
          rcases Nat.lt_or_ge a (b - 1) with q2 | q2
          · have := hr a (b - 1) y u q2 (by omega) hy hu
            omega
          · obtain rfl : a = b - 1 := by omega
            rw [hy] at hu; injection hu with hu; subst hu; exact h3
  obtain ⟨e, h1, h2⟩ := key
  rw [h] at h1; injection h1 with h1
  exact h2 h1.symm
/-- Where a number belongs. -/
def placed (L : List TableLength) (n : Int) (r : Int × Bool) : Prop := 0 ≤ r.1 ∧ r.1 ≤ (L.length : Int) ∧ (∀ (k : Nat) x, L[k]? = some x → ((k : Int) < r.1 → x.Number < n) ∧ (r.1 ≤ (k : Int) → n ≤ x.Number)) ∧ (r.2 = true ↔ ∃ x, L[r.1.toNat]? = some x ∧ x.Number = n)
theorem tb_find_at (t : TableTable) (n : Int) (hl : t.Lengths.length ≤ 1000) (hs : asc t.Lengths t.Lengths.length) : Tot (tb_find t n) (placed t.Lengths n) := by
  unfold tb_find
  refine Tot.bind (E := placed t.Lengths n) (Tot.bind (E := fun v : Int => 0 ≤ v ∧ v ≤ (t.Lengths.length : Int) ∧ ∀ (k : Nat) x, t.Lengths[k]? = some x → ((k : Int) < v → x.Number < n) ∧ (v ≤ (k : Int) → n ≤ x.Number)) ?_ (fun v hv => ?_)) (fun r hr => .ok hr)
  · refine Tot.loop (fun m v => 0 ≤ v.1 ∧ v.1 ≤ v.2 ∧ v.2 ≤ (t.Lengths.length : Int) ∧ m = (v.2 - v.1).toNat ∧ ∀ (k : Nat) x, t.Lengths[k]? = some x → ((k : Int) < v.1 → x.Number < n) ∧ (v.2 ≤ (k : Int) → n ≤ x.Number)) _ t.Lengths.length (fuel_gt (by omega)) ⟨by simp, by simp, by simp, by simp, fun k x hx => ⟨fun q => by simp at q, fun q => by have := getElem_lt hx; simp at q; omega⟩⟩ (fun m v hr => ?_)
    obtain ⟨a, b, c, d, hk⟩ := hr
    refine TotX.ite (fun h => ?_) (fun h => .ret ?_)
    · simp at h
      rw [mid_eq a (by omega) (by omega) (by omega)]
      obtain ⟨y, hy, hy2⟩ := gt_ok' (l := t.Lengths) (i := (v.1 + v.2) / 2) (by omega) (by omega)
      rw [hy, bindO_s]
      unfold tb_find_c1
      rw [compare_eq, bindO_s, bindO_s]
      have hm : ((((v.1 + v.2) / 2).toNat : Nat) : Int) = (v.1 + v.2) / 2 := by omega
      refine TotX.ite (fun hc => .go ?_) (fun hc => .go ?_)
      · have hlt : y.Number < n := by
          by_cases q : y.Number < n
          · exact q
          · rw [if_neg q] at hc; split at hc <;> simp at hc
        rw [wrap_i64 (by omega) (by omega)]
        refine ⟨_, by omega, by simp; omega, by simp; omega, c, rfl, fun k x hx => ⟨fun q => ?_, fun q => (hk k x hx).2 q⟩⟩
        simp only at q
        rcases Nat.lt_or_ge k ((v.1 + v.2) / 2).toNat with z | z
        · have := hs k _ x y z (getElem_lt hy2) hx hy2; omega
        · obtain rfl : k = ((v.1 + v.2) / 2).toNat := by omega
          rw [hy2] at hx; injection hx with hx; subst hx; exact hlt
      · have hge : n ≤ y.Number := by
          by_cases q : y.Number < n
          · rw [if_pos q] at hc; simp at hc
          · omega
        refine ⟨_, by omega, a, by simp; omega, by simp; omega, rfl, fun k x hx => ⟨fun q => (hk k x hx).1 q, fun q => ?_⟩⟩
        simp only at q
        rcases Nat.lt_or_ge ((v.1 + v.2) / 2).toNat k with z | z
        · have := hs _ k y x z (getElem_lt hx) hy2 hx; omega
        · obtain rfl : k = ((v.1 + v.2) / 2).toNat := by omega
          rw [hy2] at hx; injection hx with hx; subst hx; exact hge
    · simp at h
      have : v.1 = v.2 := by omega
      exact ⟨a, by omega, fun k x hx => ⟨(hk k x hx).1, fun q => (hk k x hx).2 (by omega)⟩⟩
  · obtain ⟨v0, v1, vk⟩ := hv
    refine Tot.bind (E := fun b => b = true ↔ ∃ x, t.Lengths[v.toNat]? = some x ∧ x.Number = n) (Tot.ite (fun h => ?_) (fun h => .ok ?_)) (fun b hb => .ok ⟨v0, v1, vk, hb⟩)
    · simp at h
      obtain ⟨y, hy, hy2⟩ := gt_ok' (l := t.Lengths) (i := v) v0 h
      rw [hy, bindO_s]
      unfold tb_find_c1
      rw [compare_eq, bindO_s, bindO_s]
      have hge := (vk _ y hy2).2 (by omega)
      refine .ok ?_
      rw [hy2]
      rw [if_neg (by omega)]
      by_cases q : y.Number > n
      · rw [if_pos q]
        simp; omega
      · rw [if_neg q]
        simp; omega
    · simp at h
      have : t.Lengths[v.toNat]? = none := by rw [List.getElem?_eq_none]; omega
      rw [this]; simp
/-- The length of a number. -/
def lenW (L : List TableLength) (n : Int) : Int × Int := if n = 0 then (0, 0) else match L.find? (fun x => x.Number == n) with | some x => (x.Length, 0) | none => (0, 4)
theorem tb_length_eq (t : TableTable) (n : Int) (hl : t.Lengths.length ≤ 1000) (hs : asc t.Lengths t.Lengths.length) : tb_length t n = some (lenW t.Lengths n) := by
  unfold tb_length lenW
  by_cases h0 : n = 0
  · simp [h0]
  · have : (n == 0) = false := by simpa using h0
    simp only [this, Bool.false_eq_true, if_false, h0]
    obtain ⟨r, hr, p0, p1, p2, p3⟩ := tb_find_at ⟨t.Work, t.Lengths⟩ n hl hs
    rw [hr, bindO_s]
    cases hb : r.2 with
    | true =>
      obtain ⟨x, hx, hxn⟩ := p3.1 hb
      simp only at hx
      have hg : gt t.Lengths r.1 = some x := by unfold gt; rw [if_neg (by omega)]; exact hx
      have hf : t.Lengths.find? (fun x => x.Number == n) = some x := by
        rw [List.find?_eq_some_iff_getElem]
        refine ⟨by simpa using hxn, r.1.toNat, getElem_lt hx, ?_, ?_⟩
        · have := List.getElem?_eq_getElem (getElem_lt hx)
          rw [this] at hx; injection hx
        · intro j hj
          have hlt := getElem_lt hx
          have := (p2 j t.Lengths[j] (List.getElem?_eq_getElem (by omega))).1 (by omega)
          simp; omega
      simp only [Bool.not_true, Bool.false_eq_true, if_false, hg, bindO_s, hf]
    | false =>
      have hf : t.Lengths.find? (fun x => x.Number == n) = none := by
        rw [List.find?_eq_none]
        intro x hx
        obtain ⟨k, hk⟩ := List.mem_iff_getElem?.1 hx
        simp only [beq_iff_eq]
        intro e
        have hq := p2 k x hk
        rcases Int.lt_or_le (k : Int) r.1 with z | z
        · have := hq.1 z; omega
        · rcases Nat.lt_or_ge r.1.toNat k with z2 | z2
          · obtain ⟨y, hy⟩ : ∃ y, t.Lengths[r.1.toNat]? = some y := ⟨_, List.getElem?_eq_getElem (by have := getElem_lt hk; omega)⟩
            have h1 := (p2 _ y hy).2 (by omega)
            have h2 := hs _ k y x z2 (getElem_lt hk) hy hk
            omega
          · obtain rfl : k = r.1.toNat := by omega
            have := p3.2 ⟨x, hk, e⟩
            rw [hb] at this; cases this
      simp only [Bool.not_false, if_true, hf]
theorem shift_same (t : R45Table) (c n : Int) (hl : t.Lengths.length ≤ 1000) : tb_offset (theirsW t) c n = r45_shift t c n := by
  unfold tb_offset r45_shift
  rw [valid_same t hl]
  obtain ⟨e, he, he2⟩ := r45_Valid_tot t hl
  rw [he, bindO_s, bindO_s]
  rcases he2 with rfl | rfl
  · have hv : tb_Valid (theirsW t) = some 0 := by rw [valid_same t hl]; exact he
    have hs := tb_Valid_asc (theirsW t) (by simp [theirsW]; omega) hv
    simp only [bne_self_eq_false, Bool.false_eq_true, if_false]
    rw [show tb_length (TableTable.mk (theirsW t).Work (theirsW t).Lengths) n = some (lenW (theirsW t).Lengths n) from tb_length_eq (theirsW t) n (by simp [theirsW]; omega) hs]
    unfold tb_slot r45_index
    have hcond : ((Int.tmod c 1000 != 0) || (decide (c < 54000) || decide (c > 59000))) = (decide (c < 54000) || (decide (c > 59000) || (Int.tmod c 1000 != 0))) := by
      cases (Int.tmod c 1000 != 0) <;> cases decide (c < 54000) <;> cases decide (c > 59000) <;> rfl
    rw [hcond]
    cases hb : (decide (c < 54000) || (decide (c > 59000) || (Int.tmod c 1000 != 0))) with
    | true => simp
    | false =>
      simp at hb
      have hd : Int.tdiv c 1000 = c / 1000 := Int.tdiv_eq_ediv_of_nonneg (by omega)
      have hw : IntKind.i64.wrap (IntKind.i64.wrap (Int.tdiv c 1000) - 54) = c / 1000 - 54 := by
        rw [hd, wrap_i64 (n := c / 1000) (by omega) (by omega), wrap_i64 (by omega) (by omega)]
      simp only [Bool.false_eq_true, if_false, hw, bindO_s, bne_self_eq_false, Bool.false_or]
      have hneg : decide (c / 1000 - 54 < 0) = false := by simp; omega
      have hin : decide (0 ≤ c / 1000 - 54 ∧ c / 1000 - 54 < 6) = true := by simp; omega
      simp only [hneg, hin, guardO_t, Bool.false_eq_true, if_false]
      have hfind : (theirsW t).Lengths.find? (fun x => x.Number == n) = (t.Lengths.find? (fun x => x.Number == n)).map (fun l => ⟨l.Number, l.Length⟩) := by
        simp only [theirsW, List.find?_map]; rfl
      obtain ⟨ev, hev, hbd⟩ := tb_Valid_tot (theirsW t) (by simp [theirsW]; omega)
      obtain rfl : ev = 0 := by rw [hv] at hev; injection hev with q; exact q.symm
      obtain ⟨⟨w0, w1, w2, w3, w4, w5⟩, _⟩ := hbd.2 rfl
      have hX : ∃ w : ApiPos, (if (c / 1000 - 54 == 0) = true then some t.Work.e0 else if (c / 1000 - 54 == 1) = true then some t.Work.e1 else if (c / 1000 - 54 == 2) = true then some t.Work.e2 else if (c / 1000 - 54 == 3) = true then some t.Work.e3 else if (c / 1000 - 54 == 4) = true then some t.Work.e4 else some t.Work.e5) = some w ∧ inR w := by
        have : c / 1000 - 54 = 0 ∨ c / 1000 - 54 = 1 ∨ c / 1000 - 54 = 2 ∨ c / 1000 - 54 = 3 ∨ c / 1000 - 54 = 4 ∨ c / 1000 - 54 = 5 := by omega
        rcases this with e | e | e | e | e | e <;> rw [e]
        · exact ⟨_, rfl, w0⟩
        · exact ⟨_, rfl, w1⟩
        · exact ⟨_, rfl, w2⟩
        · exact ⟨_, rfl, w3⟩
        · exact ⟨_, rfl, w4⟩
        · exact ⟨_, rfl, w5⟩
      obtain ⟨w, hXe, hw⟩ := hX
      rw [show (theirsW t).Work = t.Work from rfl, hXe, bindO_s, bindO_s]
      unfold lenW
      unfold inR at hw
      by_cases h0 : n = 0
      · simp only [h0, if_true, bne_self_eq_false, Bool.false_eq_true, if_false, beq_self_eq_true]
        rw [wrap_i64 (by omega) (by omega), Int.add_zero]
      · have hn : (n == 0) = false := by simpa using h0
        simp only [h0, hn, Bool.false_eq_true, if_false, hfind]
        rw [okIdx_of (by omega), guardO_t, range_find (p := fun x : R45Length => x.Number == n) (e := fun x => (ApiPos.mk w.X w.Y (IntKind.i64.wrap (w.Z + x.Length)), (0 : Int))) t.Lengths 0 (fun i x => rfl)]
        cases t.Lengths.find? (fun x => x.Number == n) with
        | none => rfl
        | some x => rfl
  · simp
theorem work_same (t : R45Table) (c n : Int) (p : ApiPos) (hl : t.Lengths.length ≤ 1000) : tb_Work (theirsW t) c n p = r45_Work t c n p := by
  unfold tb_Work r45_Work r45_move
  rw [show R45Table.mk t.Work t.Lengths = t from rfl, shift_same t c n hl]
  obtain ⟨r, hr⟩ : ∃ r, r45_shift t c n = some r := by
    rw [← shift_same t c n hl]
    obtain ⟨r, hr, _⟩ := tb_offset_tot (theirsW t) c n (by simp [theirsW]; omega)
    exact ⟨r, hr⟩
  rw [hr, bindO_s, bindO_s]
  unfold tb_moved
  cases (r.2 != 0) with
  | true => rfl
  | false =>
    simp only [Bool.false_eq_true, if_false, tb_far_eq, r45_out_eq, bindO_s]
theorem machine_same (t : R45Table) (c n : Int) (p : ApiPos) (hl : t.Lengths.length ≤ 1000) : tb_Machine (theirsW t) c n p = r45_Machine t c n p := by
  unfold tb_Machine r45_Machine r45_move
  rw [show TableTable.mk (theirsW t).Work (theirsW t).Lengths = theirsW t from rfl, show R45Table.mk t.Work t.Lengths = t from rfl, shift_same t c n hl]
  obtain ⟨r, hr⟩ : ∃ r, r45_shift t c n = some r := by
    rw [← shift_same t c n hl]
    obtain ⟨r, hr, _⟩ := tb_offset_tot (theirsW t) c n (by simp [theirsW]; omega)
    exact ⟨r, hr⟩
  rw [hr, bindO_s, bindO_s]
  unfold tb_moved
  cases (r.2 != 0) with
  | true => rfl
  | false =>
    simp only [Bool.false_eq_true, if_false, tb_far_eq, r45_out_eq, bindO_s]
theorem awake45 : l45_awake = some true := by kernel_rfl

theorem own_eq (t : TableTable) (hl : t.Lengths.length ≤ 1000) : l45_own t = some ⟨t.Work, t.Lengths.map fun l => ⟨l.Number, l.Length⟩⟩ := by
  unfold l45_own
  rw [okIdx_of (by omega), guardO_t, range_fold (g := fun (o : List R45Length) (x : TableLength) => o ++ [R45Length.mk x.Number x.Length]) (R := fun i v => v.length ≤ i) (L := t.Lengths) ?_ t.Lengths 0 [] rfl (by simp)]
  · rw [bindO_s, map_fold]; rfl
  · intro i x v hx hr
    have hlt := getElem_lt hx
    rw [okLen_of (by omega), guardO_t]
    exact ⟨rfl, by simp; omega⟩
theorem own_theirs (t : R45Table) (hl : t.Lengths.length ≤ 1000) : l45_own (theirsW t) = some t := by
  rw [own_eq _ (by simp [theirsW]; omega)]
  obtain ⟨w, l⟩ := t
  simp only [theirsW, List.map_map]
  congr 2
  exact (List.map_congr_left (g := id) fun x _ => rfl).trans (List.map_id _)
theorem same_refl (t : R45Table) (hl : t.Lengths.length ≤ 1000) : r45_Same t t = some true := by
  unfold r45_Same
  simp only [beq_self_eq_true, Bool.and_self, Bool.not_true, bne_self_eq_false, Bool.or_self, Bool.false_eq_true, if_false]
  have key : Tot (guardO (okIdx t.Lengths) (rangeX (fun (i141 : Nat) (e143 : R45Length) (v142 : Unit) =>
          bindO (gt t.Lengths (i141 : Int)) fun (e145 : R45Length) =>
          if (!((e143.Number == e145.Number) && (e143.Length == e145.Length))) = true then
            some (.ret (.ret false))
          else
            some (.go ())) (fun (v142 : Unit) => some (.go ())) t.Lengths 0 ())) (fun x : Ex Bool Unit => x = .go ()) := by
    refine Tot.guard (okIdx_of (by omega)) (Tot.range (fun _ _ => True) _ trivial (fun i x v hx hr => ?_) (fun v hr => .ok rfl))
    rw [gt_k hx, bindO_s]
    simp only [beq_self_eq_true, Bool.and_self, Bool.not_true, Bool.false_eq_true, if_false]
    exact .go trivial
  obtain ⟨e, h1, rfl⟩ := key
  rw [h1]; rfl
theorem same_true (t : R45Table) (e : Int) (hl : t.Lengths.length ≤ 1000) : l45_same (theirsW t) e t e = some true := by
  unfold l45_same
  simp only [beq_self_eq_true, if_true]
  rw [own_theirs t hl, bindO_s, same_refl t hl]; rfl
theorem setwork_same (t : R45Table) (c : Int) (p : ApiPos) (hl : t.Lengths.length ≤ 1000) : ∃ r, r45_SetWork t c p = some r ∧ tb_SetWork (theirsW t) c p = some (theirsW r.1, r.2) ∧ r.1.Lengths.length ≤ 1000 := by
  unfold tb_SetWork r45_SetWork
  rw [valid_same t hl]
  obtain ⟨e, he, he2⟩ := r45_Valid_tot t hl
  rw [he, bindO_s, bindO_s]
  rcases he2 with rfl | rfl
  · simp only [bne_self_eq_false, Bool.false_eq_true, if_false]
    unfold tb_slot r45_index
    have hcond : ((Int.tmod c 1000 != 0) || (decide (c < 54000) || decide (c > 59000))) = (decide (c < 54000) || (decide (c > 59000) || (Int.tmod c 1000 != 0))) := by
      cases (Int.tmod c 1000 != 0) <;> cases decide (c < 54000) <;> cases decide (c > 59000) <;> rfl
    rw [hcond]
    cases hb : (decide (c < 54000) || (decide (c > 59000) || (Int.tmod c 1000 != 0))) with
    | true => exact ⟨_, rfl, rfl, by simp⟩
    | false =>
      simp at hb
      have hd : Int.tdiv c 1000 = c / 1000 := Int.tdiv_eq_ediv_of_nonneg (by omega)
      have hw : IntKind.i64.wrap (IntKind.i64.wrap (Int.tdiv c 1000) - 54) = c / 1000 - 54 := by
        rw [hd, wrap_i64 (n := c / 1000) (by omega) (by omega), wrap_i64 (by omega) (by omega)]
      simp only [Bool.false_eq_true, if_false, hw, bindO_s, bne_self_eq_false]
      have hneg : decide (c / 1000 - 54 < 0) = false := by simp; omega
      have hin : decide (0 ≤ c / 1000 - 54 ∧ c / 1000 - 54 < 6) = true := by simp; omega
      have hcl : tb_clone (theirsW t) = some (theirsW t) := by
        unfold tb_clone slices_Clone_table_Length_table_Length
        rw [okLen_of (by simp [theirsW]; omega)]; rfl
      simp only [hneg, hin, hcl, guardO_t, Bool.false_eq_true, if_false, tb_far_eq, r45_out_eq, bindO_s, okLen_of (show t.Lengths.length ≤ 16777216 by omega)]
      cases (!decide (inR p)) with
      | true => exact ⟨_, rfl, rfl, by simp⟩
      | false =>
        have : c / 1000 - 54 = 0 ∨ c / 1000 - 54 = 1 ∨ c / 1000 - 54 = 2 ∨ c / 1000 - 54 = 3 ∨ c / 1000 - 54 = 4 ∨ c / 1000 - 54 = 5 := by omega
        rcases this with e | e | e | e | e | e <;> rw [e] <;> exact ⟨_, rfl, rfl, hl⟩
  · exact ⟨_, rfl, rfl, by simp⟩
theorem moved_back {p o q : ApiPos} {s : Int} (hs : s = 1 ∨ s = -1) (b1 : -30000000 ≤ o.X ∧ o.X ≤ 30000000) (b2 : -30000000 ≤ o.Y ∧ o.Y ≤ 30000000) (b3 : -30000000 ≤ o.Z ∧ o.Z ≤ 30000000) (h : tb_moved p o s = some (q, 0)) : tb_moved q o (-s) = some (p, 0) := by
  unfold tb_moved at h ⊢
  rw [tb_far_eq, bindO_s] at h
  by_cases hp : inR p
  · rw [decide_eq_true hp] at h
    simp only [Bool.not_true, Bool.false_eq_true, if_false] at h
    rw [tb_far_eq, bindO_s] at h
    have hp' := hp
    unfold inR at hp'
    obtain ⟨x, y, z⟩ := p
    obtain ⟨a, b, c⟩ := o
    simp only at hp' b1 b2 b3 h
    have w1 : ∀ u v : Int, (-10000000 ≤ u ∧ u ≤ 10000000) → (-30000000 ≤ v ∧ v ≤ 30000000) → IntKind.i64.wrap (u + IntKind.i64.wrap (s * v)) = u + s * v := fun u v hu hv => by
      rcases hs with rfl | rfl
      · rw [wrap_i64 (n := 1 * v) (by omega) (by omega), wrap_i64 (by omega) (by omega)]
      · rw [wrap_i64 (n := -1 * v) (by omega) (by omega), wrap_i64 (by omega) (by omega)]
    have w2 : ∀ u v : Int, (-10000000 ≤ u ∧ u ≤ 10000000) → (-30000000 ≤ v ∧ v ≤ 30000000) → IntKind.i64.wrap (u + s * v + IntKind.i64.wrap (-s * v)) = u := fun u v hu hv => by
      rcases hs with rfl | rfl
      · rw [wrap_i64 (n := -1 * v) (by omega) (by omega), wrap_i64 (by omega) (by omega)]; omega
      · rw [wrap_i64 (n := - -1 * v) (by omega) (by omega), wrap_i64 (by omega) (by omega)]; omega
    rw [w1 x a hp'.1 b1, w1 y b hp'.2.1 b2, w1 z c hp'.2.2 b3] at h
    by_cases hq : inR (ApiPos.mk (x + s * a) (y + s * b) (z + s * c))
    · rw [decide_eq_true hq] at h
      simp only [Bool.not_true, Bool.false_eq_true, if_false] at h
      injection h with h; injection h with h _
      subst h
      rw [tb_far_eq, bindO_s, decide_eq_true hq]
      simp only [Bool.not_true, Bool.false_eq_true, if_false]
      rw [tb_far_eq, bindO_s, w2 x a hp'.1 b1, w2 y b hp'.2.1 b2, w2 z c hp'.2.2 b3, decide_eq_true hp]
      rfl
    · rw [decide_eq_false hq] at h
      simp only [Bool.not_false, if_true] at h
      injection h with h; injection h with _ h; cases h
  · rw [decide_eq_false hp] at h
    simp only [Bool.not_false, if_true] at h
    injection h with h; injection h with _ h; cases h
theorem mach_back {t : TableTable} {c n : Int} {p q : ApiPos} (hl : t.Lengths.length ≤ 1000) (h : tb_Machine t c n p = some (q, 0)) : tb_Work t c n q = some (p, 0) := by
  unfold tb_Machine at h
  unfold tb_Work
  rw [show TableTable.mk t.Work t.Lengths = t from rfl] at h
  obtain ⟨r, hr, hb⟩ := tb_offset_tot t c n hl
  rw [hr, bindO_s] at h ⊢
  cases he : (r.2 != 0) with
  | true =>
    rw [he] at h
    simp only [if_true] at h
    injection h with h; injection h with _ h
    rw [h] at he; cases he
  | false =>
    rw [he] at h
    have h0 := hb (by simpa using he)
    simp only [Bool.false_eq_true, if_false] at h ⊢
    obtain ⟨m, hm, _⟩ := tb_moved_tot p r.1 1
    rw [hm, bindO_s] at h
    injection h with h
    rw [show m = (q, 0) from h] at hm
    rw [moved_back (.inl rfl) (by omega) (by omega) (by omega) hm]; rfl
theorem work_back {t : TableTable} {c n : Int} {p q : ApiPos} (hl : t.Lengths.length ≤ 1000) (h : tb_Work t c n p = some (q, 0)) : tb_Machine t c n q = some (p, 0) := by
  unfold tb_Work at h
  unfold tb_Machine
  rw [show TableTable.mk t.Work t.Lengths = t from rfl]
  obtain ⟨r, hr, hb⟩ := tb_offset_tot t c n hl
  rw [hr, bindO_s] at h ⊢
  cases he : (r.2 != 0) with
  | true =>
    rw [he] at h
    simp only [if_true] at h
    injection h with h; injection h with _ h
    rw [h] at he; cases he
  | false =>
    rw [he] at h
    have h0 := hb (by simpa using he)
    simp only [Bool.false_eq_true, if_false] at h ⊢
    obtain ⟨m, hm, _⟩ := tb_moved_tot p r.1 (-1)
    rw [hm, bindO_s] at h
    injection h with h
    rw [show m = (q, 0) from h] at hm
    rw [show (1 : Int) = - -1 from rfl, moved_back (.inr rfl) (by omega) (by omega) (by omega) hm]; rfl

end Go.Proofs.YtiiglghanajfcaaDoor
