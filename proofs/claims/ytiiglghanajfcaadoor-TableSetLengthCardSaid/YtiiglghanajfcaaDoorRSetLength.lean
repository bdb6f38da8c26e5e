/-
  TableSetLength: what its mirror computes is true.
-/
import Derived.Test.YtiiglghanajfcaaDoorRa
import Derived.Test.YtiiglghanajfcaaDoorMLTableSetLength
namespace Go.Proofs.YtiiglghanajfcaaDoor
open Go.RowKit

/-- A round of the other table's loop. -/
def slG (n : Int) (y : R45Length) (v : Bool × List R45Length) (x : R45Length) : Bool × List R45Length :=
  let w : Bool × List R45Length := if (!v.1 && decide (x.Number ≥ n)) = true then (true, v.2 ++ [y]) else (v.1, v.2)
  if (x.Number != n) = true then (w.1, w.2 ++ [x]) else (w.1, w.2)
def slE (y : R45Length) (v : Bool × List R45Length) : List R45Length := if (!v.1) = true then v.2 ++ [y] else v.2
theorem sl_len (n : Int) (y : R45Length) (v : Bool × List R45Length) (x : R45Length) : (slG n y v x).2.length ≤ v.2.length + 2 := by
  unfold slG
  split <;> split <;> simp
theorem sl_low (n : Int) (y : R45Length) : ∀ (A : List R45Length) (o : List R45Length), (∀ x ∈ A, x.Number < n) → A.foldl (slG n y) (false, o) = (false, o ++ A)
  | [], o, _ => by simp
  | x :: A, o, h => by
    have hx := h x (by simp)
    have : slG n y (false, o) x = (false, o ++ [x]) := by
      unfold slG
      rw [show decide (x.Number ≥ n) = false by simp; omega, show (x.Number != n) = true by simp; omega]
      rfl
    rw [List.foldl_cons, this, sl_low n y A _ (fun z hz => h z (by simp [hz]))]
    simp
theorem sl_done (n : Int) (y : R45Length) : ∀ (A : List R45Length) (o : List R45Length), (∀ x ∈ A, n < x.Number) → A.foldl (slG n y) (true, o) = (true, o ++ A)
  | [], o, _ => by simp
  | x :: A, o, h => by
    have hx := h x (by simp)
    have : slG n y (true, o) x = (true, o ++ [x]) := by
      unfold slG
      rw [show (x.Number != n) = true by simp; omega]
      rfl
    rw [List.foldl_cons, this, sl_done n y A _ (fun z hz => h z (by simp [hz]))]
    simp
theorem sl_new (n : Int) (y : R45Length) (A : List R45Length) (o : List R45Length) (h : ∀ x ∈ A, n < x.Number) : slE y (A.foldl (slG n y) (false, o)) = o ++ [y] ++ A := by
  cases A with
  | nil => simp [slE]
  | cons x A =>
    have hx := h x (by simp)
    have : slG n y (false, o) x = (true, o ++ [y] ++ [x]) := by
      unfold slG
      rw [show decide (x.Number ≥ n) = true by simp; omega, show (x.Number != n) = true by simp; omega]
      rfl
    rw [List.foldl_cons, this, sl_done n y A _ (fun z hz => h z (by simp [hz]))]
    simp [slE]
theorem sl_old (n : Int) (y x : R45Length) (A : List R45Length) (o : List R45Length) (hx : x.Number = n) (h : ∀ x ∈ A, n < x.Number) : slE y ((x :: A).foldl (slG n y) (false, o)) = o ++ [y] ++ A := by
  have : slG n y (false, o) x = (true, o ++ [y]) := by
    unfold slG
    rw [show decide (x.Number ≥ n) = true by simp; omega, show (x.Number != n) = false by simp; omega]
    rfl
  rw [List.foldl_cons, this, sl_done n y A _ h]
  simp [slE]

theorem setlength_same (t : R45Table) (n l : Int) (hl : t.Lengths.length ≤ 900) : ∃ r, r45_SetLength t n l = some r ∧ tb_SetLength (theirsW t) n l = some (theirsW r.1, r.2) ∧ r.1.Lengths.length ≤ 1000 := by
  unfold tb_SetLength r45_SetLength
  have hval := valid_same t (by omega)
  obtain ⟨e, he, he2⟩ := r45_Valid_tot t (by omega)
  rw [hval, he, bindO_s, bindO_s]
  rcases he2 with rfl | rfl
  · simp only [bne_self_eq_false, Bool.false_eq_true, if_false]
    unfold tb_entry r45_entry
    simp only [bindO_s]
    cases (decide (n ≥ 1) && (decide (n ≤ 999) && (decide (l ≥ 0) && decide (l ≤ 10000000)))) with
    | false => exact ⟨_, rfl, rfl, by simp⟩
    | true =>
      simp only [Bool.not_true, Bool.false_eq_true, if_false]
      have hasc := tb_Valid_asc (theirsW t) (by simp [theirsW]; omega) (by rw [hval, he])
      obtain ⟨⟨i, ok⟩, hf, p1, p2, p3, p4⟩ := tb_find_at (theirsW t) n (by simp [theirsW]; omega) hasc
      obtain ⟨m, rfl⟩ : ∃ m : Nat, i = (m : Int) := ⟨i.toNat, by simp only at p1; omega⟩
      simp only [Int.toNat_natCast] at p1 p2 p3 p4
      have hTL : (theirsW t).Lengths = t.Lengths.map fun x => ⟨x.Number, x.Length⟩ := rfl
      have hat : ∀ (k : Nat) x, t.Lengths[k]? = some x → (theirsW t).Lengths[k]? = some ⟨x.Number, x.Length⟩ := fun k x hx => by rw [hTL, List.getElem?_map, hx]; rfl
      have hml : m ≤ t.Lengths.length := by
        have : ((theirsW t).Lengths.length : Int) = t.Lengths.length := by rw [hTL]; simp
        omega
      have hlow : ∀ x ∈ t.Lengths.take m, x.Number < n := by
        intro x hx
        obtain ⟨k, hk⟩ := List.mem_iff_getElem?.1 hx
        have hkm : k < m := by have := getElem_lt hk; simp at this; omega
        rw [List.getElem?_take, if_pos hkm] at hk
        exact (p3 k _ (hat k x hk)).1 (by omega)
      have hfold : ∀ r, t.Lengths.foldl (slG n ⟨n, l⟩) (false, []) = r → bindO (guardO (okIdx t.Lengths) (
          rangeX (fun (i185 : Nat) (e187 : R45Length) (v186 : Bool × (List R45Length)) =>
          bindO (bindO (if (!v186.1 && (decide (e187.Number ≥ n))) = true then
                    guardO (okLen (v186.2.length + 1)) (
                    some (true, v186.2 ++ [R45Length.mk n l]))
                  else
                    some (v186.1, v186.2)) fun (v190 : Bool × (List R45Length)) =>
              if (e187.Number != n) = true then
                guardO (okLen (v190.2.length + 1)) (
                some (v190.1, v190.2 ++ [e187]))
              else
                some (v190.1, v190.2)) fun (v189 : Bool × (List R45Length)) =>
          some (.go (v189.1, v189.2))) (fun (v186 : Bool × (List R45Length)) => some (v186.1, v186.2)) t.Lengths 0 (false, []))) (fun (v164 : Bool × (List R45Length)) =>
          bindO (if (!v164.1) = true then
          guardO (okLen (v164.2.length + 1)) (
          some (v164.2 ++ [R45Length.mk n l]))
        else
          some v164.2) fun (v191 : (List R45Length)) =>
          some (R45Table.mk t.Work v191, (0 : Int))) = some (⟨t.Work, slE ⟨n, l⟩ r⟩, 0) := by
        intro r hr
        have hlen : r.2.length ≤ 2 * t.Lengths.length := by
          rw [← hr]
          have : ∀ (A : List R45Length) (v : Bool × List R45Length), (A.foldl (slG n ⟨n, l⟩) v).2.length ≤ v.2.length + 2 * A.length := by
            intro A
            induction A with
            | nil => intro v; simp
            | cons x A ih => intro v; rw [List.foldl_cons]; have := ih (slG n ⟨n, l⟩ v x); have := sl_len n ⟨n, l⟩ v x; simp only [List.length_cons]; omega
          simpa using this t.Lengths (false, [])
        rw [okIdx_of (by omega), guardO_t, range_fold (g := slG n ⟨n, l⟩) (R := fun i v => v.2.length ≤ 2 * i) (L := t.Lengths) ?_ t.Lengths 0 (false, []) rfl (by simp), hr, bindO_s]
        · unfold slE
          cases r.1 with
          | true => rfl
          | false => simp only [Bool.not_false, if_true]; rw [okLen_of (by omega), guardO_t, bindO_s]
        · intro i x v hx hr'
          have hlt := getElem_lt hx
          have hb := sl_len n ⟨n, l⟩ v x
          refine ⟨?_, by omega⟩
          unfold slG
          cases hc : (!v.1 && decide (x.Number ≥ n)) with
          | true =>
            simp only [if_true]
            rw [okLen_of (by omega), guardO_t, bindO_s]
            cases (x.Number != n) with
            | true => simp only [if_true]; rw [okLen_of (by simp; omega), guardO_t, bindO_s]
            | false => rfl
          | false =>
            simp only [Bool.false_eq_true, if_false]
            rw [bindO_s]
            cases (x.Number != n) with
            | true => simp only [if_true]; rw [okLen_of (by omega), guardO_t, bindO_s]
            | false => rfl
      rw [hfold _ rfl]
      have hcl : slices_Clone_table_Length_table_Length (theirsW t).Lengths = some (theirsW t).Lengths := by
        unfold slices_Clone_table_Length_table_Length
        rw [okLen_of (by simp [theirsW]; omega)]; rfl
      rw [hcl, bindO_s, bindO_s, show (TableTable.mk (theirsW t).Work (theirsW t).Lengths) = theirsW t from rfl, hf, bindO_s]
      have hsplit : t.Lengths.foldl (slG n ⟨n, l⟩) (false, []) = (t.Lengths.drop m).foldl (slG n ⟨n, l⟩) (false, t.Lengths.take m) := by
        rw [← List.take_append_drop m t.Lengths, List.foldl_append, sl_low n _ _ _ hlow, List.nil_append]
        simp
      rw [hsplit]
      cases ok with
      | true =>
        simp only [if_true]
        obtain ⟨x, hx, hxn⟩ := p4.1 rfl
        have hlt : m < t.Lengths.length := by have := getElem_lt hx; simpa [hTL] using this
        obtain ⟨z, hz⟩ : ∃ z, t.Lengths[m]? = some z := ⟨_, List.getElem?_eq_getElem hlt⟩
        have hzx : x = ⟨z.Number, z.Length⟩ := by rw [hat m z hz] at hx; injection hx with hx; exact hx.symm
        subst hzx
        rw [gt_k hx, bindO_s]
        have hdrop : t.Lengths.drop m = z :: t.Lengths.drop (m + 1) := by
          rw [List.drop_eq_getElem_cons hlt]
          rw [List.getElem?_eq_getElem hlt] at hz; injection hz with hz; rw [hz]
        have hhigh : ∀ w ∈ t.Lengths.drop (m + 1), n < w.Number := by
          intro w hw
          obtain ⟨k, hk⟩ := List.mem_iff_getElem?.1 hw
          rw [List.getElem?_drop] at hk
          have := hasc m (m + 1 + k) _ _ (by omega) (by have := getElem_lt hk; simp [hTL]; omega) (hat m z hz) (hat _ w hk)
          simp only at this hxn; omega
        rw [hdrop, sl_old n ⟨n, l⟩ z _ _ hxn hhigh]
        refine ⟨_, rfl, ?_, by simp; omega⟩
        simp only [theirsW, Int.toNat_natCast, List.map_append, List.map_cons, List.map_nil, List.map_take, List.map_drop]
        congr 3
        rw [List.set_eq_take_append_cons_drop, if_pos (by simpa using hlt)]
        simp
      | false =>
        simp only [Bool.false_eq_true, if_false]
        have hhigh : ∀ w ∈ t.Lengths.drop m, n < w.Number := by
          intro w hw
          obtain ⟨k, hk⟩ := List.mem_iff_getElem?.1 hw
          rw [List.getElem?_drop] at hk
          have h1 := (p3 (m + k) _ (hat _ w hk)).2 (by omega)
          simp only at h1
          rcases Nat.lt_or_ge 0 k with q | q
          · obtain ⟨z, hz⟩ : ∃ z, t.Lengths[m]? = some z := ⟨_, List.getElem?_eq_getElem (by have := getElem_lt hk; omega)⟩
            have h2 := (p3 m _ (hat _ z hz)).2 (by omega)
            have := hasc m (m + k) _ _ (by omega) (by have := getElem_lt hk; simp [hTL]; omega) (hat m z hz) (hat _ w hk)
            simp only at this h2; omega
          · obtain rfl : k = 0 := by omega
            have hne : ¬ w.Number = n := fun q => by
              have := p4.2 ⟨_, hat _ w hk, q⟩
              cases this
            omega
        rw [sl_new n ⟨n, l⟩ _ _ hhigh, show decide ((0 : Int) ≤ (m : Int) ∧ (m : Int) ≤ ((theirsW t).Lengths.length : Int)) = true by simp [theirsW]; omega, guardO_t, okLen_of (by simp [theirsW]; omega), guardO_t]
        refine ⟨_, rfl, ?_, by simp; omega⟩
        simp only [theirsW, Int.toNat_natCast, List.map_append, List.map_cons, List.map_nil, List.map_take, List.map_drop]
  · exact ⟨_, rfl, rfl, by simp⟩

theorem tableSetLength_plain (t : R45Table) (n l : Int) (_ : inR45Table t) (_ : (inInt .i64) n) (_ : (inInt .i64) l) : l45_TableSetLength t n l = some true := by
  unfold l45_TableSetLength
  rw [awake45, bindO_s, if_pos rfl, bindO_s]
  cases hb : decide ((t.Lengths.length : Int) > 40) with
  | true => rfl
  | false =>
    simp only [Bool.false_eq_true, if_false]
    have hl : (t.Lengths.length : Int) ≤ 40 := by simpa using hb
    obtain ⟨r, h1, h2, h3⟩ := setlength_same t n l (by omega)
    rw [l45_theirs_eq t (by omega), bindO_s, h2, bindO_s, show (R45Table.mk t.Work t.Lengths) = t from rfl, h1, bindO_s]
    simp only [same_true r.1 r.2 h3, own_theirs t (by omega), same_refl t (by omega), bindO_s, if_true, Bool.not_true, Bool.false_eq_true, if_false]
    have hlen : (theirsW r.1).Lengths.length ≤ 1000 := by simpa [theirsW] using h3
    have key : Tot (guardO (okIdx (theirsW r.1).Lengths) (
          rangeX (fun (i140 : Nat) (e142 : TableLength) (v141 : (List TableLength)) =>
            bindO (gt v141 (i140 : Int)) fun (e144 : TableLength) =>
            some (.go (v141.set (Int.toNat (i140 : Int)) (TableLength.mk e144.Number (-1))))) (fun (v141 : (List TableLength)) => some v141) (theirsW r.1).Lengths 0 (theirsW r.1).Lengths)) (fun _ => True) := by
      refine Tot.guard (okIdx_of (by omega)) (Tot.range (fun _ v => v.length = (theirsW r.1).Lengths.length) _ rfl (fun i x v hx hr => ?_) (fun v hr => .ok trivial))
      have hlt := getElem_lt hx
      obtain ⟨y, hy, _⟩ := gt_ok' (l := v) (i := (i : Int)) (by omega) (by omega)
      rw [hy, bindO_s]
      exact .go (by simpa using hr)
    obtain ⟨e, h4, _⟩ := key
    rw [h4, bindO_s]

end Go.Proofs.YtiiglghanajfcaaDoor
