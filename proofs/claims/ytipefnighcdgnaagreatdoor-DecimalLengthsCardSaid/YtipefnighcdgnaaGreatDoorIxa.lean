/-
  Ia, Ib, Ic in one text.
-/
import Derived.Test.YtipefnighcdgnaaGreatDoorLmi
namespace Go.Proofs.YtipefnighcdgnaaGreatDoor
open Go.RowKit
set_option linter.unusedVariables false
set_option linter.unusedSimpArgs false
theorem wrap_i64 {n : Int} (h : -9223372036854775808 ≤ n) (h2 : n ≤ 9223372036854775807) : IntKind.i64.wrap n = n := IntWalk.i64_in _ ⟨h, by omega⟩
theorem gt_k {α : Type} {l : List α} {k : Nat} {x : α} (h : l[k]? = some x) : gt l (k : Int) = some x := by
 unfold gt
 have hl := getElem_lt h
 rw [if_neg (by omega)]
 simpa using h
theorem cutT_k {α : Type} {l : List α} {n : Nat} (h : n ≤ l.length) : cutT l (n : Int) = some (l.take n) := by
 unfold cutT
 rw [if_neg (by omega)]
 simp
theorem take_last {l : List Int} {n : Nat} {x : Int} (h : l[n]? = some x) : l.take (n + 1) = l.take n ++ [x] := by
 rw [List.take_add_one, h]; rfl
theorem trm_take0 {l : List Int} {n : Nat} (h : l[n]? = some 0) : trm (l.take (n + 1)) = trm (l.take n) := by
 rw [take_last h, trm_snoc0]
theorem trm_takeN {l : List Int} {n : Nat} {x : Int} (h : l[n]? = some x) (h0 : x ≠ 0) : trm (l.take (n + 1)) = l.take (n + 1) := by
 refine trm_last (x := x) ?_ h0
 rw [take_last h]; simp
theorem it_trim_eq (l : List Int) (hl : l.length ≤ 1000000) : it_trim l = some (trm l) := by
 have key : Tot (it_trim l) (fun e => e = trm l) := by
  unfold it_trim
  refine Tot.bind (E := fun e => e = trm l) (Tot.loop (fun m (v : List Int) => v = l.take m ∧ m ≤ l.length ∧ trm v = trm l) _ l.length (fuel_gt (by omega)) ⟨by simp, by omega, rfl⟩ (fun m v hv => ?_)) (fun v hv => .ok hv)
  obtain ⟨rfl, h1, h2⟩ := hv
  have hlen : (l.take m).length = m := by simp; omega
  rw [hlen]
  cases m with
  | zero =>
   refine TotX.bind (E := fun b => b = false) (Tot.ite (fun q => by simp at q) (fun _ => .ok rfl)) (fun b hb => ?_)
   subst hb
   refine TotX.ite (fun q => by cases q) (fun _ => .ret ?_)
   rw [← h2]; simp [trm]
  | succ m =>
   have hx : l[m]? = some l[m] := List.getElem?_eq_getElem (by omega)
   generalize l[m] = x at hx
   have hx2 : (l.take (m + 1))[m]? = some x := by rw [List.getElem?_take, if_pos (by omega)]; exact hx
   rw [wrap_i64 (by omega) (by omega), show ((m + 1 : Nat) : Int) - 1 = (m : Int) by omega, gt_k hx2, bindO_s]
   refine TotX.bind (E := fun b => b = (x == 0)) (Tot.ite (fun _ => .ok rfl) (fun q => absurd q (by simp))) (fun b hb => ?_)
   subst hb
   refine TotX.ite (fun q => ?_) (fun q => .ret ?_)
   ·have : x = 0 := by simpa using q
    subst this
    rw [cutT_k (by rw [hlen]; omega), bindO_s]
    refine .go ⟨m, by omega, by rw [List.take_take, Nat.min_eq_left (by omega)], by omega, ?_⟩
    rw [List.take_take, Nat.min_eq_left (by omega), ← h2, trm_take0 hx]
   ·have h0 : x ≠ 0 := by simpa using q
    rw [← h2, trm_takeN hx h0]
 obtain ⟨e, he, rfl⟩ := key
 exact he
end Go.Proofs.YtipefnighcdgnaaGreatDoor
namespace Go.Proofs.YtipefnighcdgnaaGreatDoor
open Go.RowKit
set_option linter.unusedVariables false
set_option linter.unusedSimpArgs false
theorem wU32 {n : Int} (h : 0 ≤ n) (h2 : n < 4294967296) : IntKind.u32.wrap n = n := by
 unfold IntKind.wrap; simp [IntKind.signed, IntKind.bits]; omega
theorem wU64 {n : Int} (h : 0 ≤ n) (h2 : n < 18446744073709551616) : IntKind.u64.wrap n = n := by
 unfold IntKind.wrap; simp [IntKind.signed, IntKind.bits]; omega
theorem wI64 {n : Int} (h : -9223372036854775808 ≤ n) (h2 : n ≤ 9223372036854775807) : IntKind.i64.wrap n = n := wrap_i64 h h2
theorem tdv {a b : Int} (h : 0 ≤ a) : Int.tdiv a b = a / b := Int.tdiv_eq_ediv_of_nonneg h
theorem tmd {a b : Int} (h : 0 ≤ a) : Int.tmod a b = a % b := Int.tmod_eq_emod_of_nonneg h
theorem mulB {x y : Int} (hx : 0 ≤ x ∧ x < 1000000000) (hy : 0 ≤ y ∧ y < 1000000000) : 0 ≤ x * y ∧ x * y ≤ 999999998000000001 := by
 refine ⟨Int.mul_nonneg hx.1 hy.1, ?_⟩
 have := Int.mul_le_mul (show x ≤ 999999999 by omega) (show y ≤ 999999999 by omega) hy.1 (by omega)
 omega
def lb (l : List Int) (i : Nat) : Int := (l[i]?).getD 0
theorem lb_of {l : List Int} {i : Nat} {x : Int} (h : l[i]? = some x) : lb l i = x := by unfold lb; rw [h]; rfl
theorem lb_out {l : List Int} {i : Nat} (h : l.length ≤ i) : lb l i = 0 := by unfold lb; rw [List.getElem?_eq_none h]; rfl
theorem lb_ok {l : List Int} (h : okL l) (i : Nat) : 0 ≤ lb l i ∧ lb l i < 1000000000 := by
 unfold lb
 cases hx : l[i]? with
 | none => simp
 | some x => exact okL_get h hx
theorem val_take_lb (l : List Int) (i : Nat) : val (l.take (i + 1)) = val (l.take i) + lb l i * pw i := by
 cases hx : l[i]? with
 | none =>
  have hl : l.length ≤ i := by simpa using hx
  rw [lb_out hl, List.take_of_length_le (by omega), List.take_of_length_le hl]; omega
 | some x => rw [lb_of hx]; exact val_take_one hx
theorem val_take_all {l : List Int} {n : Nat} (h : l.length ≤ n) : val (l.take n) = val l := by rw [List.take_of_length_le h]
theorem val_drop_lb (l : List Int) (i : Nat) : val (l.drop i) = lb l i + 1000000000 * val (l.drop (i + 1)) := by
 cases hx : l[i]? with
 | none =>
  have hl : l.length ≤ i := by simpa using hx
  rw [lb_out hl, List.drop_of_length_le hl, List.drop_of_length_le (show l.length ≤ i + 1 by omega)]; rfl
 | some x => rw [lb_of hx]; exact val_drop_one hx
theorem val_take_set {l : List Int} {i : Nat} {x : Int} (h : i < l.length) : val ((l.set i x).take (i + 1)) = val (l.take i) + x * pw i := by
 have h1 : (l.set i x)[i]? = some x := by simp [h]
 rw [val_take_one h1, List.take_set, List.set_eq_of_length_le (by rw [List.length_take]; omega)]
theorem drop_set_gt {l : List Int} {i j : Nat} {x : Int} (h : i < j) : (l.set i x).drop j = l.drop j := List.drop_set_of_lt h
theorem val_drop_set {l : List Int} {i : Nat} {x : Int} (h : i < l.length) : val ((l.set i x).drop i) = x + 1000000000 * val (l.drop (i + 1)) := by
 have h1 : (l.set i x)[i]? = some x := by simp [h]
 rw [val_drop_one h1, drop_set_gt (by omega)]
theorem gt_l {l : List Int} {i : Nat} (h : i < l.length) : gt l (i : Int) = some (lb l i) := by
 have h1 : l[i]? = some l[i] := List.getElem?_eq_getElem h
 rw [gt_k h1, lb_of h1]
theorem lb_drop (l : List Int) (k j : Nat) : lb (l.drop k) j = lb l (k + j) := by unfold lb; rw [List.getElem?_drop]
theorem lb_of_drop {u w : List Int} {i : Nat} (h : u.drop i = w.drop i) : lb u i = lb w i := by
 have h1 := lb_drop u i 0
 rw [h, lb_drop w i 0, Nat.add_zero] at h1
 exact h1.symm
theorem drop_succ_eq {u w : List Int} {i : Nat} (h : u.drop i = w.drop i) : u.drop (i + 1) = w.drop (i + 1) := by
 rw [← List.drop_drop, h, List.drop_drop]
def sg (z : Int) : Int := if z < 0 then -1 else if 0 < z then 1 else 0
theorem sg_neg {z : Int} (h : z < 0) : sg z = -1 := by unfold sg; rw [if_pos h]
theorem sg_pos {z : Int} (h : 0 < z) : sg z = 1 := by unfold sg; rw [if_neg (by omega), if_pos h]
theorem sg_zero {z : Int} (h : z = 0) : sg z = 0 := by unfold sg; rw [if_neg (by omega), if_neg (by omega)]
theorem cmp_loop {y1 y2 : List Int} (h1 : okL y1) (h2 : okL y2) (hl : y1.length = y2.length) (hs : y1.length ≤ 1000000) : (bindX (loopX (fun (v1 : Int) =>
          if (decide (v1 ≥ 0)) = true then
            bindO (gt y1 v1) fun (e1 : Int) =>
            bindO (gt y2 v1) fun (e2 : Int) =>
            if (decide (e1 < e2)) = true then
              some (.ret (.ret (-1)))
            else
              if (decide (e1 > e2)) = true then
                some (.ret (.ret 1))
              else
                some (.go (IntKind.i64.wrap (v1 - 1)))
          else
            some (.ret (.go ()))) fuel (IntKind.i64.wrap ((y1.length : Int) - 1))) fun (v2 : Unit) =>
    some 0) = some (sg (val y1 - val y2)) := by
  have key : Tot (bindX (loopX (fun (v1 : Int) =>
          if (decide (v1 ≥ 0)) = true then
            bindO (gt y1 v1) fun (e1 : Int) =>
            bindO (gt y2 v1) fun (e2 : Int) =>
            if (decide (e1 < e2)) = true then
              some (.ret (.ret (-1)))
            else
              if (decide (e1 > e2)) = true then
                some (.ret (.ret 1))
              else
                some (.go (IntKind.i64.wrap (v1 - 1)))
          else
            some (.ret (.go ()))) fuel (IntKind.i64.wrap ((y1.length : Int) - 1))) fun (v2 : Unit) =>
    some (0 : Int)) (fun e => e = sg (val y1 - val y2)) := by
    refine Tot.bindX (E := fun _ => y1 = y2) (TotX.of (Tot.loop (fun m (v : Int) => v = (m : Int) - 1 ∧ m ≤ y1.length ∧ y1.drop m = y2.drop m) _ y1.length (fuel_gt (by omega)) ⟨by rw [wI64 (by omega) (by omega)], Nat.le_refl _, by rw [List.drop_of_length_le (Nat.le_refl _), List.drop_of_length_le (by omega)]⟩ (fun m v hv => ?_))) (fun _ h => .ok (by rw [h, sg_zero (by omega)]))
    obtain ⟨rfl, hm, hd⟩ := hv
    cases m with
    | zero => exact TotX.ite (fun q => by simp at q) (fun _ => .ret (by simpa using hd))
    | succ m =>
      have e1 : ((m + 1 : Nat) : Int) - 1 = (m : Int) := by omega
      rw [e1]
      have hx : y1[m]? = some y1[m] := List.getElem?_eq_getElem (by omega)
      have hy : y2[m]? = some y2[m] := List.getElem?_eq_getElem (by omega)
      generalize y1[m] = x at hx
      generalize y2[m] = y at hy
      refine TotX.ite (fun _ => ?_) (fun q => absurd q (by simp))
      rw [gt_k hx, bindO_s, gt_k hy, bindO_s]
      refine TotX.ite (fun q => .ret ?_) (fun q => TotX.ite (fun q2 => .ret ?_) (fun q2 => .go ⟨m, by omega, by rw [wI64 (by omega) (by omega)], by omega, ?_⟩))
      · have := val_cmp_at h1 h2 hx hy hd (by simpa using q)
        exact (sg_neg (by omega)).symm
      · have := val_cmp_at h2 h1 hy hx hd.symm (by simpa using q2)
        exact (sg_pos (by omega)).symm
      · have hxy : x = y := by simp at q q2; omega
        have l1 := getElem_lt hx; have l2 := getElem_lt hy
        rw [List.drop_eq_getElem_cons l1, List.drop_eq_getElem_cons l2, hd]
        rw [List.getElem?_eq_getElem l1] at hx; rw [List.getElem?_eq_getElem l2] at hy
        injection hx with hx; injection hy with hy
        rw [hx, hy, hxy]
  obtain ⟨e, he, rfl⟩ := key
  exact he
theorem cmp_len {a b : List Int} (ha : okL a) (hb : okL b) (ta : trm a = a) (tb : trm b = b) (la : a.length ≤ 1000000) : r01_compare a b = some (sg (val a - val b)) := by
 unfold r01_compare
 by_cases h : (a.length : Int) = (b.length : Int)
 ·have : ((a.length : Int) != (b.length : Int)) = false := by simp [h]
  rw [this]
  exact cmp_loop ha hb (by omega) la
 ·have : ((a.length : Int) != (b.length : Int)) = true := by simpa using h
  rw [this, if_pos rfl]
  by_cases h2 : (a.length : Int) < b.length
  ·rw [if_pos (decide_eq_true h2), sg_neg]
   have := val_lt_of_len ha hb tb (by omega)
   omega
  ·rw [if_neg (by simpa using h2), sg_pos]
   have := val_lt_of_len hb ha ta (by omega)
   omega
end Go.Proofs.YtipefnighcdgnaaGreatDoor
namespace Go.Proofs.YtipefnighcdgnaaGreatDoor
open Go.RowKit
set_option linter.unusedVariables false
set_option linter.unusedSimpArgs false
def win (u : List Int) (k j : Nat) : Int := val ((u.drop k).take j)
theorem win_zero (u : List Int) (k : Nat) : win u k 0 = 0 := by unfold win; simp [val]
end Go.Proofs.YtipefnighcdgnaaGreatDoor
