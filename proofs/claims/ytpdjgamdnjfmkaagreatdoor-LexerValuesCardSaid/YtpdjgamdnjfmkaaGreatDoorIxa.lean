/-
  Ia, Ib, Ic in one text.
-/
import Derived.Test.YtpdjgamdnjfmkaaGreatDoorLmi
namespace Go.Proofs.YtpdjgamdnjfmkaaGreatDoor
open Go.RowKit
set_option linter.unusedVariables false
set_option linter.unusedSimpArgs false
theorem wrap_i64 {n : Int} (h : -9223372036854775808 ≤ n) (h2 : n ≤ 9223372036854775807) : IntKind.i64.wrap n = n := IntWalk.i64_in _ ⟨h, by omega⟩
theorem gt_k {α : Type} {l : List α} {k : Nat} {x : α} (h : l[k]? = some x) : gt l (k : Int) = some x := by
 unfold gt
 have hl := getElem_lt h
 rw [if_neg (by omega)]
 simpa using h
theorem cutT_k {α : Type} {l : List α} {n : Nat} (h : n ≤ l.length) : cutT l (n : Int) = some (l.take n) := by
 unfold cutT
 rw [if_neg (by omega)]
 simp
theorem take_last {l : List Int} {n : Nat} {x : Int} (h : l[n]? = some x) : l.take (n + 1) = l.take n ++ [x] := by
 rw [List.take_add_one, h]; rfl
theorem trm_take0 {l : List Int} {n : Nat} (h : l[n]? = some 0) : trm (l.take (n + 1)) = trm (l.take n) := by
 rw [take_last h, trm_snoc0]
theorem trm_takeN {l : List Int} {n : Nat} {x : Int} (h : l[n]? = some x) (h0 : x ≠ 0) : trm (l.take (n + 1)) = l.take (n + 1) := by
 refine trm_last (x := x) ?_ h0
 rw [take_last h]; simp
theorem it_trim_eq (l : List Int) (hl : l.length ≤ 1000000) : it_trim l = some (trm l) := by
 have key : Tot (it_trim l) (fun e => e = trm l) := by
  unfold it_trim
  refine Tot.bind (E := fun e => e = trm l) (Tot.loop (fun m (v : List Int) => v = l.take m ∧ m ≤ l.length ∧ trm v = trm l) _ l.length (fuel_gt (by omega)) ⟨by simp, by omega, rfl⟩ (fun m v hv => ?_)) (fun v hv => .ok hv)
  obtain ⟨rfl, h1, h2⟩ := hv
  have hlen : (l.take m).length = m := by simp; omega
  rw [hlen]
  cases m with
  | zero =>
   refine TotX.bind (E := fun b => b = false) (Tot.ite (fun q => by simp at q) (fun _ => .ok rfl)) (fun b hb => ?_)
   subst hb
   refine TotX.ite (fun q => by cases q) (fun _ => .ret ?_)
   rw [← h2]; simp [trm]
  | succ m =>
   have hx : l[m]? = some l[m] := List.getElem?_eq_getElem (by omega)
   generalize l[m] = x at hx
   have hx2 : (l.take (m + 1))[m]? = some x := by rw [List.getElem?_take, if_pos (by omega)]; exact hx
   rw [wrap_i64 (by omega) (by omega), show ((m + 1 : Nat) : Int) - 1 = (m : Int) by omega, gt_k hx2, bindO_s]
   refine TotX.bind (E := fun b => b = (x == 0)) (Tot.ite (fun _ => .ok rfl) (fun q => absurd q (by simp))) (fun b hb => ?_)
   subst hb
   refine TotX.ite (fun q => ?_) (fun q => .ret ?_)
   ·have : x = 0 := by simpa using q
    subst this
    rw [cutT_k (by rw [hlen]; omega), bindO_s]
    refine .go ⟨m, by omega, by rw [List.take_take, Nat.min_eq_left (by omega)], by omega, ?_⟩
    rw [List.take_take, Nat.min_eq_left (by omega), ← h2, trm_take0 hx]
   ·have h0 : x ≠ 0 := by simpa using q
    rw [← h2, trm_takeN hx h0]
 obtain ⟨e, he, rfl⟩ := key
 exact he
theorem it_signed_eq (neg : Bool) (l : List Int) (hl : l.length ≤ 1000000) (ho : okL l) : it_signed neg l = some (ofI (if neg = true then -val l else val l)) := by
 have key : Tot (it_signed neg l) (fun e => e = ⟨neg && decide (trm l ≠ []), trm l⟩) := by
  unfold it_signed
  refine Tot.bind (E := fun v => ∃ n : Nat, v = (n : Int) ∧ n ≤ l.length ∧ l.take n = trm l) (Tot.loop (fun m (v : Int) => v = (m : Int) ∧ m ≤ l.length ∧ trm (l.take m) = trm l) _ l.length (fuel_gt (by omega)) ⟨rfl, by omega, by simp⟩ (fun m v hv => ?_)) (fun v hv => ?_)
  ·obtain ⟨rfl, h1, h2⟩ := hv
   cases m with
   | zero =>
    refine TotX.bind (E := fun b => b = false) (Tot.ite (fun q => by simp at q) (fun _ => .ok rfl)) (fun b hb => ?_)
    subst hb
    refine TotX.ite (fun q => by cases q) (fun _ => .ret ⟨0, rfl, by omega, ?_⟩)
    rw [← h2]; simp [trm]
   | succ m =>
    have hx : l[m]? = some l[m] := List.getElem?_eq_getElem (by omega)
    generalize l[m] = x at hx
    rw [wrap_i64 (by omega) (by omega), show ((m + 1 : Nat) : Int) - 1 = (m : Int) by omega, gt_k hx, bindO_s]
    refine TotX.bind (E := fun b => b = (x == 0)) (Tot.ite (fun _ => .ok rfl) (fun q => absurd q (by simp))) (fun b hb => ?_)
    subst hb
    refine TotX.ite (fun q => ?_) (fun q => .ret ⟨m + 1, rfl, h1, ?_⟩)
    ·have : x = 0 := by simpa using q
     subst this
     exact .go ⟨m, by omega, rfl, by omega, by rw [← h2, trm_take0 hx]⟩
    ·have h0 : x ≠ 0 := by simpa using q
     rw [← h2, trm_takeN hx h0]
  ·obtain ⟨n, rfl, h1, h2⟩ := hv
   have hd : decide ((n : Int) > 0) = decide (trm l ≠ []) := by
    apply decide_eq_decide.2
    rw [← h2]
    constructor
    ·intro q z
     have := congrArg List.length z
     rw [List.length_take, Nat.min_eq_left h1, List.length_nil] at this; omega
    ·intro q
     rcases Nat.eq_zero_or_pos n with z | z
     ·subst z; simp at q
     ·omega
   rw [cutT_k h1, h2]
   cases neg with
   | true => simp only [if_true, bindO_s, hd, Bool.true_and]; exact .ok rfl
   | false => simp only [Bool.false_eq_true, if_false, bindO_s, Bool.false_and]; exact .ok rfl
 obtain ⟨e, he, rfl⟩ := key
 rw [he, signed_eq ho]
end Go.Proofs.YtpdjgamdnjfmkaaGreatDoor
namespace Go.Proofs.YtpdjgamdnjfmkaaGreatDoor
open Go.RowKit
set_option linter.unusedVariables false
set_option linter.unusedSimpArgs false
theorem wU32 {n : Int} (h : 0 ≤ n) (h2 : n < 4294967296) : IntKind.u32.wrap n = n := by
 unfold IntKind.wrap; simp [IntKind.signed, IntKind.bits]; omega
theorem wU64 {n : Int} (h : 0 ≤ n) (h2 : n < 18446744073709551616) : IntKind.u64.wrap n = n := by
 unfold IntKind.wrap; simp [IntKind.signed, IntKind.bits]; omega
theorem wI64 {n : Int} (h : -9223372036854775808 ≤ n) (h2 : n ≤ 9223372036854775807) : IntKind.i64.wrap n = n := wrap_i64 h h2
theorem tdv {a b : Int} (h : 0 ≤ a) : Int.tdiv a b = a / b := Int.tdiv_eq_ediv_of_nonneg h
theorem tmd {a b : Int} (h : 0 ≤ a) : Int.tmod a b = a % b := Int.tmod_eq_emod_of_nonneg h
theorem mulB {x y : Int} (hx : 0 ≤ x ∧ x < 1000000000) (hy : 0 ≤ y ∧ y < 1000000000) : 0 ≤ x * y ∧ x * y ≤ 999999998000000001 := by
 refine ⟨Int.mul_nonneg hx.1 hy.1, ?_⟩
 have := Int.mul_le_mul (show x ≤ 999999999 by omega) (show y ≤ 999999999 by omega) hy.1 (by omega)
 omega
def lb (l : List Int) (i : Nat) : Int := (l[i]?).getD 0
theorem lb_of {l : List Int} {i : Nat} {x : Int} (h : l[i]? = some x) : lb l i = x := by unfold lb; rw [h]; rfl
theorem lb_out {l : List Int} {i : Nat} (h : l.length ≤ i) : lb l i = 0 := by unfold lb; rw [List.getElem?_eq_none h]; rfl
theorem lb_ok {l : List Int} (h : okL l) (i : Nat) : 0 ≤ lb l i ∧ lb l i < 1000000000 := by
 unfold lb
 cases hx : l[i]? with
 | none => simp
 | some x => exact okL_get h hx
theorem val_take_lb (l : List Int) (i : Nat) : val (l.take (i + 1)) = val (l.take i) + lb l i * pw i := by
 cases hx : l[i]? with
 | none =>
  have hl : l.length ≤ i := by simpa using hx
  rw [lb_out hl, List.take_of_length_le (by omega), List.take_of_length_le hl]; omega
 | some x => rw [lb_of hx]; exact val_take_one hx
theorem val_take_all {l : List Int} {n : Nat} (h : l.length ≤ n) : val (l.take n) = val l := by rw [List.take_of_length_le h]
theorem val_drop_lb (l : List Int) (i : Nat) : val (l.drop i) = lb l i + 1000000000 * val (l.drop (i + 1)) := by
 cases hx : l[i]? with
 | none =>
  have hl : l.length ≤ i := by simpa using hx
  rw [lb_out hl, List.drop_of_length_le hl, List.drop_of_length_le (show l.length ≤ i + 1 by omega)]; rfl
 | some x => rw [lb_of hx]; exact val_drop_one hx
theorem val_take_set {l : List Int} {i : Nat} {x : Int} (h : i < l.length) : val ((l.set i x).take (i + 1)) = val (l.take i) + x * pw i := by
 have h1 : (l.set i x)[i]? = some x := by simp [h]
 rw [val_take_one h1, List.take_set, List.set_eq_of_length_le (by rw [List.length_take]; omega)]
theorem take_set_lt {l : List Int} {i j : Nat} {x : Int} (h : j ≤ i) : (l.set i x).take j = l.take j := by
 rw [List.take_set, List.set_eq_of_length_le (by simp; omega)]
theorem drop_set_gt {l : List Int} {i j : Nat} {x : Int} (h : i < j) : (l.set i x).drop j = l.drop j := List.drop_set_of_lt h
theorem val_drop_set {l : List Int} {i : Nat} {x : Int} (h : i < l.length) : val ((l.set i x).drop i) = x + 1000000000 * val (l.drop (i + 1)) := by
 have h1 : (l.set i x)[i]? = some x := by simp [h]
 rw [val_drop_one h1, drop_set_gt (by omega)]
theorem gt_l {l : List Int} {i : Nat} (h : i < l.length) : gt l (i : Int) = some (lb l i) := by
 have h1 : l[i]? = some l[i] := List.getElem?_eq_getElem h
 rw [gt_k h1, lb_of h1]
theorem lb_drop (l : List Int) (k j : Nat) : lb (l.drop k) j = lb l (k + j) := by unfold lb; rw [List.getElem?_drop]
theorem lb_of_drop {u w : List Int} {i : Nat} (h : u.drop i = w.drop i) : lb u i = lb w i := by
 have h1 := lb_drop u i 0
 rw [h, lb_drop w i 0, Nat.add_zero] at h1
 exact h1.symm
theorem drop_succ_eq {u w : List Int} {i : Nat} (h : u.drop i = w.drop i) : u.drop (i + 1) = w.drop (i + 1) := by
 rw [← List.drop_drop, h, List.drop_drop]
def sg (z : Int) : Int := if z < 0 then -1 else if 0 < z then 1 else 0
theorem sg_neg {z : Int} (h : z < 0) : sg z = -1 := by unfold sg; rw [if_pos h]
theorem sg_pos {z : Int} (h : 0 < z) : sg z = 1 := by unfold sg; rw [if_neg (by omega), if_pos h]
theorem sg_zero {z : Int} (h : z = 0) : sg z = 0 := by unfold sg; rw [if_neg (by omega), if_neg (by omega)]
theorem cmp_loop {y1 y2 : List Int} (h1 : okL y1) (h2 : okL y2) (hl : y1.length = y2.length) (hs : y1.length ≤ 1000000) : (bindX (loopX (fun (v1 : Int) =>
          if (decide (v1 ≥ 0)) = true then
            bindO (gt y1 v1) fun (e1 : Int) =>
            bindO (gt y2 v1) fun (e2 : Int) =>
            if (decide (e1 < e2)) = true then
              some (.ret (.ret (-1)))
            else
              if (decide (e1 > e2)) = true then
                some (.ret (.ret 1))
              else
                some (.go (IntKind.i64.wrap (v1 - 1)))
          else
            some (.ret (.go ()))) fuel (IntKind.i64.wrap ((y1.length : Int) - 1))) fun (v2 : Unit) =>
    some 0) = some (sg (val y1 - val y2)) := by
  have key : Tot (bindX (loopX (fun (v1 : Int) =>
          if (decide (v1 ≥ 0)) = true then
            bindO (gt y1 v1) fun (e1 : Int) =>
            bindO (gt y2 v1) fun (e2 : Int) =>
            if (decide (e1 < e2)) = true then
              some (.ret (.ret (-1)))
            else
              if (decide (e1 > e2)) = true then
                some (.ret (.ret 1))
              else
                some (.go (IntKind.i64.wrap (v1 - 1)))
          else
            some (.ret (.go ()))) fuel (IntKind.i64.wrap ((y1.length : Int) - 1))) fun (v2 : Unit) =>
    some (0 : Int)) (fun e => e = sg (val y1 - val y2)) := by
    refine Tot.bindX (E := fun _ => y1 = y2) (TotX.of (Tot.loop (fun m (v : Int) => v = (m : Int) - 1 ∧ m ≤ y1.length ∧ y1.drop m = y2.drop m) _ y1.length (fuel_gt (by omega)) ⟨by rw [wI64 (by omega) (by omega)], Nat.le_refl _, by rw [List.drop_of_length_le (Nat.le_refl _), List.drop_of_length_le (by omega)]⟩ (fun m v hv => ?_))) (fun _ h => .ok (by rw [h, sg_zero (by omega)]))
    obtain ⟨rfl, hm, hd⟩ := hv
    cases m with
    | zero => exact TotX.ite (fun q => by simp at q) (fun _ => .ret (by simpa using hd))
    | succ m =>
      have e1 : ((m + 1 : Nat) : Int) - 1 = (m : Int) := by omega
      rw [e1]
      have hx : y1[m]? = some y1[m] := List.getElem?_eq_getElem (by omega)
      have hy : y2[m]? = some y2[m] := List.getElem?_eq_getElem (by omega)
      generalize y1[m] = x at hx
      generalize y2[m] = y at hy
      refine TotX.ite (fun _ => ?_) (fun q => absurd q (by simp))
      rw [gt_k hx, bindO_s, gt_k hy, bindO_s]
      refine TotX.ite (fun q => .ret ?_) (fun q => TotX.ite (fun q2 => .ret ?_) (fun q2 => .go ⟨m, by omega, by rw [wI64 (by omega) (by omega)], by omega, ?_⟩))
      · have := val_cmp_at h1 h2 hx hy hd (by simpa using q)
        exact (sg_neg (by omega)).symm
      · have := val_cmp_at h2 h1 hy hx hd.symm (by simpa using q2)
        exact (sg_pos (by omega)).symm
      · have hxy : x = y := by simp at q q2; omega
        have l1 := getElem_lt hx; have l2 := getElem_lt hy
        rw [List.drop_eq_getElem_cons l1, List.drop_eq_getElem_cons l2, hd]
        rw [List.getElem?_eq_getElem l1] at hx; rw [List.getElem?_eq_getElem l2] at hy
        injection hx with hx; injection hy with hy
        rw [hx, hy, hxy]
  obtain ⟨e, he, rfl⟩ := key
  exact he
theorem cmp_len {a b : List Int} (ha : okL a) (hb : okL b) (ta : trm a = a) (tb : trm b = b) (la : a.length ≤ 1000000) : r01_compare a b = some (sg (val a - val b)) := by
 unfold r01_compare
 by_cases h : (a.length : Int) = (b.length : Int)
 ·have : ((a.length : Int) != (b.length : Int)) = false := by simp [h]
  rw [this]
  exact cmp_loop ha hb (by omega) la
 ·have : ((a.length : Int) != (b.length : Int)) = true := by simpa using h
  rw [this, if_pos rfl]
  by_cases h2 : (a.length : Int) < b.length
  ·rw [if_pos (decide_eq_true h2), sg_neg]
   have := val_lt_of_len ha hb tb (by omega)
   omega
  ·rw [if_neg (by simpa using h2), sg_pos]
   have := val_lt_of_len hb ha ta (by omega)
   omega
theorem it_compare_eq {a b : List Int} (ha : okL a) (hb : okL b) (la : a.length ≤ 1000000) (lb' : b.length ≤ 1000000) : it_compare a b = some (sg (val a - val b)) := by
 have h := cmp_len (okL_trm ha) (okL_trm hb) (trm_trm a) (trm_trm b) (Nat.le_trans (trm_le a) la)
 rw [val_trm, val_trm] at h
 unfold it_compare
 rw [it_trim_eq a la, bindO_s, it_trim_eq b lb', bindO_s, ← h]
 rfl
theorem it_plus_ok {a b : List Int} (ha : okL a) (hb : okL b) (la : a.length ≤ 1000000) (lb' : b.length ≤ 1000000) : Tot (it_plus a b) (fun l => okL l ∧ val l = val a + val b ∧ l.length ≤ max a.length b.length + 1) := by
 unfold it_plus
 refine Tot.bind (E := fun p => okL p.1 ∧ okL p.2 ∧ p.2.length ≤ p.1.length ∧ p.1.length ≤ max a.length b.length ∧ val p.1 + val p.2 = val a + val b) (Tot.ite (fun q => .ok ⟨hb, ha, by simp at q; dsimp only; omega, by dsimp only; omega, by dsimp only; omega⟩) (fun q => .ok ⟨ha, hb, by simp at q; dsimp only; omega, by dsimp only; omega, rfl⟩)) (fun p hp => ?_)
 obtain ⟨c, d⟩ := p
 dsimp only at hp ⊢
 obtain ⟨hc, hd, h1, h2, h3⟩ := hp
 refine Tot.guard (by rw [wI64 (by omega) (by omega)]; exact decide_eq_true (by omega)) (Tot.guard (okLen_of (by rw [wI64 (by omega) (by omega)]; omega)) ?_)
 refine Tot.bind (E := fun v => okL v.1 ∧ v.1.length = c.length ∧ (v.2 = 0 ∨ v.2 = 1) ∧ val v.1 + v.2 * pw c.length = val c + val d) (Tot.guard (okIdx_of (by omega)) (Tot.range (fun i v => okL v.1 ∧ v.1.length = i ∧ (v.2 = 0 ∨ v.2 = 1) ∧ val v.1 + v.2 * pw i = val (c.take i) + val (d.take i)) _ ⟨okL_nil, rfl, .inl rfl, by simp [val]⟩ (fun i x v hx hr => ?_) (fun v hr => ?_))) (fun v hv => ?_)
 ·obtain ⟨out, k⟩ := v
  dsimp only at hr ⊢
  obtain ⟨r1, r2, r3, r4⟩ := hr
  have hx1 := okL_get hc hx
  have hil := getElem_lt hx
  have hy := lb_ok hd i
  refine TotX.bind (E := fun s => s = x + k + lb d i) (Tot.ite (fun q => ?_) (fun q => ?_)) (fun s hs => ?_)
  ·have q' : i < d.length := by simp at q; omega
   rw [gt_l q', bindO_s]
   exact .ok (by rw [wU32 (n := x + k) (by omega) (by omega), wU32 (by omega) (by omega)])
  ·have q' : d.length ≤ i := by simp at q; omega
   exact .ok (by rw [wU32 (by omega) (by omega), lb_out q']; omega)
  ·subst hs
   refine TotX.bind (E := fun w => (w.1 = 0 ∨ w.1 = 1) ∧ 0 ≤ w.2 ∧ w.2 < 1000000000 ∧ w.2 + 1000000000 * w.1 = x + k + lb d i) (Tot.ite (fun q => .ok ?_) (fun q => .ok ?_)) (fun w hw => ?_)
   ·simp only [ge_iff_le, decide_eq_true_eq] at q
    rw [wU32 (by omega) (by omega)]
    exact ⟨.inr rfl, by dsimp only; omega, by dsimp only; omega, by dsimp only; omega⟩
   ·simp only [ge_iff_le, decide_eq_false_iff_not] at q
    exact ⟨.inl rfl, by dsimp only; omega, by dsimp only; omega, by dsimp only; omega⟩
   ·obtain ⟨w1, w2⟩ := w
    dsimp only at hw ⊢
    obtain ⟨q1, q2, q3, q4⟩ := hw
    refine TotX.guard (okLen_of (by omega)) (.go ⟨okL_append.2 ⟨r1, okL_cons.2 ⟨⟨q2, q3⟩, okL_nil⟩⟩, by simp [r2], q1, ?_⟩)
    rw [val_append, r2, val_take_lb c i, val_take_lb d i, lb_of hx, pw_succ]
    simp only [val]
    grind
 ·obtain ⟨r1, r2, r3, r4⟩ := hr
  exact .ok ⟨r1, r2, r3, by rw [r4, val_take_all (Nat.le_refl _), val_take_all (by omega)]⟩
 ·obtain ⟨out, k⟩ := v
  dsimp only at hv ⊢
  obtain ⟨r1, r2, r3, r4⟩ := hv
  refine Tot.guard (okLen_of (by omega)) (.ok ⟨okL_append.2 ⟨r1, okL_cons.2 ⟨by omega, okL_nil⟩⟩, ?_, by simp; omega⟩)
  rw [val_append, r2]
  simp only [val]
  grind
theorem it_minus_ok {a b : List Int} (ha : okL a) (hb : okL b) (la : a.length ≤ 1000000) (lb' : b.length ≤ 1000000) (h : val b ≤ val a) : Tot (it_minus a b) (fun l => okL l ∧ val l = val a - val b ∧ l.length = a.length) := by
 unfold it_minus
 refine Tot.guard (decide_eq_true (by omega)) (Tot.guard (okLen_of (by omega)) ?_)
 refine Tot.bind (E := fun v => okL v ∧ val v = val a - val b ∧ v.length = a.length) (Tot.guard (okIdx_of (by omega)) (Tot.range (fun i v => okL v.2 ∧ v.2.length = a.length ∧ (v.1 = 0 ∨ v.1 = 1) ∧ val (v.2.take i) - v.1 * pw i = val (a.take i) - val (b.take i)) _ ⟨okL_rep _, by simp, .inl rfl, by simp [val]⟩ (fun i x v hx hr => ?_) (fun v hr => ?_))) (fun v hv => .ok hv)
 ·obtain ⟨k, out⟩ := v
  dsimp only at hr ⊢
  obtain ⟨r1, r2, r3, r4⟩ := hr
  have hx1 := okL_get ha hx
  have hil := getElem_lt hx
  have hy := lb_ok hb i
  refine TotX.bind (E := fun s => s = k + lb b i) (Tot.ite (fun q => ?_) (fun q => ?_)) (fun s hs => ?_)
  ·have q' : i < b.length := by simp at q; omega
   rw [gt_l q', bindO_s]
   exact .ok (by rw [wU32 (by omega) (by omega)])
  ·have q' : b.length ≤ i := by simp at q; omega
   exact .ok (by rw [lb_out q']; omega)
  ·subst hs
   refine TotX.bind (E := fun w => (w.1 = 0 ∨ w.1 = 1) ∧ k + lb b i ≤ w.2 ∧ w.2 - (k + lb b i) < 1000000000 ∧ w.2 = x + 1000000000 * w.1) (Tot.ite (fun q => .ok ?_) (fun q => .ok ?_)) (fun w hw => ?_)
   ·simp only [decide_eq_true_eq] at q
    rw [wU32 (by omega) (by omega)]
    exact ⟨.inr rfl, by dsimp only; omega, by dsimp only; omega, by dsimp only; omega⟩
   ·simp only [decide_eq_false_iff_not] at q
    exact ⟨.inl rfl, by dsimp only; omega, by dsimp only; omega, by dsimp only; omega⟩
   ·obtain ⟨w1, w2⟩ := w
    dsimp only at hw ⊢
    obtain ⟨q1, q2, q3, q4⟩ := hw
    rw [gt_l (show i < out.length by omega), bindO_s, wU32 (by omega) (by omega), Int.toNat_natCast]
    refine .go ⟨okL_set r1 (by omega) q3, by simp [r2], q1, ?_⟩
    rw [val_take_set (by omega), val_take_lb b i, val_take_one hx, pw_succ, q4]
    grind
 ·obtain ⟨k, out⟩ := v
  dsimp only at hr ⊢
  obtain ⟨r1, r2, r3, r4⟩ := hr
  refine .ok ⟨r1, ?_, r2⟩
  rw [val_take_all (by omega), val_take_all (Nat.le_refl _)] at r4
  have hb1 := val_bound r1
  have ha1 := val_bound ha
  have hbt := val_bound (okL_take a.length hb)
  have hbd := val_bound (okL_drop a.length hb)
  have hp := pw_pos a.length
  have hbb : val b = val (b.take a.length) := by
   rcases Nat.le_total b.length a.length with q | q
   ·rw [val_take_all q]
   ·have h1 := val_take_drop b a.length q
    rcases Int.lt_or_le 0 (val (b.drop a.length)) with z | z
    ·have := Int.mul_le_mul_of_nonneg_left (show 1 ≤ val (b.drop a.length) by omega) (Int.le_of_lt hp)
     omega
    ·rw [show val (b.drop a.length) = 0 by omega] at h1; omega
  rw [r2] at hb1
  rcases r3 with z | z
  ·subst z; omega
  ·subst z; omega
theorem it_times_ok {a b : List Int} (ha : okL a) (hb : okL b) (la : a.length ≤ 1000000) (lb' : b.length ≤ 1000000) : Tot (it_times a b) (fun l => okL l ∧ val l = val a * val b ∧ l.length = a.length + b.length) := by
 unfold it_times
 have hlen : IntKind.i64.wrap ((a.length : Int) + (b.length : Int)) = ((a.length + b.length : Nat) : Int) := by rw [wI64 (by omega) (by omega)]; omega
 rw [hlen, Int.toNat_natCast]
 refine Tot.guard (decide_eq_true (by omega)) (Tot.guard (okLen_of (by omega)) ?_)
 refine Tot.bind (E := fun v => okL v ∧ val v = val a * val b ∧ v.length = a.length + b.length) (Tot.guard (okIdx_of (by omega)) (Tot.range (fun i v => okL v ∧ v.length = a.length + b.length ∧ val (v.take (i + b.length)) = val (a.take i) * val b) _ ⟨okL_rep _, by simp, ?_⟩ (fun i x v hx hr => ?_) (fun v hr => ?_))) (fun v hv => .ok hv)
 ·have h1 : val ((List.replicate (a.length + b.length) (0 : Int)).take (0 + b.length)) = 0 := by
   rw [List.take_replicate]; exact val_rep _
  rw [h1]; simp [val]
 ·obtain ⟨r1, r2, r3⟩ := hr
  have hx1 := okL_get ha hx
  have hil := getElem_lt hx
  refine TotX.bind (E := fun u => okL u ∧ u.length = a.length + b.length ∧ val (u.take (i + 1 + b.length)) = val (a.take (i + 1)) * val b) (Tot.bind (E := fun u => okL u.2 ∧ u.2.length = a.length + b.length ∧ (0 ≤ u.1 ∧ u.1 < 1000000000) ∧ val (u.2.take (i + b.length)) + u.1 * pw (i + b.length) = val (v.take (i + b.length)) + x * val b * pw i) (Tot.guard (okIdx_of (by omega)) (Tot.range (fun k u => okL u.2 ∧ u.2.length = a.length + b.length ∧ (0 ≤ u.1 ∧ u.1 < 1000000000) ∧ u.2.drop (i + k) = v.drop (i + k) ∧ val (u.2.take (i + k)) + u.1 * pw (i + k) = val (v.take (i + k)) + x * val (b.take k) * pw i) _ ⟨r1, r2, by dsimp only; omega, rfl, by simp [val]⟩ (fun k y u hy hu => ?_) (fun u hu => ?_))) (fun u hu => ?_)) (fun u hu => .go hu)
  ·obtain ⟨c, out⟩ := u
   dsimp only at hu ⊢
   obtain ⟨u1, u2, u3, u4, u5⟩ := hu
   have hy1 := okL_get hb hy
   have hkl := getElem_lt hy
   have hik : IntKind.i64.wrap ((i : Int) + (k : Int)) = ((i + k : Nat) : Int) := by rw [wI64 (by omega) (by omega)]; omega
   rw [hik, Int.toNat_natCast, gt_l (show i + k < out.length by omega), bindO_s, bindO_s]
   have ho := lb_ok u1 (i + k)
   have hov : lb out (i + k) = lb v (i + k) := lb_of_drop u4
   have hm := mulB hx1 hy1
   rw [wU64 (n := x) (by omega) (by omega), wU64 (n := y) (by omega) (by omega), wU64 (n := x * y) (by omega) (by omega), wU64 (n := lb out (i + k)) (by omega) (by omega), wU64 (n := lb out (i + k) + x * y) (by omega) (by omega), wU64 (n := lb out (i + k) + x * y + c) (by omega) (by omega), tdv (by omega), tmd (by omega), wU64 (by omega) (by omega), wU32 (by omega) (by omega)]
   refine .go ⟨okL_set u1 (by omega) (by omega), by simp [u2], by dsimp only; omega, ?_, ?_⟩
   ·rw [drop_set_gt (by omega), ← Nat.add_assoc, ← List.drop_drop, u4, List.drop_drop]
   ·rw [show i + (k + 1) = i + k + 1 by omega, val_take_set (by omega), val_take_lb v, val_take_one hy, pw_succ, ← hov, pw_add]
    rw [pw_add] at u5
    have e := Int.emod_add_mul_ediv (lb out (i + k) + x * y + c) 1000000000
    generalize (lb out (i + k) + x * y + c) % 1000000000 = m at *
    generalize (lb out (i + k) + x * y + c) / 1000000000 = d at *
    grind
  ·obtain ⟨u1, u2, u3, u4, u5⟩ := hu
   exact .ok ⟨u1, u2, u3, by rw [u5, val_take_all (Nat.le_refl b.length)]⟩
  ·obtain ⟨c, out⟩ := u
   dsimp only at hu ⊢
   obtain ⟨u1, u2, u3, u5⟩ := hu
   have hik : IntKind.i64.wrap ((i : Int) + (b.length : Int)) = ((i + b.length : Nat) : Int) := by rw [wI64 (by omega) (by omega)]; omega
   rw [hik, Int.toNat_natCast, gt_l (show i + b.length < out.length by omega), bindO_s, wU32 (by omega) (by omega)]
   refine .ok ⟨okL_set u1 (by omega) (by omega), by simp [u2], ?_⟩
   rw [show i + 1 + b.length = i + b.length + 1 by omega, val_take_set (by omega), u5, r3, val_take_one hx]
   grind
 ·obtain ⟨r1, r2, r3⟩ := hr
  refine .ok ⟨r1, ?_, r2⟩
  rw [val_take_all (by omega), val_take_all (Nat.le_refl _)] at r3
  exact r3
theorem it_byWord_ok {a : List Int} {b : Int} (ha : okL a) (la : a.length ≤ 1000000) (hb : 0 < b) (hb2 : b < 1000000000) : Tot (it_byWord a b) (fun p => okL p.1 ∧ p.1.length = a.length ∧ ∃ r, p.2 = [r] ∧ 0 ≤ r ∧ r < b ∧ val p.1 * b + r = val a) := by
 unfold it_byWord
 refine Tot.guard (decide_eq_true (by omega)) (Tot.guard (okLen_of (by omega)) ?_)
 refine Tot.bind (E := fun v => okL v.2 ∧ v.2.length = a.length ∧ 0 ≤ v.1 ∧ v.1 < b ∧ val v.2 * b + v.1 = val a) (Tot.loop (fun m v => v.2.1 = (m : Int) - 1 ∧ m ≤ a.length ∧ okL v.2.2 ∧ v.2.2.length = a.length ∧ 0 ≤ v.1 ∧ v.1 < b ∧ val (v.2.2.drop m) * b + v.1 = val (a.drop m)) _ a.length (fuel_gt (by omega)) ⟨by rw [wI64 (by omega) (by omega)], Nat.le_refl _, okL_rep _, by simp, by dsimp only; omega, hb, by simp [val]⟩ (fun m v hv => ?_)) (fun v hv => ?_)
 ·obtain ⟨r, i, out⟩ := v
  dsimp only at hv ⊢
  obtain ⟨rfl, h1, h2, h3, h4, h5, h6⟩ := hv
  cases m with
  | zero => exact TotX.ite (fun q => by simp at q) (fun _ => .ret ⟨h2, h3, h4, h5, by simpa using h6⟩)
  | succ m =>
   have e1 : ((m + 1 : Nat) : Int) - 1 = (m : Int) := by omega
   rw [e1]
   refine TotX.ite (fun _ => ?_) (fun q => absurd q (by simp))
   have hx := lb_ok ha m
   rw [gt_l (show m < a.length by omega), bindO_s, wU64 (n := b) (by omega) (by omega)]
   have hg : (!(b == 0)) = true := by simp; omega
   refine TotX.guard hg (TotX.guard hg ?_)
   rw [gt_l (show m < out.length by omega), bindO_s, Int.toNat_natCast]
   have hrb : r * 1000000000 + lb a m < b * 1000000000 := by omega
   have hq : (r * 1000000000 + lb a m) / b < 1000000000 := Int.ediv_lt_of_lt_mul hb (by omega)
   have hq0 : 0 ≤ (r * 1000000000 + lb a m) / b := Int.ediv_nonneg (by omega) (by omega)
   rw [wU64 (n := r * 1000000000) (by omega) (by omega), wU64 (n := lb a m) (by omega) (by omega), wU64 (n := r * 1000000000 + lb a m) (by omega) (by omega), tdv (by omega), tmd (by omega), wU64 (by omega) (by omega), wU32 (by omega) (by omega), wI64 (by omega) (by omega)]
   refine .go ⟨m, by omega, rfl, by omega, okL_set h2 hq0 hq, by simp [h3], Int.emod_nonneg _ (by omega), Int.emod_lt_of_pos _ hb, ?_⟩
   rw [val_drop_set (by omega), val_drop_lb a m, ← h6]
   have e := Int.emod_add_mul_ediv (r * 1000000000 + lb a m) b
   generalize (r * 1000000000 + lb a m) / b = q at *
   generalize (r * 1000000000 + lb a m) % b = s at *
   grind
 ·obtain ⟨r, out⟩ := v
  dsimp only at hv ⊢
  obtain ⟨h1, h2, h3, h4, h5⟩ := hv
  exact .ok ⟨h1, h2, r, by rw [wU32 (by omega) (by omega)], h3, h4, h5⟩
end Go.Proofs.YtpdjgamdnjfmkaaGreatDoor
namespace Go.Proofs.YtpdjgamdnjfmkaaGreatDoor
open Go.RowKit
set_option linter.unusedVariables false
set_option linter.unusedSimpArgs false
theorem guess_loop {U V u0 u1 u2 v1 v2 P1 P2 Y W : Int} (hP : P1 = 1000000000 * P2) (hU : U = u0 * (1000000000 * P1) + u1 * P1 + u2 * P2 + Y) (hV : V = v1 * P1 + v2 * P2 + W) (hY0 : 0 ≤ Y) (hY : Y < P2) (hW0 : 0 ≤ W) (hW : W < P2) (hP2 : 0 < P2) (hu0 : 0 ≤ u0 ∧ u0 < 1000000000) (hu1 : 0 ≤ u1 ∧ u1 < 1000000000) (hu2 : 0 ≤ u2 ∧ u2 < 1000000000) (hv1 : 1 ≤ v1 ∧ v1 < 1000000000) (hv2 : 0 ≤ v2 ∧ v2 < 1000000000) (hUV : U < 1000000000 * V) :
  Tot (loopX (fun (w : Int × Int) =>
    bindO (if (decide (w.1 ≥ 1000000000)) = true then some true else some (decide ((IntKind.u64.wrap (w.1 * v2)) > (IntKind.u64.wrap ((IntKind.u64.wrap (w.2 * 1000000000)) + u2))))) fun (b : Bool) =>
    if b = true then
     if (decide ((IntKind.u64.wrap (w.2 + v1)) ≥ 1000000000)) = true then
      some (.ret (IntKind.u64.wrap (w.1 - 1)))
     else
      some (.go (IntKind.u64.wrap (w.1 - 1), IntKind.u64.wrap (w.2 + v1)))
    else
     some (.ret w.1)) fuel ((u0 * 1000000000 + u1) / v1, (u0 * 1000000000 + u1) % v1)) (fun g => 0 ≤ g ∧ g < 1000000000 ∧ g * V < U + V ∧ U < (g + 1) * V) := by
 have hP1 : 0 < P1 := by omega
 have hq0 : 0 ≤ (u0 * 1000000000 + u1) / v1 := Int.ediv_nonneg (by omega) (by omega)
 have hq1 : (u0 * 1000000000 + u1) / v1 ≤ u0 * 1000000000 + u1 := Int.ediv_le_self _ (by omega)
 have hVP : v1 * P1 ≤ V ∧ V < (v1 + 1) * P1 := by
  have h1 : v2 * P2 ≤ 999999999 * P2 := Int.mul_le_mul_of_nonneg_right (by omega) (by omega)
  have h2 : 0 ≤ v2 * P2 := Int.mul_nonneg hv2.1 (by omega)
  have h3 : (v1 + 1) * P1 = v1 * P1 + P1 := by grind
  omega
 have hV0 : 0 < V := by
  have : 1 * P1 ≤ v1 * P1 := Int.mul_le_mul_of_nonneg_right hv1.1 (by omega)
  omega
 have hUP : U < (u0 * 1000000000 + u1 + 1) * P1 ∧ u0 * (1000000000 * P1) ≤ U := by
  have h1 : u2 * P2 ≤ 999999999 * P2 := Int.mul_le_mul_of_nonneg_right (by omega) (by omega)
  have h2 : 0 ≤ u2 * P2 := Int.mul_nonneg hu2.1 (by omega)
  have h3 : (u0 * 1000000000 + u1 + 1) * P1 = u0 * (1000000000 * P1) + u1 * P1 + P1 := by grind
  have h4 : 0 ≤ u1 * P1 := Int.mul_nonneg hu1.1 (by omega)
  omega
 have hU0 : 0 ≤ U := by
  have : 0 ≤ u0 * (1000000000 * P1) := Int.mul_nonneg hu0.1 (by omega)
  omega
 have hu0v : u0 ≤ v1 := by
  rcases Int.lt_or_le v1 u0 with z | z
  ·exfalso
   have h1 : (v1 + 1) * (1000000000 * P1) ≤ u0 * (1000000000 * P1) := Int.mul_le_mul_of_nonneg_right (by omega) (by omega)
   have h2 : (v1 + 1) * (1000000000 * P1) = 1000000000 * ((v1 + 1) * P1) := by grind
   omega
  ·exact z
 refine Tot.loop (fun m w => w.1 = (m : Int) ∧ 0 ≤ w.2 ∧ w.2 < 1000000000 ∧ w.1 * v1 + w.2 = u0 * 1000000000 + u1 ∧ U < (w.1 + 1) * V) _ ((u0 * 1000000000 + u1) / v1).toNat (fuel_gt (by omega)) ⟨by dsimp only; omega, Int.emod_nonneg _ (by omega), ?_, ?_, ?_⟩ (fun m w hw => ?_)
 ·have := Int.emod_lt_of_pos (u0 * 1000000000 + u1) (show 0 < v1 by omega)
  dsimp only; omega
 ·dsimp only
  have := Int.emod_add_mul_ediv (u0 * 1000000000 + u1) v1
  grind
 ·dsimp only
  have h1 := Int.emod_add_mul_ediv (u0 * 1000000000 + u1) v1
  have h2 := Int.emod_lt_of_pos (u0 * 1000000000 + u1) (show 0 < v1 by omega)
  generalize (u0 * 1000000000 + u1) / v1 = q at *
  have h3 : (q + 1) * (v1 * P1) ≤ (q + 1) * V := Int.mul_le_mul_of_nonneg_left hVP.1 (by omega)
  have h4 : (u0 * 1000000000 + u1 + 1) * P1 ≤ (v1 * q + v1) * P1 := Int.mul_le_mul_of_nonneg_right (by omega) (by omega)
  have h5 : (q + 1) * (v1 * P1) = (v1 * q + v1) * P1 := by grind
  omega
 ·obtain ⟨g, r⟩ := w
  dsimp only at hw ⊢
  obtain ⟨h1, h2, h3, h4, h5⟩ := hw
  have hgt : g ≤ u0 * 1000000000 + u1 := by
   have : g * 1 ≤ g * v1 := Int.mul_le_mul_of_nonneg_left hv1.1 (by omega)
   omega
  refine TotX.bind (E := fun b => b = true ↔ (g ≥ 1000000000 ∨ g * v2 > r * 1000000000 + u2)) (Tot.ite (fun q => .ok ?_) (fun q => .ok ?_)) (fun b hb => ?_)
  ·simp only [decide_eq_true_eq] at q; simp [q]
  ·simp only [decide_eq_false_iff_not] at q
   have hm := mulB ⟨show 0 ≤ g by omega, show g < 1000000000 by omega⟩ hv2
   rw [wU64 (n := g * v2) (by omega) (by omega), wU64 (n := r * 1000000000) (by omega) (by omega), wU64 (n := r * 1000000000 + u2) (by omega) (by omega)]
   simp only [decide_eq_true_eq]
   constructor
   ·exact .inr
   ·rintro (z | z)
    ·omega
    ·exact z
  ·refine TotX.ite (fun q => ?_) (fun q => ?_)
   ·have hc := hb.1 q
    have hi := digit_hi hP hU hV hY hW0 hP2 (show 0 ≤ g by omega) h4 hUV hV0 hc
    have hg1 : 1 ≤ g := by
     rcases Int.lt_or_le g 1 with z | z
     ·have : g = 0 := by omega
      rw [this] at hi; omega
     ·exact z
    have h4' : (g - 1) * v1 + (r + v1) = u0 * 1000000000 + u1 := by rw [← h4]; grind
    rw [wU64 (n := r + v1) (by omega) (by omega), wU64 (n := g - 1) (by omega) (by omega)]
    refine TotX.ite (fun q2 => .ret ?_) (fun q2 => .go ⟨(g - 1).toNat, by omega, by omega, by omega, by simp at q2; omega, h4', by rw [Int.sub_add_cancel]; exact hi⟩)
    simp only [ge_iff_le, decide_eq_true_eq] at q2
    have hgB : g - 1 < 1000000000 := by
     rcases Int.lt_or_le (g - 1) 1000000000 with z | z
     ·exact z
     ·exfalso
      have e1 : 1000000000 * v1 ≤ (g - 1) * v1 := Int.mul_le_mul_of_nonneg_right z (by omega)
      omega
    have hm := mulB ⟨show 0 ≤ g - 1 by omega, hgB⟩ hv2
    exact ⟨by omega, hgB, digit_lo hP hU hV hY0 hW0 hW (by omega) h4' hP2 hv1.1 hv2.1 hgB (by omega), by rw [Int.sub_add_cancel]; exact hi⟩
   ·have hc : ¬ (g ≥ 1000000000 ∨ g * v2 > r * 1000000000 + u2) := fun z => by rw [hb.2 z] at q; cases q
    have c1 : g < 1000000000 := by rcases Int.lt_or_le g 1000000000 with z | z; exact z; exact absurd (.inl z) hc
    have c2 : g * v2 ≤ r * 1000000000 + u2 := by rcases Int.lt_or_le (r * 1000000000 + u2) (g * v2) with z | z; exact absurd (.inr z) hc; exact z
    exact .ret ⟨by omega, c1, digit_lo hP hU hV hY0 hW0 hW (by omega) h4 hP2 hv1.1 hv2.1 c1 c2, h5⟩
def win (u : List Int) (k j : Nat) : Int := val ((u.drop k).take j)
theorem win_zero (u : List Int) (k : Nat) : win u k 0 = 0 := by unfold win; simp [val]
theorem win_succ (u : List Int) (k j : Nat) : win u k (j + 1) = win u k j + lb u (k + j) * pw j := by unfold win; rw [val_take_lb, lb_drop]
theorem win_set {u : List Int} {k j : Nat} {x : Int} (h : k + j < u.length) : win (u.set (k + j) x) k (j + 1) = win u k j + x * pw j := by
 unfold win
 have h1 : (u.set (k + j) x).drop k = (u.drop k).set j x := by rw [List.drop_set, if_neg (by omega), Nat.add_sub_cancel_left]
 rw [h1, val_take_set (by simp; omega)]
theorem win_bound {u : List Int} (h : okL u) (k j : Nat) : 0 ≤ win u k j ∧ win u k j < pw j := by
 have h1 := val_bound (okL_take j (okL_drop k h))
 refine ⟨h1.1, Int.lt_of_lt_of_le h1.2 (pw_mono (by simp; omega))⟩
theorem sub_loop {u y7 : List Int} {k n : Nat} {g : Int} (hu : okL u) (hv : okL y7) (hn : y7.length = n) (hk : k + n + 1 ≤ u.length) (hl : u.length ≤ 2000000) (hg : 0 ≤ g ∧ g < 1000000000) :
    Tot (loopX (fun (v5 : Int × Int × Int × (List Int)) =>
                            if (decide (v5.2.2.1 < ((n + 1 : Nat) : Int))) = true then
                              bindO (if (decide (v5.2.2.1 < (y7.length : Int))) = true then
                                    bindO (gt y7 v5.2.2.1) fun (e8 : Int) =>
                                    some (IntKind.u64.wrap (v5.1 + (IntKind.u64.wrap ((IntKind.u64.wrap e8) * g))))
                                  else
                                    some v5.1) fun (v6 : Int) =>
                              guardO (decide (0 ≤ v5.2.2.1 ∧ v5.2.2.1 < ((n + 1 : Nat) : Int))) (
                              bindO (gt v5.2.2.2 ((k + Int.toNat v5.2.2.1 : Nat) : Int)) fun (e9 : Int) =>
                              bindO (if (decide ((IntKind.u64.wrap e9) < (IntKind.u64.wrap ((Int.tmod v6 1000000000) + v5.2.1)))) = true then
                                    some (1, IntKind.u64.wrap ((IntKind.u64.wrap e9) + 1000000000))
                                  else
                                    some (0, IntKind.u64.wrap e9)) fun (v7 : Int × Int) =>
                              guardO (decide (0 ≤ v5.2.2.1 ∧ v5.2.2.1 < ((n + 1 : Nat) : Int))) (
                              bindO (gt v5.2.2.2 ((k + Int.toNat v5.2.2.1 : Nat) : Int)) fun (e10 : Int) =>
                              some (.go (IntKind.u64.wrap (Int.tdiv v6 1000000000), v7.1, IntKind.i64.wrap (v5.2.2.1 + 1), v5.2.2.2.set (k + Int.toNat v5.2.2.1) (IntKind.u32.wrap (IntKind.u64.wrap (v7.2 - (IntKind.u64.wrap ((Int.tmod v6 1000000000) + v5.2.1)))))))))
                            else
                              some (.ret (v5.1, v5.2.1, v5.2.2.2))) fuel (0, 0, 0, u)) (fun w => w.1 = 0 ∧ (w.2.1 = 0 ∨ w.2.1 = 1) ∧ okL w.2.2 ∧ w.2.2.length = u.length ∧ w.2.2.take k = u.take k ∧ w.2.2.drop (k + n + 1) = u.drop (k + n + 1) ∧ win w.2.2 k (n + 1) + g * val y7 = win u k (n + 1) + w.2.1 * pw (n + 1)) := by
  refine Tot.loop (fun m w => ∃ j : Nat, j ≤ n + 1 ∧ m = n + 1 - j ∧ w.2.2.1 = (j : Int) ∧ 0 ≤ w.1 ∧ w.1 < 1000000000 ∧ (j = n + 1 → w.1 = 0) ∧ (w.2.1 = 0 ∨ w.2.1 = 1) ∧ okL w.2.2.2 ∧ w.2.2.2.length = u.length ∧ w.2.2.2.take k = u.take k ∧ w.2.2.2.drop (k + j) = u.drop (k + j) ∧ win w.2.2.2 k j + g * val (y7.take j) = win u k j + (w.1 + w.2.1) * pw j) _ (n + 1) (fuel_gt (by omega)) ⟨0, by omega, by omega, rfl, by dsimp only; omega, by dsimp only; omega, fun _ => rfl, .inl rfl, hu, rfl, rfl, rfl, by simp [win_zero, val]⟩ (fun m w hw => ?_)
  obtain ⟨c, bw, jj, o⟩ := w
  obtain ⟨j, j1, j2, j3, j4, j5, j6, j7, j8, j9, j10, j11, j12⟩ := hw
  dsimp only at j3 j4 j5 j6 j7 j8 j9 j10 j11 j12 ⊢
  subst j3
  by_cases hj : j = n + 1
  · subst hj
    refine TotX.ite (fun q => by simp at q) (fun _ => .ret ⟨j6 rfl, j7, j8, j9, j10, by rw [Nat.add_assoc]; exact j11, ?_⟩)
    dsimp only
    rw [val_take_all (by omega), j6 rfl] at j12
    rw [j12]; grind
  · refine TotX.ite (fun _ => ?_) (fun q => absurd q (by simp; omega))
    have hy := lb_ok hv j
    have hm := mulB hy hg
    refine TotX.bind (E := fun s => s = c + lb y7 j * g) (Tot.ite (fun q => ?_) (fun q => ?_)) (fun s hs => ?_)
    · have q' : j < y7.length := by simp at q; omega
      rw [gt_l q', bindO_s]
      exact .ok (by rw [wU64 (n := lb y7 j) (by omega) (by omega), wU64 (n := lb y7 j * g) (by omega) (by omega), wU64 (by omega) (by omega)])
    · have q' : y7.length ≤ j := by simp at q; omega
      exact .ok (by rw [lb_out q']; omega)
    · have hgd : (decide (0 ≤ (j : Int) ∧ (j : Int) < ((n + 1 : Nat) : Int))) = true := decide_eq_true ⟨by omega, by omega⟩
      refine TotX.guard hgd ?_
      rw [Int.toNat_natCast, gt_l (show k + j < o.length by omega), bindO_s]
      have ho := lb_ok j8 (k + j)
      have hou := lb_of_drop j11
      have hs0 : 0 ≤ s := by omega
      rw [tmd hs0, tdv hs0, wU64 (n := lb o (k + j)) (by omega) (by omega), wU64 (n := s % 1000000000 + bw) (by omega) (by omega), wU64 (n := s / 1000000000) (by omega) (by omega)]
      refine TotX.bind (E := fun w => (w.1 = 0 ∨ w.1 = 1) ∧ 0 ≤ w.2 - (s % 1000000000 + bw) ∧ w.2 - (s % 1000000000 + bw) < 1000000000 ∧ w.2 = lb o (k + j) + 1000000000 * w.1) (Tot.ite (fun q => .ok ?_) (fun q => .ok ?_)) (fun w hw => ?_)
      · simp only [decide_eq_true_eq] at q
        rw [wU64 (by omega) (by omega)]
        exact ⟨.inr rfl, by dsimp only; omega, by dsimp only; omega, by dsimp only; omega⟩
      · simp only [decide_eq_false_iff_not] at q
        exact ⟨.inl rfl, by dsimp only; omega, by dsimp only; omega, by dsimp only; omega⟩
      · obtain ⟨w1, w2⟩ := w
        dsimp only at hw ⊢
        obtain ⟨q1, q2, q3, q4⟩ := hw
        refine TotX.guard hgd ?_
        rw [bindO_s, wU64 (by omega) (by omega), wU32 (by omega) (by omega), wI64 (by omega) (by omega)]
        refine .go ⟨n + 1 - (j + 1), by omega, j + 1, by omega, rfl, by dsimp only; omega, by dsimp only; omega, ?_, ?_, q1, okL_set j8 q2 q3, by simp [j9], ?_, ?_, ?_⟩
        · dsimp only; omega
        · intro z
          dsimp only
          have : j = n := by omega
          rw [lb_out (by omega)] at hs
          omega
        · rw [take_set_lt (by omega)]; exact j10
        · rw [drop_set_gt (by omega), ← Nat.add_assoc]; exact drop_succ_eq j11
        · dsimp only
          rw [win_set (by omega), win_succ, val_take_lb, pw_succ, ← hou]
          have e := Int.emod_add_mul_ediv s 1000000000
          generalize s % 1000000000 = a at *
          generalize s / 1000000000 = d at *
          grind
theorem res_loop {u y7 : List Int} {k n : Nat} (hu : okL u) (hv : okL y7) (hn : y7.length = n) (hk : k + n + 1 ≤ u.length) (hl : u.length ≤ 2000000) :
    Tot (loopX (fun (v10 : Int × Int × (List Int)) =>
                              if (decide (v10.2.1 < ((n + 1 : Nat) : Int))) = true then
                                guardO (decide (0 ≤ v10.2.1 ∧ v10.2.1 < ((n + 1 : Nat) : Int))) (
                                bindO (gt v10.2.2 ((k + Int.toNat v10.2.1 : Nat) : Int)) fun (e11 : Int) =>
                                bindO (if (decide (v10.2.1 < (y7.length : Int))) = true then
                                      bindO (gt y7 v10.2.1) fun (e12 : Int) =>
                                      some (IntKind.u32.wrap ((IntKind.u32.wrap (e11 + v10.1)) + e12))
                                    else
                                      some (IntKind.u32.wrap (e11 + v10.1))) fun (v11 : Int) =>
                                bindO (if (decide (v11 ≥ 1000000000)) = true then
                                      some (1, IntKind.u32.wrap (v11 - 1000000000))
                                    else
                                      some (0, v11)) fun (v12 : Int × Int) =>
                                guardO (decide (0 ≤ v10.2.1 ∧ v10.2.1 < ((n + 1 : Nat) : Int))) (
                                bindO (gt v10.2.2 ((k + Int.toNat v10.2.1 : Nat) : Int)) fun (e13 : Int) =>
                                some (.go (v12.1, IntKind.i64.wrap (v10.2.1 + 1), v10.2.2.set (k + Int.toNat v10.2.1) v12.2))))
                              else
                                some (.ret v10.2.2)) fuel (0, 0, u)) (fun w => okL w ∧ w.length = u.length ∧ w.take k = u.take k ∧ w.drop (k + n + 1) = u.drop (k + n + 1) ∧ (win w k (n + 1) = win u k (n + 1) + val y7 ∨ win w k (n + 1) + pw (n + 1) = win u k (n + 1) + val y7)) := by
  refine Tot.loop (fun m w => ∃ j : Nat, j ≤ n + 1 ∧ m = n + 1 - j ∧ w.2.1 = (j : Int) ∧ (w.1 = 0 ∨ w.1 = 1) ∧ okL w.2.2 ∧ w.2.2.length = u.length ∧ w.2.2.take k = u.take k ∧ w.2.2.drop (k + j) = u.drop (k + j) ∧ win w.2.2 k j + w.1 * pw j = win u k j + val (y7.take j)) _ (n + 1) (fuel_gt (by omega)) ⟨0, by omega, by omega, rfl, .inl rfl, hu, rfl, rfl, rfl, by simp [win_zero, val]⟩ (fun m w hw => ?_)
  obtain ⟨c, jj, o⟩ := w
  obtain ⟨j, j1, j2, j3, j7, j8, j9, j10, j11, j12⟩ := hw
  dsimp only at j3 j7 j8 j9 j10 j11 j12 ⊢
  subst j3
  by_cases hj : j = n + 1
  · subst hj
    refine TotX.ite (fun q => by simp at q) (fun _ => .ret ⟨j8, j9, j10, by rw [Nat.add_assoc]; exact j11, ?_⟩)
    rw [val_take_all (by omega)] at j12
    rcases j7 with z | z
    · left; rw [z] at j12; omega
    · right; rw [z] at j12; omega
  · refine TotX.ite (fun _ => ?_) (fun q => absurd q (by simp; omega))
    have hy := lb_ok hv j
    have hgd : (decide (0 ≤ (j : Int) ∧ (j : Int) < ((n + 1 : Nat) : Int))) = true := decide_eq_true ⟨by omega, by omega⟩
    refine TotX.guard hgd ?_
    rw [Int.toNat_natCast, gt_l (show k + j < o.length by omega), bindO_s]
    have ho := lb_ok j8 (k + j)
    have hou := lb_of_drop j11
    refine TotX.bind (E := fun s => s = lb o (k + j) + c + lb y7 j) (Tot.ite (fun q => ?_) (fun q => ?_)) (fun s hs => ?_)
    · have q' : j < y7.length := by simp at q; omega
      rw [gt_l q', bindO_s]
      exact .ok (by rw [wU32 (n := lb o (k + j) + c) (by omega) (by omega), wU32 (by omega) (by omega)])
    · have q' : y7.length ≤ j := by simp at q; omega
      exact .ok (by rw [lb_out q', wU32 (by omega) (by omega)]; omega)
    · refine TotX.bind (E := fun w => (w.1 = 0 ∨ w.1 = 1) ∧ 0 ≤ w.2 ∧ w.2 < 1000000000 ∧ w.2 + 1000000000 * w.1 = s) (Tot.ite (fun q => .ok ?_) (fun q => .ok ?_)) (fun w hw => ?_)
      · simp only [ge_iff_le, decide_eq_true_eq] at q
        rw [wU32 (by omega) (by omega)]
        exact ⟨.inr rfl, by dsimp only; omega, by dsimp only; omega, by dsimp only; omega⟩
      · simp only [ge_iff_le, decide_eq_false_iff_not] at q
        exact ⟨.inl rfl, by dsimp only; omega, by dsimp only; omega, by dsimp only; omega⟩
      · obtain ⟨w1, w2⟩ := w
        dsimp only at hw ⊢
        obtain ⟨q1, q2, q3, q4⟩ := hw
        refine TotX.guard hgd ?_
        rw [bindO_s, wI64 (by omega) (by omega)]
        refine .go ⟨n + 1 - (j + 1), by omega, j + 1, by omega, rfl, by dsimp only; omega, q1, okL_set j8 q2 q3, by simp [j9], ?_, ?_, ?_⟩
        · rw [take_set_lt (by omega)]; exact j10
        · rw [drop_set_gt (by omega), ← Nat.add_assoc]; exact drop_succ_eq j11
        · dsimp only
          rw [win_set (by omega), win_succ, val_take_lb, pw_succ, ← hou]
          grind
end Go.Proofs.YtpdjgamdnjfmkaaGreatDoor
