/-
  Ixa, Lq, Ixb, Ixc in one text.
-/
import Derived.Test.YthljcnchaopncaaGreatDoorLmi
import Derived.Test.YthljcnchaopncaaGreatDoorPz
namespace Go.Proofs.YthljcnchaopncaaGreatDoor
open Go.RowKit
set_option linter.unusedVariables false
set_option linter.unusedSimpArgs false
theorem wrap_i64 {n : Int} (h : -9223372036854775808 ≤ n) (h2 : n ≤ 9223372036854775807) : IntKind.i64.wrap n = n := IntWalk.i64_in _ ⟨h,by omega⟩
theorem gt_k {α : Type} {l : List α} {k : Nat} {x : α} (h : l[k]? = some x) : gt l (k : Int) = some x := by
 unfold gt
 have hl := getElem_lt h
 rw [if_neg (by omega)]
 simpa using h
theorem cutT_k {α : Type} {l : List α} {n : Nat} (h : n ≤ l.length) : cutT l (n : Int) = some (l.take n) := by
 unfold cutT
 rw [if_neg (by omega)]
 simp
theorem take_last {l : List Int} {n : Nat} {x : Int} (h : l[n]? = some x) : l.take (n + 1) = l.take n ++ [x] := by
 rw [List.take_add_one,h]; rfl
theorem trm_take0 {l : List Int} {n : Nat} (h : l[n]? = some 0) : trm (l.take (n + 1)) = trm (l.take n) := by
 rw [take_last h,trm_snoc0]
theorem trm_takeN {l : List Int} {n : Nat} {x : Int} (h : l[n]? = some x) (h0 : x ≠ 0) : trm (l.take (n + 1)) = l.take (n + 1) := by
 refine trm_last (x := x) ?_ h0
 rw [take_last h]; simp
end Go.Proofs.YthljcnchaopncaaGreatDoor
namespace Go.Proofs.YthljcnchaopncaaGreatDoor
open Go.RowKit
set_option linter.unusedVariables false
set_option linter.unusedSimpArgs false
theorem wU32 {n : Int} (h : 0 ≤ n) (h2 : n < 4294967296) : IntKind.u32.wrap n = n := by
 unfold IntKind.wrap; simp [IntKind.signed,IntKind.bits]; omega
theorem wU64 {n : Int} (h : 0 ≤ n) (h2 : n < 18446744073709551616) : IntKind.u64.wrap n = n := by
 unfold IntKind.wrap; simp [IntKind.signed,IntKind.bits]; omega
theorem wI64 {n : Int} (h : -9223372036854775808 ≤ n) (h2 : n ≤ 9223372036854775807) : IntKind.i64.wrap n = n := wrap_i64 h h2
theorem tdv {a b : Int} (h : 0 ≤ a) : Int.tdiv a b = a / b := Int.tdiv_eq_ediv_of_nonneg h
theorem tmd {a b : Int} (h : 0 ≤ a) : Int.tmod a b = a % b := Int.tmod_eq_emod_of_nonneg h
theorem mulB {x y : Int} (hx : 0 ≤ x ∧ x < 1000000000) (hy : 0 ≤ y ∧ y < 1000000000) : 0 ≤ x * y ∧ x * y ≤ 999999998000000001 := by
 refine ⟨Int.mul_nonneg hx.1 hy.1,?_⟩
 have := Int.mul_le_mul (show x ≤ 999999999 by omega) (show y ≤ 999999999 by omega) hy.1 (by omega)
 omega
def lb (l : List Int) (i : Nat) : Int := (l[i]?).getD 0
theorem lb_of {l : List Int} {i : Nat} {x : Int} (h : l[i]? = some x) : lb l i = x := by unfold lb; rw [h]; rfl
theorem lb_out {l : List Int} {i : Nat} (h : l.length ≤ i) : lb l i = 0 := by unfold lb; rw [List.getElem?_eq_none h]; rfl
theorem lb_ok {l : List Int} (h : okL l) (i : Nat) : 0 ≤ lb l i ∧ lb l i < 1000000000 := by
 unfold lb
 cases hx : l[i]? with
 | none=>simp
 | some x=>exact okL_get h hx
theorem val_take_lb (l : List Int) (i : Nat) : val (l.take (i + 1)) = val (l.take i) + lb l i * pw i := by
 cases hx : l[i]? with
 | none =>
  have hl : l.length ≤ i := by simpa using hx
  rw [lb_out hl,List.take_of_length_le (by omega),List.take_of_length_le hl]; omega
 | some x=>rw [lb_of hx]; exact val_take_one hx
theorem val_take_all {l : List Int} {n : Nat} (h : l.length ≤ n) : val (l.take n) = val l := by rw [List.take_of_length_le h]
theorem val_drop_lb (l : List Int) (i : Nat) : val (l.drop i) = lb l i + 1000000000 * val (l.drop (i + 1)) := by
 cases hx : l[i]? with
 | none =>
  have hl : l.length ≤ i := by simpa using hx
  rw [lb_out hl,List.drop_of_length_le hl,List.drop_of_length_le (show l.length ≤ i + 1 by omega)]; rfl
 | some x=>rw [lb_of hx]; exact val_drop_one hx
theorem val_take_set {l : List Int} {i : Nat} {x : Int} (h : i < l.length) : val ((l.set i x).take (i + 1)) = val (l.take i) + x * pw i := by
 have h1 : (l.set i x)[i]? = some x := by simp [h]
 rw [val_take_one h1,List.take_set,List.set_eq_of_length_le (by rw [List.length_take]; omega)]
theorem drop_set_gt {l : List Int} {i j : Nat} {x : Int} (h : i < j) : (l.set i x).drop j = l.drop j := List.drop_set_of_lt h
theorem val_drop_set {l : List Int} {i : Nat} {x : Int} (h : i < l.length) : val ((l.set i x).drop i) = x + 1000000000 * val (l.drop (i + 1)) := by
 have h1 : (l.set i x)[i]? = some x := by simp [h]
 rw [val_drop_one h1,drop_set_gt (by omega)]
theorem gt_l {l : List Int} {i : Nat} (h : i < l.length) : gt l (i : Int) = some (lb l i) := by
 have h1 : l[i]? = some l[i] := List.getElem?_eq_getElem h
 rw [gt_k h1,lb_of h1]
theorem lb_drop (l : List Int) (k j : Nat) : lb (l.drop k) j = lb l (k + j) := by unfold lb; rw [List.getElem?_drop]
theorem lb_of_drop {u w : List Int} {i : Nat} (h : u.drop i = w.drop i) : lb u i = lb w i := by
 have h1 := lb_drop u i 0
 rw [h,lb_drop w i 0,Nat.add_zero] at h1
 exact h1.symm
theorem drop_succ_eq {u w : List Int} {i : Nat} (h : u.drop i = w.drop i) : u.drop (i + 1) = w.drop (i + 1) := by
 rw [← List.drop_drop,h,List.drop_drop]
def sg (z : Int) : Int := if z < 0 then -1 else if 0 < z then 1 else 0
theorem sg_neg {z : Int} (h : z < 0) : sg z = -1 := by unfold sg; rw [if_pos h]
theorem sg_pos {z : Int} (h : 0 < z) : sg z = 1 := by unfold sg; rw [if_neg (by omega),if_pos h]
theorem sg_zero {z : Int} (h : z = 0) : sg z = 0 := by unfold sg; rw [if_neg (by omega),if_neg (by omega)]
theorem cmp_loop {y1 y2 : List Int} (h1 : okL y1) (h2 : okL y2) (hl : y1.length = y2.length) (hs : y1.length ≤ 1000000) : (bindX (loopX (fun (v1 : Int) =>
          if (decide (v1 ≥ 0)) = true then
            bindO (gt y1 v1) fun (e1 : Int) =>
            bindO (gt y2 v1) fun (e2 : Int) =>
            if (decide (e1 < e2)) = true then
              some (.ret (.ret (-1)))
            else
              if (decide (e1 > e2)) = true then
                some (.ret (.ret 1))
              else
                some (.go (IntKind.i64.wrap (v1 - 1)))
          else
            some (.ret (.go ()))) fuel (IntKind.i64.wrap ((y1.length : Int) - 1))) fun (v2 : Unit) =>
    some 0) = some (sg (val y1 - val y2)) := by
  have key : Tot (bindX (loopX (fun (v1 : Int) =>
          if (decide (v1 ≥ 0)) = true then
            bindO (gt y1 v1) fun (e1 : Int) =>
            bindO (gt y2 v1) fun (e2 : Int) =>
            if (decide (e1 < e2)) = true then
              some (.ret (.ret (-1)))
            else
              if (decide (e1 > e2)) = true then
                some (.ret (.ret 1))
              else
                some (.go (IntKind.i64.wrap (v1 - 1)))
          else
            some (.ret (.go ()))) fuel (IntKind.i64.wrap ((y1.length : Int) - 1))) fun (v2 : Unit) =>
    some (0 : Int)) (fun e=>e = sg (val y1 - val y2)) := by
    refine Tot.bindX (E := fun _=>y1 = y2) (TotX.of (Tot.loop (fun m (v : Int)=>v = (m : Int) - 1 ∧ m ≤ y1.length ∧ y1.drop m = y2.drop m) _ y1.length (fuel_gt (by omega)) ⟨by rw [wI64 (by omega) (by omega)],Nat.le_refl _,by rw [List.drop_of_length_le (Nat.le_refl _),List.drop_of_length_le (by omega)]⟩ (fun m v hv=>?_))) (fun _ h=>.ok (by rw [h,sg_zero (by omega)]))
    obtain ⟨rfl,hm,hd⟩ := hv
    cases m with
    | zero=>exact TotX.ite (fun q=>by simp at q) (fun _=>.ret (by simpa using hd))
    | succ m =>
      have e1 : ((m + 1 : Nat) : Int) - 1 = (m : Int) := by omega
      rw [e1]
      have hx : y1[m]? = some y1[m] := List.getElem?_eq_getElem (by omega)
      have hy : y2[m]? = some y2[m] := List.getElem?_eq_getElem (by omega)
      generalize y1[m] = x at hx
      generalize y2[m] = y at hy
      refine TotX.ite (fun _=>?_) (fun q=>absurd q (by simp))
      rw [gt_k hx,bindO_s,gt_k hy,bindO_s]
      refine TotX.ite (fun q=>.ret ?_) (fun q=>TotX.ite (fun q2=>.ret ?_) (fun q2=>.go ⟨m,by omega,by rw [wI64 (by omega) (by omega)],by omega,?_⟩))
      · have := val_cmp_at h1 h2 hx hy hd (by simpa using q)
        exact (sg_neg (by omega)).symm
      · have := val_cmp_at h2 h1 hy hx hd.symm (by simpa using q2)
        exact (sg_pos (by omega)).symm
      · have hxy : x = y := by simp at q q2; omega
        have l1 := getElem_lt hx; have l2 := getElem_lt hy
        rw [List.drop_eq_getElem_cons l1,List.drop_eq_getElem_cons l2,hd]
        rw [List.getElem?_eq_getElem l1] at hx; rw [List.getElem?_eq_getElem l2] at hy
        injection hx with hx; injection hy with hy
        rw [hx,hy,hxy]
  obtain ⟨e,he,rfl⟩ := key
  exact he
theorem cmp_len {a b : List Int} (ha : okL a) (hb : okL b) (ta : trm a = a) (tb : trm b = b) (la : a.length ≤ 1000000) : r01_compare a b = some (sg (val a - val b)) := by
 unfold r01_compare
 by_cases h : (a.length : Int) = (b.length : Int)
 ·have : ((a.length : Int) != (b.length : Int)) = false := by simp [h]
  rw [this]
  exact cmp_loop ha hb (by omega) la
 ·have : ((a.length : Int) != (b.length : Int)) = true := by simpa using h
  rw [this,if_pos rfl]
  by_cases h2 : (a.length : Int) < b.length
  ·rw [if_pos (decide_eq_true h2),sg_neg]
   have := val_lt_of_len ha hb tb (by omega)
   omega
  ·rw [if_neg (by simpa using h2),sg_pos]
   have := val_lt_of_len hb ha ta (by omega)
   omega
end Go.Proofs.YthljcnchaopncaaGreatDoor
namespace Go.Proofs.YthljcnchaopncaaGreatDoor
open Go.RowKit
set_option linter.unusedVariables false
set_option linter.unusedSimpArgs false
def win (u : List Int) (k j : Nat) : Int := val ((u.drop k).take j)
theorem win_zero (u : List Int) (k : Nat) : win u k 0 = 0 := by unfold win; simp [val]
end Go.Proofs.YthljcnchaopncaaGreatDoor
namespace Go.Proofs.YthljcnchaopncaaGreatDoor
open Go.RowKit
theorem euclid_half {x y : Nat} (h : y ≤ x) (hy : 0 < y) : 2 * (y * (x % y)) ≤ x * y := by
 have h1 := Nat.mod_lt x hy
 have h2 : 2 * (x % y) ≤ x := by
  have := Nat.div_add_mod x y
  have h3 : 1 ≤ x / y := (Nat.le_div_iff_mul_le hy).2 (by omega)
  have h4 : y * 1 ≤ y * (x / y) := Nat.mul_le_mul (Nat.le_refl _) h3
  omega
 calc 2 * (y * (x % y)) = (2 * (x % y)) * y := by grind
  _ ≤ x * y := Nat.mul_le_mul h2 (Nat.le_refl _)
theorem den_pos (a : Rat) : 0 < (a.den : Int) := by have := a.den_pos; omega
theorem mul_den (a : Rat) : a * ((a.den : Int) : Rat) = ((a.num : Int) : Rat) := by
 have h : Rat.divInt a.num a.den = a := Rat.num_divInt_den a
 have h2 : (((a.den : Int)) : Rat) ≠ 0 := by
  have := den_pos a
  intro h; have := Rat.intCast_eq_zero_iff.1 h; omega
 rw [Rat.divInt_eq_div] at h
 conv=>lhs; lhs; rw [← h]
 exact Rat.div_mul_cancel h2
theorem divInt_parts {n d : Int} (h : 0 < d) : (Rat.divInt n d).num = n / (Int.gcd n d : Int) ∧ ((Rat.divInt n d).den : Int) = d / (Int.gcd n d : Int) := by
 constructor
 ·rw [Rat.num_divInt,Int.sign_eq_one_of_pos h,Int.one_mul,Int.gcd_comm]
 ·rw [Rat.den_divInt,if_neg (by omega),Int.gcd_comm,Int.natCast_ediv,Int.natAbs_of_nonneg (by omega)]
theorem divInt_neg2 (n d : Int) : Rat.divInt (-n) (-d) = Rat.divInt n d := Rat.neg_divInt_neg n d
theorem mkRat_divInt (n : Int) (d : Nat) : mkRat n d = Rat.divInt n (d : Int) := (Rat.divInt_ofNat n d).symm
theorem add_divInt (a b : Rat) : Rat.divInt (a.num * b.den + b.num * a.den) ((a.den : Int) * b.den) = a + b := by
 rw [Rat.add_def',mkRat_divInt,Int.natCast_mul]
theorem mul_divInt (a b : Rat) : Rat.divInt (a.num * b.num) ((a.den : Int) * b.den) = a * b := by
 rw [Rat.mul_def',mkRat_divInt,Int.natCast_mul]
theorem div_divInt (a b : Rat) : Rat.divInt (a.num * b.den) ((a.den : Int) * b.num) = a / b := by
 rw [Rat.div_def,Rat.inv_def,← Rat.divInt_mul_divInt,Rat.num_divInt_den]
theorem gcd_dvd_div {n d : Int} (h : d ≠ 0) : 0 < (Int.gcd n d : Int) := by
 have := Int.gcd_pos_of_ne_zero_right n h
 omega
theorem mul_int (q : Rat) (k : Int) : q * (k : Rat) = Rat.divInt (q.num * k) q.den := by
 rw [← mul_divInt]
 show Rat.divInt (q.num * k) ((q.den : Int) * 1) = _
 rw [Int.mul_one]
theorem den_one {q : Rat} {k : Int} : (q * (k : Rat)).den = 1 ↔ (q.den : Int) ∣ k := by
 have hd := den_pos q
 constructor
 ·intro h
  rw [mul_int,Rat.den_divInt,if_neg (by omega)] at h
  have h1 : (q.den : Int).natAbs = Int.gcd (q.den : Int) (q.num * k) := by
   have h2 : Int.gcd (q.den : Int) (q.num * k) ∣ (q.den : Int).natAbs := Int.gcd_dvd_natAbs_left ..
   have h3 := Nat.div_mul_cancel h2
   rw [h] at h3
   omega
  have h2 : (q.den : Int) ∣ q.num * k := by
   have := Int.gcd_dvd_right (q.den : Int) (q.num * k)
   rw [← h1,Int.natAbs_natCast] at this
   exact this
  have h3 : q.den ∣ q.num.natAbs * k.natAbs := by
   have := Int.natAbs_dvd_natAbs.2 h2
   rwa [Int.natAbs_natCast,Int.natAbs_mul] at this
  have h4 := Nat.Coprime.dvd_of_dvd_mul_left (Nat.Coprime.symm q.reduced) h3
  exact Int.natAbs_dvd_natAbs.1 (by rwa [Int.natAbs_natCast])
 ·rintro ⟨c,rfl⟩
  rw [mul_int,show q.num * ((q.den : Int) * c) = (q.den : Int) * (q.num * c) by grind]
  conv=>lhs; rw [show (q.den : Int) = (q.den : Int) * 1 by omega]
  rw [show Rat.divInt ((q.den : Int) * 1 * (q.num * c)) ((q.den : Int) * 1) = Rat.divInt ((q.den : Int) * (q.num * c)) ((q.den : Int) * 1) by rw [Int.mul_one]]
  rw [Rat.divInt_mul_left (by omega)]
  exact congrArg Rat.den (Rat.num_divInt_den ((q.num * c : Int) : Rat))
end Go.Proofs.YthljcnchaopncaaGreatDoor
namespace Go.Proofs.YthljcnchaopncaaGreatDoor
open Go.RowKit
set_option linter.unusedVariables false
set_option linter.unusedSimpArgs false
theorem val_one (x : Int) : val [x] = x := by simp [val]
theorem top_pos {v : List Int} {n : Nat} (hV : okL v) (tV : trm v = v) (hl : v.length = n + 1) : 1 ≤ lb v n := by
 have h1 : v[n]? = some v[n] := List.getElem?_eq_getElem (by omega)
 have hg : v.getLast? = some v[n] := by rw [List.getLast?_eq_getElem?,show v.length - 1 = n by omega]; exact h1
 have h2 := last_trm tV hg
 have h3 := lb_ok hV n
 rw [lb_of h1] at h3 ⊢
 omega
theorem div_last {t r s X : Int} (h : t * s + r = s * X) (h0 : 0 ≤ r) (h1 : r < s) : t = X := by
 have e3 : s * (X - t) = r := by
  have : s * (X - t) = s * X - t * s := by grind
  omega
 have d0 : X - t = 0 := by
  generalize X - t = d at *
  rcases Int.lt_trichotomy d 0 with z | z | z
  ·have := Int.mul_le_mul_of_nonneg_left (show d ≤ -1 by omega) (show 0 ≤ s by omega); omega
  ·exact z
  ·have := Int.mul_le_mul_of_nonneg_left (show 1 ≤ d by omega) (show 0 ≤ s by omega); omega
 omega
theorem sg_dec {z : Int} : decide (sg z < 0) = decide (z < 0) := by
 apply decide_eq_decide.2
 unfold sg
 split
 ·simp; omega
 ·split
  ·simp; omega
  ·simp; omega
end Go.Proofs.YthljcnchaopncaaGreatDoor
namespace Go.Proofs.YthljcnchaopncaaGreatDoor
open Go.RowKit
set_option linter.unusedVariables false
set_option linter.unusedSimpArgs false
theorem Tot.get {α : Type} {m : Option α} {x : α} (h : Tot m (fun e=>e = x)) : m = some x := by
 obtain ⟨e,h1,rfl⟩ := h; exact h1
def Bd (n : Nat) (z : Int) : Prop := (z.natAbs : Int) < pw n
theorem Bd.mono {n m : Nat} {z : Int} (h : Bd n z) (hm : n ≤ m) : Bd m z := Int.lt_of_lt_of_le h (pw_mono hm)
theorem Bd.len {n : Nat} {z : Int} (h : Bd n z) : (ofI z).Limbs.length ≤ n := ofI_len h
theorem Bd.neg {n : Nat} {z : Int} (h : Bd n z) : Bd n (-z) := by unfold Bd at *; rw [Int.natAbs_neg]; exact h
theorem Bd.le {n : Nat} {a b : Int} (h : Bd n b) (hb : a.natAbs ≤ b.natAbs) : Bd n a := by unfold Bd at *; omega
theorem Bd.add {n m : Nat} {a b : Int} (ha : Bd n a) (hb : Bd m b) : Bd (max n m + 1) (a + b) := by
 have h1 : Bd (max n m) a := ha.mono (Nat.le_max_left _ _)
 have h2 : Bd (max n m) b := hb.mono (Nat.le_max_right _ _)
 unfold Bd at *
 rw [pw_succ]
 omega
theorem Bd.mul {n m : Nat} {a b : Int} (ha : Bd n a) (hb : Bd m b) : Bd (n + m) (a * b) := by
 unfold Bd at *
 rw [Int.natAbs_mul,pw_add,Int.natCast_mul]
 have h1 : (a.natAbs : Int) * b.natAbs ≤ pw n * b.natAbs := Int.mul_le_mul_of_nonneg_right (Int.le_of_lt ha) (by omega)
 have h2 : pw n * (b.natAbs : Int) < pw n * pw m := Int.mul_lt_mul_of_pos_left hb (pw_pos n)
 omega
theorem Bd.i64 {z : Int} (h : -9223372036854775808 ≤ z) (h2 : z ≤ 9223372036854775807) : Bd 3 z := by unfold Bd; simp only [pw]; omega
theorem Bd.ediv {n : Nat} {a b : Int} (ha : Bd n a) (hb : 0 < b) : Bd n (a / b) := by
 refine ha.le ?_
 rcases Int.le_total 0 a with h | h
 ·have h1 := Int.ediv_nonneg h (Int.le_of_lt hb)
  have h2 := Int.ediv_le_self b h
  omega
 ·have h1 : a ≤ a / b := by
   rw [Int.le_ediv_iff_mul_le hb]
   have := Int.mul_le_mul_of_nonneg_left (show 1 ≤ b by omega) (show 0 ≤ -a by omega)
   rw [Int.neg_mul,Int.neg_mul] at this
   omega
  have h2 : a / b ≤ 0 := by
   rcases Int.lt_or_le 0 (a / b) with z | z
   ·have := (Int.le_ediv_iff_mul_le (a := 1) (b := a) hb).1 (by omega)
    omega
   ·exact z
  omega
theorem Bd.emod {n : Nat} {a b : Int} (hb : Bd n b) (h : 0 < b) : Bd n (a % b) := by
 have h1 := Int.emod_nonneg a (show b ≠ 0 by omega)
 have h2 := Int.emod_lt_of_pos a h
 exact hb.le (by omega)
theorem Bd.toNat {n : Nat} {a : Nat} (h : Bd n (a : Int)) : (a : Int) < pw n := by unfold Bd at h; omega
theorem ofI_negv (z : Int) : (ofI z).Neg = decide (z < 0) := rfl
theorem dec_beq {p q : Prop} [Decidable p] [Decidable q] : ((decide p == decide q) = true) ↔ (p ↔ q) := by
 by_cases hp : p <;> by_cases hq : q <;> simp [hp,hq]
theorem ofI_congr {a b : Int} (h : a = b) : ofI a = ofI b := by rw [h]
theorem wrap_u64' (n : Int) : IntKind.u64.wrap n = n % 18446744073709551616 := by
 unfold IntKind.wrap; simp [IntKind.signed,IntKind.bits]
theorem abs_u64 {n : Int} (h : -9223372036854775808 ≤ n) (h2 : n ≤ 9223372036854775807) (h3 : n < 0) : IntKind.u64.wrap (0 - (IntKind.u64.wrap n)) = (n.natAbs : Int) := by
 rw [wrap_u64',wrap_u64']; omega
theorem mul_sign {a b : Int} : (if (!(decide (a < 0) == decide (b < 0))) = true then -((a.natAbs : Int) * b.natAbs) else (a.natAbs : Int) * b.natAbs) = a * b := by
 by_cases h1 : a < 0 <;> by_cases h2 : b < 0
 ·rw [decide_eq_true h1,decide_eq_true h2]
  simp only [beq_self_eq_true,Bool.not_true,Bool.false_eq_true,if_false]
  rw [show (a.natAbs : Int) = -a by omega,show (b.natAbs : Int) = -b by omega,Int.neg_mul_neg]
 ·rw [decide_eq_true h1,decide_eq_false h2]
  rw [show (a.natAbs : Int) = -a by omega,show (b.natAbs : Int) = b by omega]
  simp [Int.neg_mul]
 ·rw [decide_eq_false h1,decide_eq_true h2]
  rw [show (a.natAbs : Int) = a by omega,show (b.natAbs : Int) = -b by omega]
  simp [Int.mul_neg]
 ·rw [decide_eq_false h1,decide_eq_false h2]
  simp only [beq_self_eq_true,Bool.not_true,Bool.false_eq_true,if_false]
  rw [show (a.natAbs : Int) = a by omega,show (b.natAbs : Int) = b by omega]
theorem ofI_len0 {z : Int} : (ofI z).Limbs.length = 0 ↔ z = 0 := by rw [List.length_eq_zero_iff]; exact ofI_nil
end Go.Proofs.YthljcnchaopncaaGreatDoor
namespace Go.Proofs.YthljcnchaopncaaGreatDoor
open Go.RowKit
set_option linter.unusedVariables false
set_option linter.unusedSimpArgs false
theorem pw_two : ∀ n : Nat,pw n ≤ ((2 ^ (30 * n) : Nat) : Int)
 | 0=>by simp [pw]
 | n + 1=>by
  have h := pw_two n
  have h0 := pw_pos n
  rw [pw_succ,show 30 * (n + 1) = 30 * n + 30 by omega,Nat.pow_add]
  rw [Int.natCast_mul]
  have : (1073741824 : Nat) = 2 ^ 30 := rfl
  rw [← this]
  omega
theorem gcd_step (x y : Nat) : Nat.gcd y (x % y) = Nat.gcd x y := by
 rw [Nat.gcd_comm x y,Nat.gcd_rec y x,Nat.gcd_comm]
theorem gcd_loop (x y : Nat) (hy : y ≤ 9223372036854775807) : loopX (fun (v2 : Int × Int) =>
      if (decide (v2.2 > 0)) = true then
        guardO (!(v2.2 == 0)) (
        some (.go (v2.2,Int.tmod v2.1 v2.2)))
      else
        some (.ret v2.1)) fuel ((x : Int),(y : Int)) = some ((Nat.gcd x y : Nat) : Int) := by
  apply Tot.get
  refine Tot.loop (fun m v=>∃ a : Nat,v = ((a : Int),(m : Int)) ∧ Nat.gcd a m = Nat.gcd x y) _ y (fuel_gt hy) ⟨x,rfl,rfl⟩ (fun m v hv=>?_)
  obtain ⟨a,rfl,h⟩ := hv
  dsimp only
  cases m with
  | zero=>exact TotX.ite (fun q=>absurd q (by simp)) (fun _=>.ret (by rw [← h,Nat.gcd_zero_right]))
  | succ m =>
    refine TotX.ite (fun _=>TotX.guard (by simp; omega) (.go ⟨a % (m + 1),Nat.mod_lt _ (by omega),m + 1,?_,?_⟩)) (fun q=>absurd q (by simp))
    · rw [tmd (by omega)]; rfl
    · rw [gcd_step]; exact h
def eucM (m x y : Nat) : Prop := (y ≤ x ∧ x * y < 2 ^ m) ∨ (1 ≤ m ∧ x * y < 2 ^ (m - 1))
theorem eucM_step {m x y : Nat} (h : eucM m x y) (hy : 0 < y) : ∃ m',m' < m ∧ eucM m' y (x % y) := by
 have key : ∀ k,y ≤ x → x * y < 2 ^ k → ∃ m',m' < k ∧ eucM m' y (x % y) := by
  intro k h1 h2
  have h3 := euclid_half h1 hy
  have h4 : 1 ≤ x * y := Nat.mul_pos (by omega) hy
  have hk : k ≠ 0 := fun z=>by subst z; simp at h2; omega
  obtain ⟨j,rfl⟩ := Nat.exists_eq_succ_of_ne_zero hk
  refine ⟨j,by omega,.inl ⟨Nat.le_of_lt (Nat.mod_lt _ hy),?_⟩⟩
  have : 2 ^ (j.succ) = 2 * 2 ^ j := by rw [Nat.pow_succ]; omega
  omega
 rcases h with ⟨h1,h2⟩ | ⟨h1,h2⟩
 ·exact key m h1 h2
 ·rcases Nat.lt_or_ge x y with q | q
  ·refine ⟨m - 1,by omega,.inl ⟨Nat.le_of_lt (Nat.mod_lt _ hy),?_⟩⟩
   rw [Nat.mod_eq_of_lt q,Nat.mul_comm]; exact h2
  ·obtain ⟨m',h3,h4⟩ := key (m - 1) q h2
   exact ⟨m',by omega,h4⟩
theorem euc_start {n x y : Nat} (hx : Bd n (x : Int)) (hy : Bd n (y : Int)) : eucM (60 * n + 1) x y := by
 refine .inr ⟨by omega,?_⟩
 have h1 := pw_two n
 unfold Bd at hx hy
 rw [Int.natAbs_natCast] at hx hy
 rw [show 60 * n + 1 - 1 = 30 * n + 30 * n by omega,Nat.pow_add]
 exact Nat.mul_lt_mul_of_lt_of_lt (by omega) (by omega)
theorem Bd.gcd {n : Nat} {a b : Int} (hb : Bd n b) (h0 : b ≠ 0) : Bd n ((Int.gcd a b : Nat) : Int) := by
 refine hb.le ?_
 have := Nat.gcd_le_right a.natAbs (show 0 < b.natAbs by omega)
 unfold Int.gcd
 rw [Int.natAbs_natCast]; exact this
end Go.Proofs.YthljcnchaopncaaGreatDoor
namespace Go.Proofs.YthljcnchaopncaaGreatDoor
open Go.RowKit
set_option linter.unusedVariables false
set_option linter.unusedSimpArgs false
theorem r01_trim_eq (l : List Int) (hl : l.length ≤ 1000000) : r01_trim l = some (trm l) := by
 have key : Tot (r01_trim l) (fun e=>e = trm l) := by
  unfold r01_trim
  refine Tot.bind (E := fun e=>e = trm l) (Tot.loop (fun m (v : List Int)=>v = l.take m ∧ m ≤ l.length ∧ trm v = trm l) _ l.length (fuel_gt (by omega)) ⟨by simp,by omega,rfl⟩ (fun m v hv=>?_)) (fun v hv=>.ok hv)
  obtain ⟨rfl,h1,h2⟩ := hv
  have hlen : (l.take m).length = m := by simp; omega
  rw [hlen]
  cases m with
  | zero =>
   refine TotX.bind (E := fun b=>b = false) (Tot.ite (fun q=>by simp at q) (fun _=>.ok rfl)) (fun b hb=>?_)
   subst hb
   refine TotX.ite (fun q=>by cases q) (fun _=>.ret ?_)
   rw [← h2]; simp [trm]
  | succ m =>
   have hx : l[m]? = some l[m] := List.getElem?_eq_getElem (by omega)
   generalize l[m] = x at hx
   have hx2 : (l.take (m + 1))[m]? = some x := by rw [List.getElem?_take,if_pos (by omega)]; exact hx
   rw [wrap_i64 (by omega) (by omega),show ((m + 1 : Nat) : Int) - 1 = (m : Int) by omega,gt_k hx2,bindO_s]
   refine TotX.bind (E := fun b=>b = (x == 0)) (Tot.ite (fun _=>.ok rfl) (fun q=>absurd q (by simp))) (fun b hb=>?_)
   subst hb
   refine TotX.ite (fun q=>?_) (fun q=>.ret ?_)
   ·have : x = 0 := by simpa using q
    subst this
    rw [cutT_k (by rw [hlen]; omega),bindO_s]
    refine .go ⟨m,by omega,by rw [List.take_take,Nat.min_eq_left (by omega)],by omega,?_⟩
    rw [List.take_take,Nat.min_eq_left (by omega),← h2,trm_take0 hx]
   ·have h0 : x ≠ 0 := by simpa using q
    rw [← h2,trm_takeN hx h0]
 obtain ⟨e,he,rfl⟩ := key
 exact he
theorem r01_trim_toL {l : List Int} (h : okL l) (hl : l.length ≤ 1000000) : r01_trim l = some (toL (val l).toNat) := by rw [r01_trim_eq l hl,trm_toL h]
theorem r01_signed_eq (neg : Bool) (l : List Int) (hl : l.length ≤ 1000000) (ho : okL l) : r01_signed neg l = some (ofI (if neg = true then -val l else val l)) := by
 unfold r01_signed
 rw [r01_trim_eq l hl,bindO_s,← signed_eq ho]
 congr 3
 apply decide_eq_decide.2
 constructor
 ·intro h z; rw [z] at h; simp at h
 ·intro h; have := List.length_pos_iff.2 h; omega
theorem r01_short_eq {l : List Int} (ho : okL l) (hl : l.length ≤ 1000000) (hv : val l < 18446744073709551616) : r01_short l = some (val l) := by
 apply Tot.get
 unfold r01_short
 refine Tot.bind (E := fun u=>u = val l) (Tot.loop (fun m v=>v.2 = (m : Int) - 1 ∧ m ≤ l.length ∧ v.1 = val (l.drop m)) _ l.length (fuel_gt (by omega)) ⟨by rw [wI64 (by omega) (by omega)],Nat.le_refl _,by simp [val]⟩ (fun m v hw=>?_)) (fun u hu=>.ok hu)
 obtain ⟨a,i⟩ := v
 dsimp only at hw ⊢
 obtain ⟨rfl,h1,rfl⟩ := hw
 cases m with
 | zero=>exact TotX.ite (fun q=>absurd q (by simp)) (fun _=>.ret (by simp))
 | succ m =>
  have e1 : ((m + 1 : Nat) : Int) - 1 = (m : Int) := by omega
  rw [e1]
  refine TotX.ite (fun _=>?_) (fun q=>absurd q (by simp))
  have hx := lb_ok ho m
  have hd := val_drop_lb l m
  have hb := val_bound (okL_drop (m + 1) ho)
  have ht : val (l.drop m) ≤ val l := by
   have h2 := val_take_drop l m (by omega)
   have h3 := (val_bound (okL_take m ho)).1
   have h4 := (val_bound (okL_drop m ho)).1
   have h5 := Int.mul_le_mul_of_nonneg_right (show 1 ≤ pw m from pw_pos m) h4
   omega
  rw [gt_l (show m < l.length by omega),bindO_s,wU64 (n := val (l.drop (m + 1)) * 1000000000) (by omega) (by omega),wU64 (n := lb l m) (by omega) (by omega),wU64 (by omega) (by omega),wI64 (by omega) (by omega)]
  exact .go ⟨m,by omega,rfl,by omega,by dsimp only; omega⟩
theorem r01_limbs_eq {n : Int} (h0 : 0 ≤ n) (h : n < 18446744073709551616) : r01_limbs n = some (toL n.toNat) := by
 apply Tot.get
 unfold r01_limbs
 refine Tot.bind (E := fun u=>u = toL n.toNat) (Tot.loop (fun m v=>v.1 = (m : Int) ∧ m < 18446744073709551616 ∧ okL v.2 ∧ val v.2 + pw v.2.length * v.1 = n ∧ (m = 0 → trm v.2 = v.2) ∧ v.2.length ≤ 3 ∧ v.1 * pw v.2.length ≤ n ∧ pw v.2.length ≤ 1000000000 * n + 1 ∧ (m ≠ 0 → pw v.2.length ≤ n)) _ n.toNat (by unfold fuel; omega) ⟨by dsimp only; omega,by omega,okL_nil,by simp [val,pw],fun _=>rfl,by simp,by simp [pw],by simp only [List.length_nil,pw]; omega,fun _=>by simp only [List.length_nil,pw]; omega⟩ (fun m v hw=>?_)) (fun u hu=>.ok hu)
 obtain ⟨a,l⟩ := v
 dsimp only at hw ⊢
 obtain ⟨rfl,hm,h1,h2,h3,h4,h5,h6,h7⟩ := hw
 have hp := pw_pos l.length
 cases m with
 | zero =>
  refine TotX.ite (fun q=>absurd q (by simp)) (fun _=>.ret ?_)
  have h8 := toL_of h1 (h3 rfl)
  rw [show val l = n by simpa using h2] at h8
  exact h8
 | succ m =>
  refine TotX.ite (fun _=>?_) (fun q=>absurd q (by simp))
  have h7' := h7 (by omega)
  have hl3 : l.length ≤ 2 := by
   rcases Nat.lt_or_ge 2 l.length with z | z
   ·exfalso
    rw [show l.length = 3 by omega] at h7'
    simp only [pw] at h7'
    omega
   ·exact z
  refine TotX.guard (okLen_of (by omega)) ?_
  rw [tdv (by omega),tmd (by omega),wU64 (by omega) (by omega),wU32 (by omega) (by omega)]
  have e := Int.emod_add_mul_ediv (((m + 1 : Nat) : Int)) 1000000000
  have hl : (l ++ [((m + 1 : Nat) : Int) % 1000000000]).length = l.length + 1 := by simp
  have hmul : pw l.length * (((m + 1 : Nat) : Int) / 1000000000) * 1000000000 ≤ ((m + 1 : Nat) : Int) * pw l.length := by
   have : 1000000000 * (((m + 1 : Nat) : Int) / 1000000000) ≤ ((m + 1 : Nat) : Int) := by omega
   have := Int.mul_le_mul_of_nonneg_right this (Int.le_of_lt hp)
   have e2 : 1000000000 * (((m + 1 : Nat) : Int) / 1000000000) * pw l.length = pw l.length * (((m + 1 : Nat) : Int) / 1000000000) * 1000000000 := by grind
   omega
  refine .go ⟨(m + 1) / 1000000000,by omega,by dsimp only; omega,by omega,okL_append.2 ⟨h1,okL_cons.2 ⟨by omega,okL_nil⟩⟩,?_,?_,by dsimp only; omega,?_,?_,?_⟩
  ·dsimp only
   rw [hl,val_append,val_one,pw_succ]
   generalize ((m + 1 : Nat) : Int) % 1000000000 = r at *
   generalize ((m + 1 : Nat) : Int) / 1000000000 = d at *
   rw [← h2,← e]; grind
  ·intro z
   exact trm_last (x := ((m + 1 : Nat) : Int) % 1000000000) (by simp) (by omega)
  ·dsimp only
   rw [hl,pw_succ]
   have e2 : ((m + 1 : Nat) : Int) / 1000000000 * (1000000000 * pw l.length) = pw l.length * (((m + 1 : Nat) : Int) / 1000000000) * 1000000000 := by grind
   omega
  ·dsimp only
   rw [hl,pw_succ]; omega
  ·intro z
   dsimp only
   rw [hl,pw_succ]
   have h8 : 1 ≤ ((m + 1 : Nat) : Int) / 1000000000 := by omega
   have h9 := Int.mul_le_mul_of_nonneg_left h8 (show 0 ≤ pw l.length * 1000000000 by omega)
   have e2 : pw l.length * 1000000000 * (((m + 1 : Nat) : Int) / 1000000000) = pw l.length * (((m + 1 : Nat) : Int) / 1000000000) * 1000000000 := by grind
   omega
theorem r01_plus_eq {a b : List Int} (ha : okL a) (hb : okL b) (la : a.length ≤ 900000) (lb' : b.length ≤ 900000) : r01_plus a b = some (toL (val a + val b).toNat) := by
 apply Tot.get
 unfold r01_plus
 refine Tot.bind (E := fun p=>okL p.1 ∧ okL p.2 ∧ p.2.length ≤ p.1.length ∧ p.1.length ≤ max a.length b.length ∧ val p.1 + val p.2 = val a + val b) (Tot.ite (fun q=>.ok ⟨hb,ha,by simp at q; dsimp only; omega,by dsimp only; omega,by dsimp only; omega⟩) (fun q=>.ok ⟨ha,hb,by simp at q; dsimp only; omega,by dsimp only; omega,rfl⟩)) (fun p hp=>?_)
 obtain ⟨c,d⟩ := p
 dsimp only at hp ⊢
 obtain ⟨hc,hd,h1,h2,h3⟩ := hp
 have el : IntKind.i64.wrap ((c.length : Int) + 1) = ((c.length + 1 : Nat) : Int) := by rw [wI64 (by omega) (by omega)]; omega
 rw [el,Int.toNat_natCast]
 refine Tot.guard (decide_eq_true (by omega)) (Tot.guard (okLen_of (by omega)) ?_)
 refine Tot.bind (E := fun v=>okL v.2 ∧ v.2.length = c.length + 1 ∧ (v.1 = 0 ∨ v.1 = 1) ∧ val (v.2.take c.length) + v.1 * pw c.length = val c + val d) (Tot.guard (okIdx_of (by omega)) (Tot.range (fun i v=>okL v.2 ∧ v.2.length = c.length + 1 ∧ (v.1 = 0 ∨ v.1 = 1) ∧ val (v.2.take i) + v.1 * pw i = val (c.take i) + val (d.take i)) _ ⟨okL_rep _,by simp,.inl rfl,by simp [val]⟩ (fun i x v hx hr=>?_) (fun v hr=>?_))) (fun v hv=>?_)
 ·obtain ⟨k,out⟩ := v
  dsimp only at hr ⊢
  obtain ⟨r1,r2,r3,r4⟩ := hr
  have hx1 := okL_get hc hx
  have hil := getElem_lt hx
  have hy := lb_ok hd i
  refine TotX.bind (E := fun s=>s = x + k + lb d i) (Tot.ite (fun q=>?_) (fun q=>?_)) (fun s hs=>?_)
  ·have q' : i < d.length := by simp at q; omega
   rw [gt_l q',bindO_s]
   exact .ok (by rw [wU32 (n := k + x) (by omega) (by omega),wU32 (by omega) (by omega)]; omega)
  ·have q' : d.length ≤ i := by simp at q; omega
   exact .ok (by rw [wU32 (by omega) (by omega),lb_out q']; omega)
  ·rw [gt_l (show i < out.length by omega),bindO_s,Int.toNat_natCast,tdv (by omega),tmd (by omega),wU32 (by omega) (by omega)]
   refine .go ⟨okL_set r1 (by omega) (by omega),by simp [r2],by dsimp only; omega,?_⟩
   dsimp only
   rw [val_take_set (by omega),val_take_one hx,val_take_lb d i,pw_succ]
   have e := Int.emod_add_mul_ediv s 1000000000
   generalize s % 1000000000 = m at *
   generalize s / 1000000000 = q at *
   grind
 ·obtain ⟨r1,r2,r3,r4⟩ := hr
  exact .ok ⟨r1,r2,r3,by dsimp only; rw [r4,val_take_all (Nat.le_refl _),val_take_all (by omega)]⟩
 ·obtain ⟨k,out⟩ := v
  dsimp only at hv ⊢
  obtain ⟨r1,r2,r3,r4⟩ := hv
  have ho : okL (out.set c.length k) := okL_set r1 (by omega) (by omega)
  rw [gt_l (show c.length < out.length by omega),bindO_s,Int.toNat_natCast,r01_trim_toL ho (by simp; omega),bindO_s]
  refine .ok (congrArg toL (congrArg Int.toNat ?_))
  rw [← h3,← r4,← val_take_set (by omega),val_take_all (by simp; omega)]
theorem r01_minus_eq {a b : List Int} (ha : okL a) (hb : okL b) (la : a.length ≤ 900000) (lb' : b.length ≤ 900000) (h : val b ≤ val a) : r01_minus a b = some (toL (val a - val b).toNat) := by
 apply Tot.get
 unfold r01_minus
 refine Tot.guard (decide_eq_true (by omega)) (Tot.guard (okLen_of (by omega)) ?_)
 refine Tot.bind (E := fun v=>okL v ∧ val v = val a - val b ∧ v.length = a.length) (Tot.guard (okIdx_of (by omega)) (Tot.range (fun i v=>okL v.2 ∧ v.2.length = a.length ∧ (v.1 = 0 ∨ v.1 = 1) ∧ val (v.2.take i) - v.1 * pw i = val (a.take i) - val (b.take i)) _ ⟨okL_rep _,by simp,.inl rfl,by simp [val]⟩ (fun i x v hx hr=>?_) (fun v hr=>?_))) (fun v hv=>?_)
 ·obtain ⟨k,out⟩ := v
  dsimp only at hr ⊢
  obtain ⟨r1,r2,r3,r4⟩ := hr
  have hx1 := okL_get ha hx
  have hil := getElem_lt hx
  have hy := lb_ok hb i
  refine TotX.bind (E := fun s=>s = x + 1000000000 - k - lb b i) (Tot.ite (fun q=>?_) (fun q=>?_)) (fun s hs=>?_)
  ·have q' : i < b.length := by simp at q; omega
   rw [gt_l q',bindO_s]
   exact .ok (by rw [wU32 (n := x + 1000000000) (by omega) (by omega),wU32 (n := x + 1000000000 - k) (by omega) (by omega),wU32 (by omega) (by omega)])
  ·have q' : b.length ≤ i := by simp at q; omega
   exact .ok (by rw [lb_out q',wU32 (n := x + 1000000000) (by omega) (by omega),wU32 (by omega) (by omega)]; omega)
  ·refine TotX.bind (E := fun w=>(w.1 = 0 ∨ w.1 = 1) ∧ 0 ≤ w.2 ∧ w.2 < 1000000000 ∧ w.2 - 1000000000 * w.1 = x - k - lb b i) (Tot.ite (fun q=>.ok ?_) (fun q=>.ok ?_)) (fun w hw=>?_)
   ·simp only [ge_iff_le,decide_eq_true_eq] at q
    rw [wU32 (by omega) (by omega)]
    exact ⟨.inl rfl,by dsimp only; omega,by dsimp only; omega,by dsimp only; omega⟩
   ·simp only [ge_iff_le,decide_eq_false_iff_not] at q
    exact ⟨.inr rfl,by dsimp only; omega,by dsimp only; omega,by dsimp only; omega⟩
   ·obtain ⟨w1,w2⟩ := w
    dsimp only at hw ⊢
    obtain ⟨q1,q2,q3,q4⟩ := hw
    rw [gt_l (show i < out.length by omega),bindO_s,Int.toNat_natCast]
    refine .go ⟨okL_set r1 q2 q3,by simp [r2],q1,?_⟩
    rw [val_take_set (by omega),val_take_lb b i,val_take_one hx,pw_succ]
    grind
 ·obtain ⟨k,out⟩ := v
  dsimp only at hr ⊢
  obtain ⟨r1,r2,r3,r4⟩ := hr
  refine .ok ⟨r1,?_,r2⟩
  rw [val_take_all (by omega),val_take_all (Nat.le_refl _)] at r4
  have hb1 := val_bound r1
  have ha1 := val_bound ha
  have hbt := val_bound (okL_take a.length hb)
  have hbd := val_bound (okL_drop a.length hb)
  have hp := pw_pos a.length
  have hbb : val b = val (b.take a.length) := by
   rcases Nat.le_total b.length a.length with q | q
   ·rw [val_take_all q]
   ·have h1 := val_take_drop b a.length q
    rcases Int.lt_or_le 0 (val (b.drop a.length)) with z | z
    ·have := Int.mul_le_mul_of_nonneg_left (show 1 ≤ val (b.drop a.length) by omega) (Int.le_of_lt hp)
     omega
    ·rw [show val (b.drop a.length) = 0 by omega] at h1; omega
  rw [r2] at hb1
  rcases r3 with z | z
  ·subst z; omega
  ·subst z; omega
 ·obtain ⟨h1,h2,h3⟩ := hv
  rw [r01_trim_toL h1 (by omega),bindO_s,h2]
  exact .ok rfl
theorem r01_times_eq {a b : List Int} (ha : okL a) (hb : okL b) (la : a.length ≤ 500000) (lb' : b.length ≤ 500000) : r01_times a b = some (toL (val a * val b).toNat) := by
 apply Tot.get
 unfold r01_times
 have hlen : IntKind.i64.wrap ((a.length : Int) + (b.length : Int)) = ((a.length + b.length : Nat) : Int) := by rw [wI64 (by omega) (by omega)]; omega
 rw [hlen,Int.toNat_natCast]
 refine Tot.guard (decide_eq_true (by omega)) (Tot.guard (okLen_of (by omega)) ?_)
 refine Tot.bind (E := fun v=>okL v ∧ val v = val a * val b ∧ v.length = a.length + b.length) (Tot.guard (okIdx_of (by omega)) (Tot.range (fun i v=>okL v ∧ v.length = a.length + b.length ∧ val (v.take (i + b.length)) = val (a.take i) * val b) _ ⟨okL_rep _,by simp,?_⟩ (fun i x v hx hr=>?_) (fun v hr=>?_))) (fun v hv=>?_)
 ·have h1 : val ((List.replicate (a.length + b.length) (0 : Int)).take (0 + b.length)) = 0 := by
   rw [List.take_replicate]; exact val_rep _
  rw [h1]; simp [val]
 ·obtain ⟨r1,r2,r3⟩ := hr
  have hx1 := okL_get ha hx
  have hil := getElem_lt hx
  refine TotX.bind (E := fun u=>okL u ∧ u.length = a.length + b.length ∧ val (u.take (i + 1 + b.length)) = val (a.take (i + 1)) * val b) (Tot.bind (E := fun u=>okL u.2 ∧ u.2.length = a.length + b.length ∧ (0 ≤ u.1 ∧ u.1 < 1000000000) ∧ val (u.2.take (i + b.length)) + u.1 * pw (i + b.length) = val (v.take (i + b.length)) + x * val b * pw i) (Tot.guard (okIdx_of (by omega)) (Tot.range (fun k u=>okL u.2 ∧ u.2.length = a.length + b.length ∧ (0 ≤ u.1 ∧ u.1 < 1000000000) ∧ u.2.drop (i + k) = v.drop (i + k) ∧ val (u.2.take (i + k)) + u.1 * pw (i + k) = val (v.take (i + k)) + x * val (b.take k) * pw i) _ ⟨r1,r2,by dsimp only; omega,rfl,by simp [val]⟩ (fun k y u hy hu=>?_) (fun u hu=>?_))) (fun u hu=>?_)) (fun u hu=>.go hu)
  ·obtain ⟨c,out⟩ := u
   dsimp only at hu ⊢
   obtain ⟨u1,u2,u3,u4,u5⟩ := hu
   have hy1 := okL_get hb hy
   have hkl := getElem_lt hy
   have hik : IntKind.i64.wrap ((i : Int) + (k : Int)) = ((i + k : Nat) : Int) := by rw [wI64 (by omega) (by omega)]; omega
   rw [hik,Int.toNat_natCast,gt_l (show i + k < out.length by omega),bindO_s,bindO_s]
   have ho := lb_ok u1 (i + k)
   have hov : lb out (i + k) = lb v (i + k) := lb_of_drop u4
   have hm := mulB hx1 hy1
   rw [wU64 (n := x) (by omega) (by omega),wU64 (n := y) (by omega) (by omega),wU64 (n := x * y) (by omega) (by omega),wU64 (n := lb out (i + k)) (by omega) (by omega),wU64 (n := c + lb out (i + k)) (by omega) (by omega),wU64 (n := c + lb out (i + k) + x * y) (by omega) (by omega),tdv (by omega),tmd (by omega),wU64 (by omega) (by omega),wU32 (by omega) (by omega)]
   refine .go ⟨okL_set u1 (by omega) (by omega),by simp [u2],by dsimp only; omega,?_,?_⟩
   ·rw [drop_set_gt (by omega),← Nat.add_assoc]; exact drop_succ_eq u4
   ·rw [show i + (k + 1) = i + k + 1 by omega,val_take_set (by omega),val_take_lb v,val_take_one hy,pw_succ,← hov,pw_add]
    rw [pw_add] at u5
    have e := Int.emod_add_mul_ediv (c + lb out (i + k) + x * y) 1000000000
    generalize (c + lb out (i + k) + x * y) % 1000000000 = m at *
    generalize (c + lb out (i + k) + x * y) / 1000000000 = d at *
    grind
  ·obtain ⟨u1,u2,u3,u4,u5⟩ := hu
   exact .ok ⟨u1,u2,u3,by rw [u5,val_take_all (Nat.le_refl b.length)]⟩
  ·obtain ⟨c,out⟩ := u
   dsimp only at hu ⊢
   obtain ⟨u1,u2,u3,u5⟩ := hu
   have hik : IntKind.i64.wrap ((i : Int) + (b.length : Int)) = ((i + b.length : Nat) : Int) := by rw [wI64 (by omega) (by omega)]; omega
   rw [hik,Int.toNat_natCast,gt_l (show i + b.length < out.length by omega),bindO_s,wU32 (by omega) (by omega)]
   refine .ok ⟨okL_set u1 (by omega) (by omega),by simp [u2],?_⟩
   rw [show i + 1 + b.length = i + b.length + 1 by omega,val_take_set (by omega),u5,r3,val_take_one hx]
   grind
 ·obtain ⟨r1,r2,r3⟩ := hr
  refine .ok ⟨r1,?_,r2⟩
  rw [val_take_all (by omega),val_take_all (Nat.le_refl _)] at r3
  exact r3
 ·obtain ⟨h1,h2,h3⟩ := hv
  rw [r01_trim_toL h1 (by omega),bindO_s,h2]
  exact .ok rfl
theorem r01_by_eq {a : List Int} {s : Int} (ha : okL a) (la : a.length ≤ 500000) (h0 : 0 ≤ s) (h1 : s < 1000000000) : r01_by a s = some (toL (val a * s).toNat) := by
 have hS : okL [s] := okL_cons.2 ⟨⟨h0,h1⟩,okL_nil⟩
 unfold r01_by
 rw [r01_trim_eq _ (by simp),bindO_s,r01_times_eq ha (okL_trm hS) la (Nat.le_trans (trm_le _) (by simp)),bindO_s,val_trm,val_one]
end Go.Proofs.YthljcnchaopncaaGreatDoor
namespace Go.Proofs.YthljcnchaopncaaGreatDoor
open Go.RowKit
set_option linter.unusedVariables false
set_option linter.unusedSimpArgs false
theorem toL_okI (z : Int) : okL (toL z.toNat) := toL_ok _
theorem val_toL {z : Int} (h : 0 ≤ z) : val (toL z.toNat) = z := by rw [toL_val]; omega
theorem toL_lenI {z : Int} {n : Nat} (h0 : 0 ≤ z) (h : z < pw n) : (toL z.toNat).length ≤ n := toL_len (by omega)
theorem sg_decP {z : Int} : decide (sg z > 0) = decide (z > 0) := by
 apply decide_eq_decide.2
 unfold sg
 split
 ·simp; omega
 ·split
  ·simp; omega
  ·simp; omega
theorem digit_loop {V R d0 : Int} {v : List Int} (hv : okL v) (hV : val v = V) (hV0 : 0 < V) (hR : 0 ≤ R) (hd : 0 ≤ d0) (hdB : d0 < 1000000000) (hq : R / V ≤ d0) {k : Nat} (hlv : V < pw k) (hlr : R < pw k) (hk : k ≤ 500000) (hvl : v.length ≤ 500000) :
    loopX (fun (v5 : Int × (List Int)) =>
                      bindO (r01_compare v5.2 (toL R.toNat)) fun (y9 : Int) =>
                      if (decide (y9 > 0)) = true then
                        bindO (r01_minus v5.2 v) fun (y10 : (List Int)) =>
                        some (.go (IntKind.u64.wrap (v5.1 - 1),y10))
                      else
                        some (.ret (v5.1,v5.2))) fuel (d0,toL (V * d0).toNat) = some (R / V,toL (V * (R / V)).toNat) := by
  apply Tot.get
  have hq0 : 0 ≤ R / V := Int.ediv_nonneg hR (by omega)
  refine Tot.loop (fun m w=>w = ((m : Int),toL (V * (m : Int)).toNat) ∧ R / V ≤ (m : Int) ∧ (m : Int) < 1000000000) _ d0.toNat (fuel_gt (by omega)) ⟨by rw [Int.toNat_of_nonneg hd],by omega,by omega⟩ (fun m w hw=>?_)
  obtain ⟨rfl,h1,h2⟩ := hw
  dsimp only
  have hm0 : 0 ≤ V * (m : Int) := Int.mul_nonneg (by omega) (by omega)
  have hmb : V * (m : Int) < pw (k + 1) := by
    have e1 := Int.mul_le_mul_of_nonneg_left (show (m : Int) ≤ 1000000000 by omega) (show 0 ≤ V by omega)
    rw [pw_succ]; omega
  have hl1 := toL_lenI hm0 hmb
  rw [cmp_len (toL_ok _) (toL_ok _) (toL_trm _) (toL_trm _) (by omega),bindO_s,val_toL hm0,val_toL hR]
  have hde := Int.ediv_mul_le R (b := V) (by omega)
  have hlt := Int.lt_ediv_add_one_mul_self R hV0
  rw [sg_decP]
  refine TotX.ite (fun q=>?_) (fun q=>.ret ?_)
  · have hgt : R < V * (m : Int) := by simp only [gt_iff_lt,decide_eq_true_eq] at q; omega
    have hm1 : R / V < (m : Int) := by
      rcases Int.lt_or_le (R / V) (m : Int) with z | z
      · exact z
      · have : R / V = (m : Int) := by omega
        rw [this,Int.mul_comm] at hde; omega
    have hge : V ≤ V * (m : Int) := by
      have := Int.mul_le_mul_of_nonneg_left (show 1 ≤ (m : Int) by omega) (show 0 ≤ V by omega)
      omega
    rw [r01_minus_eq (toL_ok _) hv (by omega) (by omega) (by rw [val_toL hm0,hV]; exact hge),bindO_s,val_toL hm0,hV,wU64 (by omega) (by omega)]
    refine .go ⟨m - 1,by omega,?_,by omega,by omega⟩
    have e1 : ((m - 1 : Nat) : Int) = (m : Int) - 1 := by omega
    rw [e1,Int.mul_sub,Int.mul_one]
  · have hle : V * (m : Int) ≤ R := by simp only [gt_iff_lt,decide_eq_false_iff_not] at q; omega
    have : (m : Int) ≤ R / V := (Int.le_ediv_iff_mul_le hV0).2 (by rw [Int.mul_comm]; exact hle)
    have e : (m : Int) = R / V := by omega
    rw [e]
theorem digit_est {R V top high low P : Int} (hR : R = high * P + low) (hl : low < P) (hP : 0 < P) (hV : top * P ≤ V) (ht : 1 ≤ top) (hV0 : 0 < V) (hR0 : 0 ≤ R) : R / V ≤ high / top := by
 have h0 : 0 ≤ R / V := Int.ediv_nonneg hR0 (by omega)
 have h1 := Int.ediv_mul_le R (b := V) (by omega)
 generalize R / V = q at *
 apply (Int.le_ediv_iff_mul_le (by omega)).2
 have h2 : q * (top * P) ≤ q * V := Int.mul_le_mul_of_nonneg_left hV h0
 have h3 : (q * top) * P < (high + 1) * P := by
  have e1 : q * (top * P) = (q * top) * P := by grind
  have e2 : (high + 1) * P = high * P + P := by grind
  omega
 have := Int.lt_of_mul_lt_mul_right h3 (Int.le_of_lt hP)
 omega
theorem win_cons_set {l : List Int} {m j : Nat} {x : Int} (h : m < l.length) : win (l.set m x) m (j + 1) = x + 1000000000 * win l (m + 1) j := by
 unfold win
 have h1 : (l.set m x)[m]? = some x := by simp [h]
 have h2 : (l.set m x).drop m = x :: (l.set m x).drop (m + 1) := by
  have hl : m < (l.set m x).length := by simp [h]
  rw [List.drop_eq_getElem_cons hl]; simp
 rw [h2,drop_set_gt (by omega),List.take_succ_cons,val_cons]
theorem val_le_cons {l : List Int} (n : Nat) (ho : okL l) (hl : l.length ≤ n + 2) : val l = (lb l (n + 1) * 1000000000 + lb l n) * pw n + val (l.take n) := by
 have h1 := val_take_lb l (n + 1)
 rw [val_take_all (by omega),val_take_lb l n,pw_succ] at h1
 rw [h1]; grind
theorem scale_loop {a : List Int} {b : Int} (ha : okL a) (la : a.length ≤ 1000000) (hb : 0 < b) (hb2 : b < 1000000000) : Tot (loopX (fun (v9 : Int × Int × (List Int)) =>
          if (decide (v9.2.1 ≥ 0)) = true then
            bindO (gt a v9.2.1) fun (e7 : Int) =>
            guardO (!(b == 0)) (
            bindO (gt v9.2.2 v9.2.1) fun (e8 : Int) =>
            guardO (!(b == 0)) (
            some (.go (Int.tmod (IntKind.u64.wrap ((IntKind.u64.wrap (v9.1 * 1000000000)) + (IntKind.u64.wrap e7))) b,IntKind.i64.wrap (v9.2.1 - 1),v9.2.2.set (Int.toNat v9.2.1) (IntKind.u32.wrap (IntKind.u64.wrap (Int.tdiv (IntKind.u64.wrap ((IntKind.u64.wrap (v9.1 * 1000000000)) + (IntKind.u64.wrap e7))) b)))))))
          else
            some (.ret v9.2.2)) fuel (0,IntKind.i64.wrap ((a.length : Int) - 1),List.replicate a.length (0 : Int))) (fun l=>okL l ∧ l.length = a.length ∧ ∃ r,0 ≤ r ∧ r < b ∧ val l * b + r = val a) := by
  refine Tot.loop (fun m v=>v.2.1 = (m : Int) - 1 ∧ m ≤ a.length ∧ okL v.2.2 ∧ v.2.2.length = a.length ∧ 0 ≤ v.1 ∧ v.1 < b ∧ val (v.2.2.drop m) * b + v.1 = val (a.drop m)) _ a.length (fuel_gt (by omega)) ⟨by rw [wI64 (by omega) (by omega)],Nat.le_refl _,okL_rep _,by simp,by dsimp only; omega,hb,by simp [val]⟩ (fun m v hv=>?_)
  obtain ⟨r,i,out⟩ := v
  dsimp only at hv ⊢
  obtain ⟨rfl,h1,h2,h3,h4,h5,h6⟩ := hv
  cases m with
  | zero=>exact TotX.ite (fun q=>absurd q (by simp)) (fun _=>.ret ⟨h2,h3,r,h4,h5,by simpa using h6⟩)
  | succ m =>
    have e1 : ((m + 1 : Nat) : Int) - 1 = (m : Int) := by omega
    rw [e1]
    refine TotX.ite (fun _=>?_) (fun q=>absurd q (by simp))
    have hx := lb_ok ha m
    rw [gt_l (show m < a.length by omega),bindO_s]
    have hg : (!(b == 0)) = true := by simp; omega
    refine TotX.guard hg ?_
    rw [gt_l (show m < out.length by omega),bindO_s,Int.toNat_natCast]
    refine TotX.guard hg ?_
    have hq : (r * 1000000000 + lb a m) / b < 1000000000 := Int.ediv_lt_of_lt_mul hb (by omega)
    have hq0 : 0 ≤ (r * 1000000000 + lb a m) / b := Int.ediv_nonneg (by omega) (by omega)
    rw [wU64 (n := r * 1000000000) (by omega) (by omega),wU64 (n := lb a m) (by omega) (by omega),wU64 (n := r * 1000000000 + lb a m) (by omega) (by omega),tdv (by omega),tmd (by omega),wU64 (by omega) (by omega),wU32 (by omega) (by omega),wI64 (by omega) (by omega)]
    refine .go ⟨m,by omega,rfl,by omega,okL_set h2 hq0 hq,by simp [h3],Int.emod_nonneg _ (by omega),Int.emod_lt_of_pos _ hb,?_⟩
    dsimp only
    rw [val_drop_set (by omega),val_drop_lb a m,← h6]
    have e := Int.emod_add_mul_ediv (r * 1000000000 + lb a m) b
    generalize (r * 1000000000 + lb a m) / b = q at *
    generalize (r * 1000000000 + lb a m) % b = s at *
    grind
set_option maxHeartbeats 4000000 in
theorem r01_parts_eq {a b : List Int} (ha : okL a) (hb : okL b) (tb : trm b = b) (la : a.length ≤ 200000) (lb0 : b.length ≤ 200000) (h0 : val b ≠ 0) : r01_parts a b = some (toL (val a / val b).toNat,toL (val a % val b).toNat) := by
  have hbA := val_bound ha
  have hbB := val_bound hb
  apply Tot.get
  unfold r01_parts
  refine Tot.ite (fun q=>?_) (fun q=>?_)
  · simp only [Bool.and_eq_true,decide_eq_true_eq] at q
    have p2 : pw 2 = 1000000000000000000 := by simp [pw]
    have a1 : val a < pw 2 := Int.lt_of_lt_of_le hbA.2 (pw_mono (by omega))
    have b1 : val b < pw 2 := Int.lt_of_lt_of_le hbB.2 (pw_mono (by omega))
    have hq0 : 0 ≤ val a / val b := Int.ediv_nonneg hbA.1 hbB.1
    have hq1 : val a / val b ≤ val a := Int.ediv_le_self _ hbA.1
    have hr0 := Int.emod_nonneg (val a) h0
    have hr1 := Int.emod_lt_of_pos (val a) (show 0 < val b by omega)
    rw [r01_short_eq ha (by omega) (by omega),bindO_s,r01_short_eq hb (by omega) (by omega),bindO_s,tdv hbA.1,tmd hbA.1,wU64 hq0 (by omega)]
    refine Tot.guard (by simpa using h0) ?_
    rw [r01_limbs_eq hq0 (by omega),bindO_s]
    refine Tot.guard (by simpa using h0) ?_
    rw [r01_limbs_eq hr0 (by omega),bindO_s]
    exact .ok rfl
  · clear q
    obtain ⟨n,hn⟩ : ∃ n,b.length = n + 1 := by
      cases b with
      | nil=>exact absurd rfl h0
      | cons x l=>exact ⟨l.length,rfl⟩
    have eN : IntKind.i64.wrap ((b.length : Int) - 1) = (n : Int) := by rw [wI64 (by omega) (by omega)]; omega
    rw [eN,gt_l (show n < b.length by omega),bindO_s]
    have hx := lb_ok hb n
    have hx1 := top_pos hb tb hn
    generalize lb b n = x at *
    rw [wU64 (n := x) (by omega) (by omega),wU64 (n := x + 1) (by omega) (by omega),tdv (by omega)]
    have hs1 : 1 ≤ 1000000000 / (x + 1) := (Int.le_ediv_iff_mul_le (by omega)).2 (by omega)
    have hs3 : 1000000000 / (x + 1) < 1000000000 := Int.ediv_lt_of_lt_mul (by omega) (by omega)
    refine Tot.guard (by simp; omega) ?_
    generalize 1000000000 / (x + 1) = s at *
    rw [wU64 (n := s) (by omega) (by omega),wU32 (n := s) (by omega) (by omega),wU64 (n := s) (by omega) (by omega)]
    rw [r01_by_eq hb (by omega) (by omega) hs3,bindO_s]
    have hV0 : 0 < val b * s := Int.mul_pos (by omega) (by omega)
    have hAs0 : 0 ≤ val a * s := Int.mul_nonneg hbA.1 (by omega)
    have hVb : val b * s < pw (n + 2) := by
      have := Int.mul_le_mul_of_nonneg_left (show s ≤ 1000000000 by omega) hbB.1
      rw [hn] at hbB
      rw [pw_succ]; omega
    have hAb : val a * s < pw (a.length + 1) := by
      have := Int.mul_le_mul_of_nonneg_left (show s ≤ 1000000000 by omega) hbA.1
      rw [pw_succ]; omega
    have hvo : okL (toL (val b * s).toNat) := toL_ok _
    have hvt := toL_trm (val b * s).toNat
    have hvv : val (toL (val b * s).toNat) = val b * s := val_toL (by omega)
    have hvl := toL_lenI (show 0 ≤ val b * s by omega) hVb
    generalize toL (val b * s).toNat = v at *
    obtain ⟨k,hk⟩ : ∃ k,v.length = k + 1 := by
      cases v with
      | nil=>simp [val] at hvv; omega
      | cons x l=>exact ⟨l.length,rfl⟩
    have eK : IntKind.i64.wrap ((v.length : Int) - 1) = (k : Int) := by rw [wI64 (by omega) (by omega)]; omega
    rw [eK,gt_l (show k < v.length by omega),bindO_s]
    have ht := lb_ok hvo k
    have ht1 := top_pos hvo hvt hk
    have hVlo : lb v k * pw k ≤ val b * s := by
      have h1 := val_take_lb v k
      have h2 := (val_bound (okL_take k hvo)).1
      rw [val_take_all (by omega)] at h1
      omega
    have hVk : val b * s < pw (k + 1) := by have := (val_bound hvo).2; rw [hk] at this; omega
    have eA : IntKind.i64.wrap ((a.length : Int) + 1) = ((a.length + 1 : Nat) : Int) := by rw [wI64 (by omega) (by omega)]; omega
    rw [eA,Int.toNat_natCast]
    refine Tot.guard (decide_eq_true (by omega)) (Tot.guard (okLen_of (by omega)) ?_)
    rw [r01_by_eq ha (by omega) (by omega) hs3,bindO_s]
    have huo : okL (toL (val a * s).toNat) := toL_ok _
    have huv : val (toL (val a * s).toNat) = val a * s := val_toL (by omega)
    have hul := toL_lenI (show 0 ≤ val a * s by omega) hAb
    generalize toL (val a * s).toNat = u at *
    refine Tot.guard (decide_eq_true ⟨by omega,by omega,by simp; omega⟩) ?_
    rw [wU64 (n := lb v k) (by omega) (by omega)]
    clear hbA hbB hAb eN eA hx hx1
    generalize hVV : val b * s = V at *
    refine Tot.bind (E := fun p=>∃ r : Int,p.1 = toL r.toNat ∧ 0 ≤ r ∧ r < V ∧ okL p.2 ∧ p.2.length = a.length + 1 ∧ val u = win p.2 0 u.length * V + r) (Tot.loop (fun m p=>p.2.1 = (m : Int) - 1 ∧ m ≤ u.length ∧ ∃ r : Int,p.1 = toL r.toNat ∧ 0 ≤ r ∧ r < V ∧ okL p.2.2 ∧ p.2.2.length = a.length + 1 ∧ val (u.drop m) = win p.2.2 m (u.length - m) * V + r) _ u.length (fuel_gt (by omega)) ⟨by dsimp only; rw [wI64 (by omega) (by omega)],Nat.le_refl _,0,rfl,by omega,hV0,okL_rep _,by simp,by rw [List.drop_of_length_le (Nat.le_refl _),Nat.sub_self,win_zero]; simp [val]⟩ (fun m p hp=>?_)) (fun p hp=>?_)
    · obtain ⟨rs,i,out⟩ := p
      dsimp only at hp ⊢
      obtain ⟨rfl,hm,r,rfl,hr0,hrV,ho,hol,hinv⟩ := hp
      cases m with
      | zero =>
        refine TotX.ite (fun q=>absurd q (by simp)) (fun _=>.ret ⟨r,rfl,hr0,hrV,ho,hol,?_⟩)
        simpa using hinv
      | succ m =>
        have e1 : ((m + 1 : Nat) : Int) - 1 = (m : Int) := by omega
        rw [e1]
        refine TotX.ite (fun _=>?_) (fun q=>absurd q (by simp))
        have hum := lb_ok huo m
        have hrl := toL_lenI hr0 (show r < pw (k + 1) by omega)
        rw [gt_l (show m < u.length by omega),bindO_s]
        have hRo : okL ([lb u m] ++ toL r.toNat) := okL_append.2 ⟨okL_cons.2 ⟨hum,okL_nil⟩,toL_ok _⟩
        have hRv : val ([lb u m] ++ toL r.toNat) = lb u m + 1000000000 * r := by
          show val (lb u m :: toL r.toNat) = _
          rw [val_cons,val_toL hr0]
        rw [r01_trim_toL hRo (by simp; omega),bindO_s,hRv]
        have hR0 : 0 ≤ lb u m + 1000000000 * r := by omega
        have hRV : lb u m + 1000000000 * r < 1000000000 * V := by omega
        have hRk : lb u m + 1000000000 * r < pw (k + 2) := by rw [pw_succ]; omega
        have hd := val_drop_lb u m
        generalize hRR : lb u m + 1000000000 * r = R at *
        have hRl := toL_lenI hR0 hRk
        have hw := val_le_cons k (toL_okI R) hRl
        rw [val_toL hR0] at hw
        have hwb := (val_bound (okL_take k (toL_okI R))).2
        have hwb2 : val ((toL R.toNat).take k) < pw k := Int.lt_of_lt_of_le hwb (pw_mono (by simp; omega))
        have hh1 := lb_ok (toL_okI R) (k + 1)
        have hh0 := lb_ok (toL_okI R) k
        have hest := digit_est hw hwb2 (pw_pos k) hVlo ht1 hV0 hR0
        have hqB : R / V < 1000000000 := Int.ediv_lt_of_lt_mul hV0 hRV
        have hq0 : 0 ≤ R / V := Int.ediv_nonneg hR0 (by omega)
        have hH0 : 0 ≤ (lb (toL R.toNat) (k + 1) * 1000000000 + lb (toL R.toNat) k) / lb v k := Int.ediv_nonneg (by omega) (by omega)
        have hH1 : (lb (toL R.toNat) (k + 1) * 1000000000 + lb (toL R.toNat) k) / lb v k ≤ lb (toL R.toNat) (k + 1) * 1000000000 + lb (toL R.toNat) k := Int.ediv_le_self _ (by omega)
        refine TotX.bind (E := fun t=>t.1 = toL (R % V).toNat ∧ t.2 = out.set m (R / V)) (Tot.guard (okLen_of (by omega)) ?_) (fun t ht'=>?_)
        · refine Tot.bind (E := fun h=>h = lb (toL R.toNat) (k + 1) * 1000000000) (Tot.ite (fun q=>?_) (fun q=>.ok ?_)) (fun h hh=>?_)
          · have q' : k + 1 < (toL R.toNat).length := by simp at q; omega
            rw [hk,gt_l q',bindO_s]
            exact .ok (by rw [wU64 (n := lb (toL R.toNat) (k + 1)) (by omega) (by omega),wU64 (by omega) (by omega)])
          · have q' : (toL R.toNat).length ≤ k + 1 := by simp at q; omega
            rw [lb_out q']; rfl
          · subst hh
            refine Tot.bind (E := fun h=>h = lb (toL R.toNat) (k + 1) * 1000000000 + lb (toL R.toNat) k) (Tot.ite (fun q=>?_) (fun q=>.ok ?_)) (fun h hh=>?_)
            · have q' : k < (toL R.toNat).length := by simp at q; omega
              rw [gt_l q',bindO_s]
              exact .ok (by rw [wU64 (n := lb (toL R.toNat) k) (by omega) (by omega),wU64 (by omega) (by omega)])
            · have q' : (toL R.toNat).length ≤ k := by simp at q; omega
              rw [lb_out q',Int.add_zero]
            · subst hh
              refine Tot.guard (by simp; omega) ?_
              rw [tdv (by omega),wU64 hH0 (by omega)]
              refine Tot.bind (E := fun d=>0 ≤ d ∧ d < 1000000000 ∧ R / V ≤ d) (Tot.ite (fun q=>.ok ⟨by omega,by omega,by omega⟩) (fun q=>.ok ⟨hH0,by simp at q; omega,hest⟩)) (fun d hd'=>?_)
              obtain ⟨d1,d2,d3⟩ := hd'
              rw [wU32 d1 (by omega),r01_by_eq hvo (by omega) d1 d2,bindO_s,hvv]
              rw [digit_loop hvo hvv hV0 hR0 d1 d2 d3 (k := k + 2) (by rw [pw_succ]; have := pw_pos (k + 1); omega) hRk (by omega) (by omega),bindO_s]
              dsimp only
              have hVq : V * (R / V) ≤ R := by have := Int.ediv_mul_le R (b := V) (by omega); rw [Int.mul_comm]; exact this
              have hVq0 : 0 ≤ V * (R / V) := Int.mul_nonneg (by omega) hq0
              have hl9 := toL_lenI hVq0 (show V * (R / V) < pw (k + 2) by omega)
              rw [r01_minus_eq (toL_ok _) (toL_ok _) (by omega) (by omega) (by rw [val_toL hVq0,val_toL hR0]; exact hVq),bindO_s,val_toL hVq0,val_toL hR0]
              have hg : decide (0 ≤ (m : Int) ∧ (m : Int) < ((Int.toNat (u.length : Int) - 0 : Nat) : Int)) = true := decide_eq_true ⟨by omega,by omega⟩
              refine Tot.guard hg ?_
              rw [Int.toNat_natCast,show 0 + m = m by omega,gt_l (show m < out.length by omega),bindO_s,wU32 hq0 (by omega)]
              refine .ok ⟨?_,rfl⟩
              dsimp only
              rw [Int.emod_def]
        · rw [wI64 (by omega) (by omega)]
          have hrr0 := Int.emod_nonneg R (show V ≠ 0 by omega)
          have hrr1 := Int.emod_lt_of_pos R hV0
          refine .go ⟨m,by omega,rfl,by omega,R % V,ht'.1,hrr0,hrr1,?_,?_,?_⟩
          · dsimp only; rw [ht'.2]; exact okL_set ho hq0 hqB
          · dsimp only; rw [ht'.2]; simp [hol]
          · dsimp only
            rw [ht'.2,show u.length - m = (u.length - (m + 1)) + 1 by omega,win_cons_set (by omega),hd,hinv]
            have e := Int.emod_add_mul_ediv R V
            rw [← hRR] at e
            rw [hRR] at e
            generalize win out (m + 1) (u.length - (m + 1)) = W at *
            generalize R / V = Q at *
            generalize R % V = Z at *
            rw [Int.add_mul]
            have e2 : Q * V = V * Q := Int.mul_comm _ _
            have e3 : 1000000000 * W * V = 1000000000 * (W * V) := by grind
            omega
    · obtain ⟨rs,out⟩ := p
      obtain ⟨r,h1,h2,h3,h4,h5,h6⟩ := hp
      dsimp only at h1 h4 h5 h6 ⊢
      subst h1
      have hrl := toL_lenI h2 (show r < pw (k + 1) by omega)
      refine Tot.guard (decide_eq_true (by omega)) (Tot.guard (okLen_of (by omega)) ?_)
      rw [Int.toNat_natCast]
      refine Tot.bind (scale_loop (toL_okI r) (by omega) (by omega) hs3) (fun l hl=>?_)
      obtain ⟨l1,l2,t,l3,l4,l5⟩ := hl
      rw [val_toL h2] at l5
      rw [Int.toNat_natCast,Nat.sub_zero,List.drop_zero]
      refine Tot.guard (decide_eq_true (by omega)) ?_
      have hto : okL (out.take u.length) := okL_take _ h4
      rw [r01_trim_toL hto (by simp; omega),bindO_s,r01_trim_toL l1 (by omega),bindO_s]
      have hwv : win out 0 u.length = val (out.take u.length) := by unfold win; rw [List.drop_zero]
      rw [hwv,huv] at h6
      have hq0 := (val_bound hto).1
      have hl0 := (val_bound l1).1
      generalize val (out.take u.length) = Q at *
      have hX : val l = val a - val b * Q := div_last (s := s) (r := t) (by
        rw [l5,Int.mul_sub]
        have e1 : Q * V = s * (val b * Q) := by rw [← hVV]; grind
        have e2 : s * val a = val a * s := Int.mul_comm _ _
        omega) l3 l4
      have hlt : val l < val b := by
        rcases Int.lt_or_le (val l) (val b) with z | z
        · exact z
        · exfalso
          have e1 : val b * s ≤ val l * s := Int.mul_le_mul_of_nonneg_right z (by omega)
          omega
      have hbp : 0 < val b := by
        rcases Int.lt_or_le 0 (val b) with z | z
        · exact z
        · exfalso; omega
      have hu := (Int.ediv_emod_unique (a := val a) (b := val b) (r := val l) (q := Q) hbp).2 ⟨by omega,hl0,hlt⟩
      rw [← hu.1,← hu.2]
      exact .ok rfl
end Go.Proofs.YthljcnchaopncaaGreatDoor
namespace Go.Proofs.YthljcnchaopncaaGreatDoor
open Go.RowKit
set_option linter.unusedVariables false
set_option linter.unusedSimpArgs false
theorem r01_signed_toL (neg : Bool) {z : Int} (h0 : 0 ≤ z) (hl : (toL z.toNat).length ≤ 1000000) : r01_signed neg (toL z.toNat) = some (ofI (if neg = true then -z else z)) := by
 rw [r01_signed_eq neg _ hl (toL_ok _),val_toL h0]
theorem toL_Bd {z : Int} {n : Nat} (h0 : 0 ≤ z) (h : Bd n z) : (toL z.toNat).length ≤ n := toL_lenI h0 (by unfold Bd at h; omega)
theorem r01_FromInt64_eq {n : Int} (h : -9223372036854775808 ≤ n) (h2 : n ≤ 9223372036854775807) : r01_FromInt64 n = some (ofI n) := by
 have hb : ∀ z : Int,0 ≤ z → z < 18446744073709551616 → (toL z.toNat).length ≤ 3 := fun z h0 h1=>toL_lenI h0 (by simp [pw]; omega)
 apply Tot.get
 unfold r01_FromInt64
 refine Tot.ite (fun q=>?_) (fun q=>?_)
 ·have q' : n < 0 := by simpa using q
  rw [abs_u64 h h2 q',r01_limbs_eq (by omega) (by omega),bindO_s,r01_signed_toL true (by omega) (Nat.le_trans (hb _ (by omega) (by omega)) (by omega)),bindO_s]
  exact .ok (ofI_congr (by simp; omega))
 ·have q' : 0 ≤ n := by simp at q; omega
  rw [wU64 q' (by omega),r01_limbs_eq q' (by omega),bindO_s,r01_signed_toL false q' (Nat.le_trans (hb _ (by omega) (by omega)) (by omega)),bindO_s]
  exact .ok rfl
theorem r01_Sign_eq (z : Int) : r01_Sign (ofI z) = some (sg z) := by
 unfold r01_Sign
 by_cases h2 : z = 0
 ·subst h2; rfl
 ·have h3 : (ofI z).Limbs.length ≠ 0 := fun q=>h2 (ofI_len0.1 q)
  rw [if_neg (by simp only [beq_iff_eq]; omega),ofI_negv]
  by_cases h : z < 0
  ·rw [if_pos (by simpa using h),sg_neg h]
  ·rw [if_neg (by simpa using h),sg_pos (by omega)]
theorem r01_cmp_ofI {a b : Int} {n : Nat} (ha : Bd n a) (hn : n ≤ 1000000) : r01_compare (ofI a).Limbs (ofI b).Limbs = some (sg ((a.natAbs : Int) - b.natAbs)) := by
 rw [cmp_len (ofI_okL a) (ofI_okL b) (ofI_trm a) (ofI_trm b) (Nat.le_trans ha.len hn),ofI_val,ofI_val]
theorem r01_Cmp_eq {a b : Int} {n m : Nat} (ha : Bd n a) (hb : Bd m b) (hn : n ≤ 1000000) (hm : m ≤ 1000000) : r01_Cmp (ofI a) (ofI b) = some (sg (a - b)) := by
 unfold r01_Cmp
 rw [ofI_negv,ofI_negv]
 by_cases h1 : a < 0 <;> by_cases h2 : b < 0
 ·rw [decide_eq_true h1,decide_eq_true h2]
  simp only [beq_self_eq_true,Bool.not_true,Bool.false_eq_true,if_false,if_true]
  rw [r01_cmp_ofI hb hm,bindO_s]
  congr 2; omega
 ·rw [decide_eq_true h1,decide_eq_false h2,sg_neg (by omega)]; rfl
 ·rw [decide_eq_false h1,decide_eq_true h2,sg_pos (by omega)]; rfl
 ·rw [decide_eq_false h1,decide_eq_false h2]
  simp only [beq_self_eq_true,Bool.not_true,Bool.false_eq_true,if_false]
  rw [r01_cmp_ofI ha hn,bindO_s]
  congr 2; omega
theorem Bd.absI {n : Nat} {a : Int} (h : Bd n a) : Bd n (a.natAbs : Int) := by unfold Bd at *; omega
theorem r01_Add_eq {a b : Int} {n m : Nat} (ha : Bd n a) (hb : Bd m b) (hn : n ≤ 900000) (hm : m ≤ 900000) : r01_Add (ofI a) (ofI b) = some (ofI (a + b)) := by
 have la := ha.len; have lb := hb.len
 apply Tot.get
 unfold r01_Add
 rw [ofI_negv a,ofI_negv b]
 refine Tot.ite (fun q=>?_) (fun q=>?_)
 ·rw [dec_beq] at q
  rw [r01_plus_eq (ofI_okL a) (ofI_okL b) (by omega) (by omega),bindO_s,ofI_val,ofI_val,r01_signed_toL _ (by omega) (Nat.le_trans (toL_Bd (by omega) (ha.absI.add hb.absI)) (by omega)),bindO_s]
  refine .ok (ofI_congr ?_)
  simp only [decide_eq_true_eq]
  split <;> omega
 ·have q' : ¬ (a < 0 ↔ b < 0) := fun z=>by rw [dec_beq.2 z] at q; cases q
  rw [r01_cmp_ofI ha (by omega),bindO_s]
  refine Tot.ite (fun z=>?_) (fun z=>?_)
  ·have z' : (b.natAbs : Int) ≤ a.natAbs := by
    rcases Int.lt_or_le ((a.natAbs : Int) - b.natAbs) 0 with y | y
    ·rw [sg_neg y] at z; simp at z
    ·omega
   rw [r01_minus_eq (ofI_okL a) (ofI_okL b) (by omega) (by omega) (by rw [ofI_val,ofI_val]; exact z'),bindO_s,ofI_val,ofI_val,r01_signed_toL _ (by omega) (Nat.le_trans (toL_Bd (by omega) (ha.absI.le (by omega))) (by omega)),bindO_s]
   refine .ok (ofI_congr ?_)
   simp only [decide_eq_true_eq]
   split <;> omega
  ·have z' : (a.natAbs : Int) ≤ b.natAbs := by
    rcases Int.lt_or_le ((a.natAbs : Int) - b.natAbs) 0 with y | y
    ·omega
    ·exfalso
     unfold sg at z
     rw [if_neg (by omega)] at z
     split at z <;> simp at z
   rw [r01_minus_eq (ofI_okL b) (ofI_okL a) (by omega) (by omega) (by rw [ofI_val,ofI_val]; exact z'),bindO_s,ofI_val,ofI_val,r01_signed_toL _ (by omega) (Nat.le_trans (toL_Bd (by omega) (hb.absI.le (by omega))) (by omega)),bindO_s]
   refine .ok (ofI_congr ?_)
   simp only [decide_eq_true_eq]
   split <;> omega
theorem r01_Neg_eq {a : Int} {n : Nat} (ha : Bd n a) (hn : n ≤ 1000000) : r01_Neg (ofI a) = some (ofI (-a)) := by
 have la := ha.len
 unfold r01_Neg
 rw [r01_signed_eq _ _ (by omega) (ofI_okL a),bindO_s,ofI_val,ofI_negv]
 refine congrArg some (ofI_congr ?_)
 by_cases h : a < 0
 ·rw [decide_eq_true h]; simp; omega
 ·rw [decide_eq_false h]; simp; omega
theorem r01_Sub_eq {a b : Int} {n m : Nat} (ha : Bd n a) (hb : Bd m b) (hn : n ≤ 900000) (hm : m ≤ 900000) : r01_Sub (ofI a) (ofI b) = some (ofI (a - b)) := by
 unfold r01_Sub
 rw [r01_Neg_eq hb (by omega),bindO_s,r01_Add_eq ha hb.neg hn hm,bindO_s,Int.sub_eq_add_neg]
theorem r01_Mul_eq {a b : Int} {n m : Nat} (ha : Bd n a) (hb : Bd m b) (hn : n ≤ 400000) (hm : m ≤ 400000) : r01_Mul (ofI a) (ofI b) = some (ofI (a * b)) := by
 have la := ha.len; have lb := hb.len
 have h0 : (0 : Int) ≤ (a.natAbs : Int) * b.natAbs := Int.mul_nonneg (by omega) (by omega)
 unfold r01_Mul
 rw [r01_times_eq (ofI_okL a) (ofI_okL b) (by omega) (by omega),bindO_s,ofI_val,ofI_val,r01_signed_toL _ h0 (Nat.le_trans (toL_Bd h0 (ha.absI.mul hb.absI)) (by omega)),bindO_s,ofI_negv,ofI_negv,mul_sign]
theorem r01_DivMod_eq {a b : Int} {n m : Nat} (ha : Bd n a) (hb : Bd m b) (hn : n ≤ 200000) (hm : m ≤ 200000) (h0 : 0 < b) : r01_DivMod (ofI a) (ofI b) = some (ofI (a / b),ofI (a % b),0) := by
 have la := ha.len; have lb := hb.len
 apply Tot.get
 unfold r01_DivMod
 have hb0 : ((((ofI b).Limbs.length : Int) == 0)) = false := by
  have : (ofI b).Limbs.length ≠ 0 := fun q=>by have := ofI_len0.1 q; omega
  exact beq_eq_false_iff_ne.2 (by omega)
 rw [hb0]
 refine Tot.ite (fun q=>by cases q) (fun _=>?_)
 rw [r01_parts_eq (ofI_okL a) (ofI_okL b) (ofI_trm b) (by omega) (by omega) (by rw [ofI_val]; omega),bindO_s,ofI_val,ofI_val]
 dsimp only
 have eb : (b.natAbs : Int) = b := by omega
 rw [eb]
 have hx0 : (0 : Int) ≤ (a.natAbs : Int) / b := Int.ediv_nonneg (by omega) (by omega)
 have hy0 := Int.emod_nonneg (a.natAbs : Int) (show b ≠ 0 by omega)
 have hy1 := Int.emod_lt_of_pos (a.natAbs : Int) h0
 have hxb : Bd n ((a.natAbs : Int) / b) := ha.absI.ediv h0
 have hyb : Bd m ((a.natAbs : Int) % b) := hb.emod h0
 have hsum := Int.emod_add_mul_ediv (a.natAbs : Int) b
 have hly := toL_Bd hy0 hyb
 have hy00 : ((((toL ((a.natAbs : Int) % b).toNat).length : Nat) : Int) > 0) ↔ (a.natAbs : Int) % b ≠ 0 := by
  have := toL_nil (n := ((a.natAbs : Int) % b).toNat)
  rw [← List.length_eq_zero_iff] at this
  omega
 rw [r01_signed_toL _ hx0 (Nat.le_trans (toL_Bd hx0 hxb) (by omega)),bindO_s,r01_signed_toL _ hy0 (by omega),bindO_s,ofI_negv a,ofI_negv b,decide_eq_false (show ¬ b < 0 by omega)]
 generalize (a.natAbs : Int) / b = x at *
 generalize hyy : (a.natAbs : Int) % b = y at *
 by_cases ha0 : a < 0
 ·have ea : (a.natAbs : Int) = -a := by omega
  rw [ea] at hsum
  rw [decide_eq_true ha0]
  simp only [beq_false,Bool.not_false,Bool.not_true,if_true,Bool.and_true]
  by_cases hy : y = 0
  ·rw [decide_eq_false (by rw [hy00]; simp [hy])]
   subst hy
   have hu := (Int.ediv_emod_unique (a := a) (b := b) (r := 0) (q := -x) h0).2 ⟨by rw [Int.mul_neg]; omega,by omega,h0⟩
   rw [hu.1,hu.2]
   exact .ok rfl
  ·rw [decide_eq_true (hy00.2 hy)]
   have hu := (Int.ediv_emod_unique (a := a) (b := b) (r := -y + b) (q := -x - 1) h0).2 ⟨by rw [Int.mul_sub,Int.mul_neg]; omega,by omega,by omega⟩
   rw [hu.1,hu.2]
   have e1 := r01_Sub_eq hxb.neg (Bd.i64 (z := 1) (by omega) (by omega)) (by omega) (by omega)
   have e2 := r01_Add_eq hyb.neg hb (by omega) (by omega)
   rw [r01_FromInt64_eq (by omega) (by omega),bindO_s,e1,bindO_s,e2,bindO_s]
   exact .ok rfl
 ·have ea : (a.natAbs : Int) = a := by omega
  rw [ea] at hsum
  have hu := (Int.ediv_emod_unique (a := a) (b := b) (r := y) (q := x) h0).2 ⟨hsum,hy0,hy1⟩
  rw [hu.1,hu.2,decide_eq_false ha0]
  simp only [beq_self_eq_true,Bool.not_true,Bool.false_eq_true,if_false,Bool.and_false]
  exact .ok rfl
theorem r01_GCD_eq {a b : Int} {n : Nat} (ha : Bd n a) (hb : Bd n b) (hn : n ≤ 200000) : r01_GCD (ofI a) (ofI b) = some (ofI ((Int.gcd a b : Nat) : Int)) := by
 apply Tot.get
 unfold r01_GCD
 have ha' : Bd n ((a.natAbs : Nat) : Int) := ha.absI
 have hb' : Bd n ((b.natAbs : Nat) : Int) := hb.absI
 refine Tot.bind (E := fun p=>∃ x y : Nat,p = (toL x,toL y) ∧ Nat.gcd x y = Int.gcd a b ∧ Bd n (x : Int) ∧ Bd n (y : Int) ∧ (y = 0 ∨ ((toL x).length ≤ 2 ∧ (toL y).length ≤ 2))) (Tot.loop (fun m v=>∃ x y : Nat,v = (toL x,toL y) ∧ Nat.gcd x y = Int.gcd a b ∧ Bd n (x : Int) ∧ Bd n (y : Int) ∧ eucM m x y) _ (60 * n + 1) (fuel_gt (by omega)) ⟨a.natAbs,b.natAbs,rfl,rfl,ha',hb',euc_start ha' hb'⟩ (fun m v hv=>?_)) (fun p hp=>?_)
 ·obtain ⟨x,y,rfl,hg,hx,hy,hm⟩ := hv
  dsimp only
  have hlx : (toL x).length ≤ n := hx.len
  have hly : (toL y).length ≤ n := hy.len
  have hl0 : (toL y).length = 0 ↔ y = 0 := by rw [List.length_eq_zero_iff]; exact toL_nil
  refine TotX.ite (fun q=>?_) (fun q=>.ret ⟨x,y,rfl,hg,hx,hy,?_⟩)
  ·simp only [Bool.and_eq_true,decide_eq_true_eq] at q
   have hy0 : 0 < y := by omega
   rw [r01_parts_eq (toL_ok x) (toL_ok y) (toL_trm y) (by omega) (by omega) (by rw [toL_val]; omega),bindO_s,toL_val,toL_val]
   obtain ⟨m',hm1,hm2⟩ := eucM_step hm hy0
   refine .go ⟨m',hm1,y,x % y,rfl,by rw [gcd_step]; exact hg,hy,hy.le ?_,hm2⟩
   rw [Int.natAbs_natCast,Int.natAbs_natCast]; exact Nat.le_of_lt (Nat.mod_lt _ hy0)
  ·simp only [Bool.and_eq_false_iff,Bool.or_eq_false_iff,decide_eq_false_iff_not] at q
   omega
 ·obtain ⟨x,y,rfl,hg,hx,hy,hor⟩ := hp
  dsimp only
  have hlx : (toL x).length ≤ n := hx.len
  have hly : (toL y).length ≤ n := hy.len
  have hl0 : (toL y).length = 0 ↔ y = 0 := by rw [List.length_eq_zero_iff]; exact toL_nil
  refine Tot.ite (fun q=>?_) (fun q=>?_)
  ·have hy0 : y = 0 := by simp only [beq_iff_eq] at q; omega
   subst hy0
   rw [Nat.gcd_zero_right] at hg
   rw [r01_signed_eq _ _ (by omega) (toL_ok x),bindO_s,toL_val,hg]
   exact .ok rfl
  ·have hy0 : 0 < y := by
    rcases Nat.eq_zero_or_pos y with z | z
    ·subst z; simp [toL_zero] at q
    ·exact z
   have p2 : pw 2 = 1000000000000000000 := by simp [pw]
   have x1 := (val_bound (toL_ok x)).2
   have y1 := (val_bound (toL_ok y)).2
   have x2 := pw_mono (show (toL x).length ≤ 2 by omega)
   have y2 := pw_mono (show (toL y).length ≤ 2 by omega)
   rw [toL_val] at x1 y1
   rw [r01_short_eq (toL_ok x) (by omega) (by rw [toL_val]; omega),bindO_s,r01_short_eq (toL_ok y) (by omega) (by rw [toL_val]; omega),bindO_s,toL_val,toL_val,gcd_loop x y (by omega),bindO_s]
   have hgl : Nat.gcd x y ≤ y := Nat.gcd_le_right x hy0
   rw [r01_limbs_eq (by omega) (by omega),bindO_s,r01_signed_toL _ (by omega) (Nat.le_trans (toL_lenI (by omega) (show ((Nat.gcd x y : Nat) : Int) < pw 2 by omega)) (by omega)),bindO_s,hg]
   exact .ok rfl
theorem r01_Same_eq {a b : Int} {n : Nat} (ha : Bd n a) (hn : n ≤ 1000000) : r01_Same (ofI a) (ofI b) = some (decide (a = b)) := by
 apply Tot.get
 unfold r01_Same
 rw [ofI_negv,ofI_negv]
 refine Tot.bind (E := fun t=>t = decide (a = b)) (Tot.ite (fun q=>?_) (fun q=>.ok ?_)) (fun t ht=>.ok ht)
 ·rw [dec_beq] at q
  rw [r01_cmp_ofI ha hn,bindO_s]
  refine .ok ?_
  by_cases h : a = b
  ·subst h; rw [sg_zero (by omega)]; simp
  ·rw [decide_eq_false h]
   rcases Int.lt_trichotomy ((a.natAbs : Int) - b.natAbs) 0 with z | z | z
   ·rw [sg_neg z]; rfl
   ·omega
   ·rw [sg_pos z]; rfl
 ·symm
  apply decide_eq_false
  intro h
  subst h
  simp at q
end Go.Proofs.YthljcnchaopncaaGreatDoor
