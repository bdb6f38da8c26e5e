/-
  Id, Ie, If in one text.
-/
import Derived.Test.YtpdjgamdnjfmkaaGreatDoorIxa
import Derived.Test.YtpdjgamdnjfmkaaGreatDoorLq
namespace Go.Proofs.YtpdjgamdnjfmkaaGreatDoor
open Go.RowKit
set_option linter.unusedVariables false
set_option linter.unusedSimpArgs false
theorem val_one (x : Int) : val [x] = x := by simp [val]
theorem win_all {u : List Int} (hu : okL u) {k n : Nat} (h : val (u.drop k) < pw n) : val (u.drop k) = win u k n ∧ val (u.drop (k + n)) = 0 := by
 unfold win
 rcases Nat.le_total n (u.drop k).length with q | q
 ·have h1 := val_take_drop (u.drop k) n q
  have h2 := val_bound (okL_take n (okL_drop k hu))
  have h3 := val_bound (okL_drop n (okL_drop k hu))
  rw [List.drop_drop] at h1 h3
  rcases Int.lt_or_le 0 (val (u.drop (k + n))) with z | z
  ·have := Int.mul_le_mul_of_nonneg_left (show 1 ≤ val (u.drop (k + n)) by omega) (Int.le_of_lt (pw_pos n))
   omega
  ·rw [show val (u.drop (k + n)) = 0 by omega] at h1 ⊢
   exact ⟨by omega, rfl⟩
 ·rw [val_take_all q, ← List.drop_drop, List.drop_of_length_le q]
  exact ⟨rfl, rfl⟩
theorem div_scale {B : List Int} {n : Nat} (hB : okL B) (tB : trm B = B) (hn : B.length = n + 2) : 1 ≤ lb B (n + 1) ∧ 1 ≤ 1000000000 / (lb B (n + 1) + 1) ∧ 1000000000 / (lb B (n + 1) + 1) < 1000000000 ∧ pw (n + 1) ≤ val B * (1000000000 / (lb B (n + 1) + 1)) ∧ val B * (1000000000 / (lb B (n + 1) + 1)) < pw (n + 2) := by
 have hx := lb_ok hB (n + 1)
 have hx0 : 1 ≤ lb B (n + 1) := by
  have hl : B[n + 1]? = some B[n + 1] := List.getElem?_eq_getElem (by omega)
  have hg : B.getLast? = some B[n + 1] := by rw [List.getLast?_eq_getElem?, show B.length - 1 = n + 1 by omega]; exact hl
  have := last_trm tB hg
  rw [lb_of hl] at hx ⊢
  omega
 have hBhi : val B < (lb B (n + 1) + 1) * pw (n + 1) := by
  have h1 := val_take_lb B (n + 1)
  rw [val_take_all (by omega)] at h1
  have h2 := (val_bound (okL_take (n + 1) hB)).2
  rw [List.length_take, Nat.min_eq_left (by omega)] at h2
  have h3 : (lb B (n + 1) + 1) * pw (n + 1) = lb B (n + 1) * pw (n + 1) + pw (n + 1) := by grind
  omega
 have hBlo : pw (n + 1) ≤ val B := pw_le_val hB tB hn
 have hP := pw_pos (n + 1)
 have hB0 := (val_bound hB).1
 generalize lb B (n + 1) = x at *
 have hs1 : 1 ≤ 1000000000 / (x + 1) := (Int.le_ediv_iff_mul_le (by omega)).2 (by omega)
 have hs2 : (x + 1) * (1000000000 / (x + 1)) ≤ 1000000000 := by
  have := Int.ediv_mul_le 1000000000 (b := x + 1) (by omega)
  rw [Int.mul_comm]; exact this
 generalize 1000000000 / (x + 1) = s at *
 have hs3 : s < 1000000000 := by
  have : 2 * s ≤ (x + 1) * s := Int.mul_le_mul_of_nonneg_right (by omega) (by omega)
  omega
 refine ⟨hx0, hs1, hs3, ?_, ?_⟩
 ·have h1 : val B * 1 ≤ val B * s := Int.mul_le_mul_of_nonneg_left hs1 hB0
  omega
 ·have h1 : val B * s < (x + 1) * pw (n + 1) * s := Int.mul_lt_mul_of_pos_right hBhi (by omega)
  have h2 : (x + 1) * s * pw (n + 1) ≤ 1000000000 * pw (n + 1) := Int.mul_le_mul_of_nonneg_right hs2 (by omega)
  have h3 : (x + 1) * pw (n + 1) * s = (x + 1) * s * pw (n + 1) := by grind
  rw [pw_succ (n + 1)]; omega
theorem len_of_val {v : List Int} {n : Nat} (hV : okL v) (tV : trm v = v) (h1 : pw n ≤ val v) (h2 : val v < pw (n + 1)) : v.length = n + 1 := by
 have h3 := len_le_of_val hV tV h2
 rcases Nat.lt_or_ge v.length (n + 1) with z | z
 ·have := (val_bound hV).2
  have := pw_mono (show v.length ≤ n by omega)
  omega
 ·omega
theorem top_pos {v : List Int} {n : Nat} (hV : okL v) (tV : trm v = v) (hl : v.length = n + 1) : 1 ≤ lb v n := by
 have h1 : v[n]? = some v[n] := List.getElem?_eq_getElem (by omega)
 have hg : v.getLast? = some v[n] := by rw [List.getLast?_eq_getElem?, show v.length - 1 = n by omega]; exact h1
 have h2 := last_trm tV hg
 have h3 := lb_ok hV n
 rw [lb_of h1] at h3 ⊢
 omega
theorem div_win {w v : List Int} {k n : Nat} (hw : okL w) (hlt : val (w.drop (k + 1)) < val v) (hv : val v < pw (n + 2)) : win w k (n + 3) < 1000000000 * val v ∧ val (w.drop k) = win w k (n + 3) ∧ val (w.drop (k + (n + 3))) = 0 ∧
  win w k (n + 3) = lb w (k + (n + 2)) * (1000000000 * pw (n + 1)) + lb w (k + (n + 1)) * pw (n + 1) + lb w (k + n) * pw n + win w k n := by
 have hd1 := val_drop_lb w k
 have hkk := lb_ok hw k
 have hUV : val (w.drop k) < 1000000000 * val v := by omega
 have hUp : val (w.drop k) < pw (n + 3) := by rw [pw_succ (n + 2)]; omega
 obtain ⟨hwin, htop⟩ := win_all hw hUp
 refine ⟨by omega, hwin, htop, ?_⟩
 rw [win_succ, win_succ, win_succ, pw_succ (n + 1)]; omega
theorem div_v {v : List Int} {n : Nat} (hV : okL v) (hl : v.length = n + 2) : val v = lb v (n + 1) * pw (n + 1) + lb v n * pw n + val (v.take n) ∧ 0 ≤ val (v.take n) ∧ val (v.take n) < pw n := by
 have h1 := val_take_lb v (n + 1)
 rw [val_take_all (by omega), val_take_lb v n] at h1
 have hWb := val_bound (okL_take n hV)
 rw [List.length_take, Nat.min_eq_left (by omega)] at hWb
 exact ⟨by omega, hWb⟩
theorem div_pick {W V g b o P : Int} (h : o + g * V = W + b * P) (hb : b = 0 ∨ b = 1) (ho : 0 ≤ o ∧ o < P) (h1 : g * V < W + V) (h2 : W < (g + 1) * V) (hg : 0 ≤ g) (hW : 0 ≤ W) : (b = 0 → 0 ≤ o ∧ o < V ∧ o + g * V = W) ∧ (b = 1 → 1 ≤ g ∧ ∀ z, 0 ≤ z ∧ z < P → (z = o + V ∨ z + P = o + V) → 0 ≤ z ∧ z < V ∧ z + (g - 1) * V = W) := by
 have e1 : (g + 1) * V = g * V + V := by grind
 have e2 : (g - 1) * V = g * V - V := by grind
 constructor
 ·rintro rfl
  exact ⟨ho.1, by omega, by omega⟩
 ·rintro rfl
  refine ⟨?_, fun z hz hc => ?_⟩
  ·rcases Int.lt_or_le g 1 with y | y
   ·have : g = 0 := by omega
    subst this; omega
   ·exact y
  ·have : z + P = o + V := by
    rcases hc with y | y
    ·exfalso; omega
    ·exact y
   omega
theorem div_round {w q v : List Int} {k n N : Nat} {T : Int} {GL : Option Int} {SL : Int → Option (Int × Int × List Int)} {RL : Bool × List Int → Option (List Int)} {c1 : Bool} {cw : Bool × List Int → Bool}
  (hk : k < N) (hN : N + n ≤ 600000) (hw : okL w) (hwl : w.length = N + n + 2) (hq : okL q) (hql : q.length = N) (hc1 : c1 = true)
  (hwin : val (w.drop k) = win w k (n + 3)) (htop : val (w.drop (k + (n + 3))) = 0) (hinv : val w + val v * (pw (k + 1) * val (q.drop (k + 1))) = T)
  (hcw : ∀ b o, o.length = w.length → cw (b, o) = true)
  (hGL : Tot GL (fun g => 0 ≤ g ∧ g < 1000000000 ∧ g * val v < win w k (n + 3) + val v ∧ win w k (n + 3) < (g + 1) * val v))
  (hSL : ∀ g, 0 ≤ g ∧ g < 1000000000 → Tot (SL g) (fun t => t.1 = 0 ∧ (t.2.1 = 0 ∨ t.2.1 = 1) ∧ okL t.2.2 ∧ t.2.2.length = w.length ∧ t.2.2.take k = w.take k ∧ t.2.2.drop (k + (n + 3)) = w.drop (k + (n + 3)) ∧ win t.2.2 k (n + 3) + g * val v = win w k (n + 3) + t.2.1 * pw (n + 3)))
  (hRL : ∀ b o, okL o → o.length = w.length → Tot (RL (b, o)) (fun z => okL z ∧ z.length = o.length ∧ z.take k = o.take k ∧ z.drop (k + (n + 3)) = o.drop (k + (n + 3)) ∧ (win z k (n + 3) = win o k (n + 3) + val v ∨ win z k (n + 3) + pw (n + 3) = win o k (n + 3) + val v))) :
  Tot (guardO c1 (guardO c1 (bindO GL fun v4 => guardO (cw (true, w)) (bindO (bindO (SL v4) fun v8 => some (decide (v8.2.1 > 0) || decide (v8.1 > 0), v8.2.2)) fun v9 =>
    bindO (if v9.1 = true then guardO (cw v9) (bindO (RL v9) fun v13 => some (IntKind.u64.wrap (v4 - 1), v13)) else some (v4, v9.2)) fun v14 =>
    bindO (gt q (k : Int)) fun e14 => some (v14.2, q.set (Int.toNat (k : Int)) (IntKind.u32.wrap v14.1))))))
   (fun r => okL r.1 ∧ r.1.length = N + n + 2 ∧ okL r.2 ∧ r.2.length = N ∧ val (r.1.drop k) < val v ∧ val r.1 + val v * (pw k * val (r.2.drop k)) = T) := by
 refine Tot.guard hc1 (Tot.guard hc1 (Tot.bind hGL fun g hg => ?_))
 obtain ⟨g1, g2, g3, g4⟩ := hg
 refine Tot.guard (hcw _ _ rfl) ?_
 refine Tot.bind (Tot.bind (hSL g ⟨g1, g2⟩) (fun t ht => .ok (E := fun t => ∃ c b : Int, ∃ o : List Int, t = (decide (b > 0) || decide (c > 0), o) ∧ c = 0 ∧ (b = 0 ∨ b = 1) ∧ okL o ∧ o.length = w.length ∧ o.take k = w.take k ∧ o.drop (k + (n + 3)) = w.drop (k + (n + 3)) ∧ win o k (n + 3) + g * val v = win w k (n + 3) + b * pw (n + 3)) ⟨t.1, t.2.1, t.2.2, rfl, ht⟩)) (fun t ht => ?_)
 obtain ⟨c, b, o, rfl, rfl, o1, o2, o3, o4, o5, o6⟩ := ht
 obtain ⟨k1, k2⟩ := div_pick o6 o1 (win_bound o2 k (n + 3)) g3 g4 g1 (win_bound hw k (n + 3)).1
 refine Tot.bind (E := fun t => ∃ g' : Int, ∃ z : List Int, t = (g', z) ∧ 0 ≤ g' ∧ g' < 1000000000 ∧ okL z ∧ z.length = w.length ∧ z.take k = w.take k ∧ z.drop (k + (n + 3)) = w.drop (k + (n + 3)) ∧ win z k (n + 3) < val v ∧ win z k (n + 3) + g' * val v = win w k (n + 3)) (Tot.ite (fun hb => ?_) (fun hb => ?_)) (fun t ht => ?_)
 ·have b1 : b = 1 := by
   rcases o1 with z | z
   ·subst z; simp at hb
   ·exact z
  obtain ⟨hg1, hz⟩ := k2 b1
  refine Tot.guard (hcw _ _ o3) (Tot.bind (hRL _ _ o2 o3) (fun z hz' => ?_))
  obtain ⟨z1, z2, z3, z4, z5⟩ := hz'
  obtain ⟨y1, y2, y3⟩ := hz _ (win_bound z1 k (n + 3)) z5
  rw [wU64 (by omega) (by omega)]
  exact .ok ⟨g - 1, z, rfl, by omega, by omega, z1, by omega, by rw [z3, o4], by rw [z4, o5], y2, y3⟩
 ·have b0 : b = 0 := by
   rcases o1 with z | z
   ·exact z
   ·subst z; simp at hb
  obtain ⟨y1, y2, y3⟩ := k1 b0
  exact .ok ⟨g, o, rfl, g1, g2, o2, o3, o4, o5, y2, y3⟩
 ·obtain ⟨g', z, rfl, g1', g2', z1, z2, z3, z4, z6, z7⟩ := ht
  clear k1 k2 o1 o2 o3 o4 o5 o6 g3 g4 g1 g2 hSL hRL hcw
  dsimp only
  rw [gt_l (show k < q.length by omega), bindO_s, wU32 (by omega) (by omega), Int.toNat_natCast]
  have hzt : val (z.drop (k + (n + 3))) = 0 := by rw [z4]; exact htop
  have hzd : val (z.drop k) = win z k (n + 3) := by
   have h1 := val_take_drop (z.drop k) (n + 3) (by simp; omega)
   rw [List.drop_drop, hzt] at h1
   unfold win; omega
  have hwt := val_take_drop w k (by omega)
  have hzt2 := val_take_drop z k (by omega)
  rw [z3] at hzt2
  refine .ok ⟨z1, by dsimp only; omega, okL_set hq g1' g2', by simp [hql], by dsimp only; omega, ?_⟩
  dsimp only
  rw [val_drop_set (by omega), hzt2, hzd]
  rw [hwt, hwin, ← z7, pw_succ] at hinv
  rw [← hinv]
  generalize val (w.take k) = A1
  generalize win z k (n + 3) = A2
  generalize val (q.drop (k + 1)) = A3
  generalize pw k = A4
  generalize val v = A5
  grind
theorem div_last {t r s X : Int} (h : t * s + r = s * X) (h0 : 0 ≤ r) (h1 : r < s) : t = X := by
 have e3 : s * (X - t) = r := by
  have : s * (X - t) = s * X - t * s := by grind
  omega
 have d0 : X - t = 0 := by
  generalize X - t = d at *
  rcases Int.lt_trichotomy d 0 with z | z | z
  ·have := Int.mul_le_mul_of_nonneg_left (show d ≤ -1 by omega) (show 0 ≤ s by omega); omega
  ·exact z
  ·have := Int.mul_le_mul_of_nonneg_left (show 1 ≤ d by omega) (show 0 ≤ s by omega); omega
 omega
theorem div_init {w0 u : List Int} {N n : Nat} (hU0 : okL w0) (hl : w0.length = N + n + 2) (hu1 : okL u) (hul : u.length = N + (n + 1)) (hv : val w0 = val u) : val (w0.drop N) < pw (n + 1) := by
 have h1 := val_take_drop w0 N (by omega)
 have h2 := (val_bound (okL_take N hU0)).1
 have h3 : val w0 < pw N * pw (n + 1) := by
  rw [← pw_add, hv]
  have h4 := (val_bound hu1).2
  rw [hul] at h4
  exact h4
 have h5 : pw N * val (w0.drop N) < pw N * pw (n + 1) := by omega
 exact Int.lt_of_mul_lt_mul_left h5 (Int.le_of_lt (pw_pos N))
theorem sg_dec {z : Int} : decide (sg z < 0) = decide (z < 0) := by
 apply decide_eq_decide.2
 unfold sg
 split
 ·simp; omega
 ·split
  ·simp; omega
  ·simp; omega
set_option maxHeartbeats 4000000 in
theorem it_divide_ok {a b : List Int} (ha : okL a) (hb : okL b) (la0 : a.length ≤ 500000) (lb0 : b.length ≤ 500000) (h0 : val b ≠ 0) : Tot (it_divide a b) (fun p => okL p.1 ∧ okL p.2 ∧ val p.1 * val b + val p.2 = val a ∧ val p.2 < val b ∧ p.1.length ≤ a.length + 2 ∧ p.2.length ≤ a.length + 2) := by
  have la : a.length ≤ 1000000 := by omega
  have lb' : b.length ≤ 1000000 := by omega
  unfold it_divide
  rw [it_trim_eq a la, bindO_s, it_trim_eq b lb', bindO_s]
  have hA := okL_trm ha; have vA := val_trm a; have lA := trm_le a
  have hB := okL_trm hb; have tB := trm_trm b; have vB := val_trm b; have lB := trm_le b
  rw [← vB, ← vA]
  rw [← vB] at h0
  generalize trm a = A at *
  generalize trm b = B at *
  have hbA := val_bound hA
  have hbB := val_bound hB
  clear ha hb vA vB la lb'
  refine Tot.ite (fun q => ?_) (fun q => ?_)
  · have q1 : B.length = 1 := by simp at q; omega
    have hx := lb_ok hB 0
    have hBx : B = [lb B 0] := by
      cases B with
      | nil => simp at q1
      | cons x l =>
        cases l with
        | nil => rfl
        | cons y l => simp at q1
    have vx : val B = lb B 0 := by rw [hBx, val_one]; rfl
    have e0 : gt B 0 = some (lb B 0) := gt_l (i := 0) (by omega)
    rw [e0, bindO_s]
    rw [vx] at h0 ⊢
    refine Tot.bind (it_byWord_ok hA (by omega) (by omega) hx.2) (fun p hp => .ok ?_)
    obtain ⟨p1, p2, r, p3, p4, p5, p6⟩ := hp
    refine ⟨p1, ?_, ?_, ?_, by dsimp only; omega, ?_⟩
    · dsimp only; rw [p3]; exact okL_cons.2 ⟨by omega, okL_nil⟩
    · dsimp only; rw [p3, val_one]; exact p6
    · dsimp only; rw [p3, val_one]; exact p5
    · dsimp only; rw [p3]; simp
  · rw [it_compare_eq hA hB (by omega) (by omega), bindO_s, sg_dec]
    refine Tot.ite (fun q2 => ?_) (fun q2 => ?_)
    · have hlt : val A < val B := by simp at q2; omega
      refine Tot.guard (okLen_of (by omega)) (.ok ⟨okL_nil, hA, by simp [val], hlt, by simp, by dsimp only; omega⟩)
    · have hge : val B ≤ val A := by simp at q2; omega
      have hlen : B.length ≤ A.length := by
        rcases Nat.lt_or_ge A.length B.length with z | z
        · have := val_lt_of_len hA hB tB z; omega
        · exact z
      obtain ⟨n, hn⟩ : ∃ n, B.length = n + 2 := by
        rcases Nat.lt_or_ge B.length 2 with z | z
        · exfalso
          have z1 : B.length ≠ 1 := by simp at q; omega
          have z0 : B = [] := List.length_eq_zero_iff.1 (by omega)
          rw [z0] at h0; exact h0 rfl
        · exact ⟨B.length - 2, by omega⟩
      clear q q2 hge
      have eN1 : IntKind.i64.wrap ((B.length : Int) - 1) = ((n + 1 : Nat) : Int) := by rw [wI64 (by omega) (by omega)]; omega
      have eN2 : IntKind.i64.wrap ((B.length : Int) - 2) = (n : Int) := by rw [wI64 (by omega) (by omega)]; omega
      rw [eN1, eN2, gt_l (show n + 1 < B.length by omega), bindO_s]
      have hx := lb_ok hB (n + 1)
      obtain ⟨hx0, hs1, hs3, hVlo, hVhi⟩ := div_scale hB tB hn
      generalize hX : lb B (n + 1) = x at *
      rw [wU64 (n := x) (by omega) (by omega), wU64 (n := x + 1) (by omega) (by omega), tdv (by omega)]
      generalize 1000000000 / (x + 1) = s at *
      rw [wU64 (n := s) (by omega) (by omega), wU32 (n := s) (by omega) (by omega)]
      refine Tot.guard (by simp; omega) ?_
      have hS : okL [s] := okL_cons.2 ⟨by omega, okL_nil⟩
      refine Tot.bind (it_times_ok hA hS (by omega) (by simp)) (fun u hu => ?_)
      obtain ⟨hu1, hu2, hu3⟩ := hu
      rw [val_one] at hu2
      have hu3' : u.length = A.length + 1 := by simpa using hu3
      refine Tot.guard (okLen_of (by omega)) ?_
      refine Tot.bind (it_times_ok hB hS (by omega) (by simp)) (fun v0 hv0 => ?_)
      obtain ⟨hv1, hv2, hv3⟩ := hv0
      rw [val_one] at hv2
      have hv3' : v0.length = B.length + 1 := by simpa using hv3
      rw [it_trim_eq v0 (by omega), bindO_s]
      have hV := okL_trm hv1
      have tV := trm_trm v0
      have vV : val (trm v0) = val B * s := by rw [val_trm, hv2]
      generalize trm v0 = v at *
      rw [← vV] at hVlo hVhi
      have hvl := len_of_val hV tV hVlo hVhi
      have hv1p := top_pos hV tV hvl
      clear hu3 hv3 hv3' hv1 hv2 hX hx hx0
      have eQ : IntKind.i64.wrap (((u.length + 1 : Nat) : Int) - (B.length : Int)) = ((A.length - n : Nat) : Int) := by rw [wI64 (by omega) (by omega)]; omega
      rw [eQ, Int.toNat_natCast]
      refine Tot.guard (decide_eq_true (by omega)) (Tot.guard (okLen_of (by omega)) ?_)
      obtain ⟨N, hN⟩ : ∃ N, A.length - n = N := ⟨_, rfl⟩
      rw [hN]
      have hU0 : okL (u ++ [0]) := okL_append.2 ⟨hu1, okL_cons.2 ⟨by omega, okL_nil⟩⟩
      have hUu : val (u ++ [0]) = val u := by rw [val_append, val_one]; omega
      have hUl : (u ++ [0]).length = N + n + 2 := by simp; omega
      have hin := div_init hU0 hUl hu1 (by omega) hUu
      generalize u ++ [0] = w0 at *
      rw [hu2] at hUu
      have hNn : N + n ≤ 500000 := by omega
      have hBn : B.length ≤ N + n + 2 := by omega
      have hAl : A.length = N + n := by omega
      clear hu1 hu2 hu3' eQ hlen eN1 eN2
      refine Tot.bind (E := fun p => okL p.1 ∧ p.1.length = N + n + 2 ∧ okL p.2 ∧ p.2.length = N ∧ val p.1 < val v ∧ val p.1 + val v * val p.2 = val A * s) (Tot.loop (fun m p => p.1 = (m : Int) - 1 ∧ m ≤ N ∧ okL p.2.1 ∧ p.2.1.length = N + n + 2 ∧ okL p.2.2 ∧ p.2.2.length = N ∧ val (p.2.1.drop m) < val v ∧ val p.2.1 + val v * (pw m * val (p.2.2.drop m)) = val A * s) _ N (fuel_gt (by omega)) ⟨?_, Nat.le_refl _, hU0, hUl, okL_rep _, by simp, ?_, ?_⟩ (fun m p hp => ?_)) (fun p hp => ?_)
      · dsimp only; rw [wI64 (by omega) (by omega)]
      · dsimp only; omega
      · dsimp only
        rw [List.drop_of_length_le (by simp), hUu]; simp [val]
      · obtain ⟨kk, w, q⟩ := p
        dsimp only at hp ⊢
        obtain ⟨rfl, hm, hw, hwl, hq, hql, hlt, hinv⟩ := hp
        clear hU0 hUl hin hUu hN
        cases m with
        | zero =>
          refine TotX.ite (fun z => absurd z (by simp)) (fun _ => .ret ⟨hw, hwl, hq, hql, by simpa using hlt, ?_⟩)
          simpa [pw] using hinv
        | succ k =>
          have e1 : ((k + 1 : Nat) : Int) - 1 = (k : Int) := by omega
          rw [e1]
          refine TotX.ite (fun _ => ?_) (fun z => absurd z (by simp))
          have ek : IntKind.i64.wrap ((k : Int) + (B.length : Int)) = ((k + (n + 2) : Nat) : Int) := by rw [wI64 (by omega) (by omega)]; omega
          rw [ek]
          have ek1 : IntKind.i64.wrap (((k + (n + 2) : Nat) : Int) - 1) = ((k + (n + 1) : Nat) : Int) := by rw [wI64 (by omega) (by omega)]; omega
          have ek2 : IntKind.i64.wrap (((k + (n + 2) : Nat) : Int) - 2) = ((k + n : Nat) : Int) := by rw [wI64 (by omega) (by omega)]; omega
          have ek3 : IntKind.i64.wrap (((k + (n + 2) : Nat) : Int) + 1) = ((k + (n + 3) : Nat) : Int) := by rw [wI64 (by omega) (by omega)]; omega
          have ek4 : (((k + (n + 3) : Nat) : Int)).toNat - ((k : Int)).toNat = (n + 2) + 1 := by omega
          rw [ek1, ek2, ek3, ek4]
          rw [gt_l (show k + (n + 2) < w.length by omega), gt_l (show k + (n + 1) < w.length by omega), gt_l (show k + n < w.length by omega), gt_l (show n + 1 < v.length by omega), gt_l (show n < v.length by omega)]
          simp only [bindO_s]
          clear ek ek1 ek2 ek3 ek4 e1
          have hW0 := lb_ok hw (k + (n + 2)); have hW1 := lb_ok hw (k + (n + 1)); have hW2 := lb_ok hw (k + n)
          have hv1' := lb_ok hV (n + 1); have hv2' := lb_ok hV n
          obtain ⟨hUV, hwin, htop, hU⟩ := div_win hw hlt hVhi
          obtain ⟨hVd, hV1, hV2⟩ := div_v hV hvl
          have hYb := win_bound hw k n
          have hG := guess_loop (pw_succ n) hU hVd hYb.1 hYb.2 hV1 hV2 (pw_pos n) hW0 hW1 hW2 ⟨hv1p, hv1'.2⟩ hv2' hUV
          have hq0 : 0 ≤ (lb w (k + (n + 2)) * 1000000000 + lb w (k + (n + 1))) / lb v (n + 1) := Int.ediv_nonneg (by omega) (by omega)
          have hq1 : (lb w (k + (n + 2)) * 1000000000 + lb w (k + (n + 1))) / lb v (n + 1) ≤ lb w (k + (n + 2)) * 1000000000 + lb w (k + (n + 1)) := Int.ediv_le_self _ (by omega)
          have hc1 : (!(lb v (n + 1) == 0)) = true := by simp; omega
          clear hU hVd hYb hV1 hV2 hUV hlt hVlo hVhi hs1 hs3
          rw [wU64 (n := lb v (n + 1)) (by omega) (by omega), wU64 (n := lb v n) (by omega) (by omega), wU64 (n := lb w (k + (n + 2))) (by omega) (by omega), wU64 (n := lb w (k + (n + 1))) (by omega) (by omega), wU64 (n := lb w (k + n)) (by omega) (by omega), wU64 (n := lb w (k + (n + 2)) * 1000000000) (by omega) (by omega), wU64 (n := lb w (k + (n + 2)) * 1000000000 + lb w (k + (n + 1))) (by omega) (by omega), tdv (by omega), tmd (by omega)]
          rw [wU64 (n := (lb w (k + (n + 2)) * 1000000000 + lb w (k + (n + 1))) / lb v (n + 1)) hq0 (by omega)]
          clear hq0 hq1 hW0 hW1 hW2 hv1' hv2' hv1p
          refine TotX.bind (div_round (cw := fun v9 => decide ((0 : Int) ≤ (k : Int) ∧ (k : Int) ≤ ((k + (n + 3) : Nat) : Int) ∧ ((k + (n + 3) : Nat) : Int) ≤ ((v9.2.length : Nat) : Int))) (show k < N by omega) (by omega) hw hwl hq hql hc1 hwin htop hinv (fun b o ho => decide_eq_true ⟨by omega, by omega, by dsimp only; omega⟩) hG (fun g hg => ?_) (fun b o ho hol => ?_)) (fun r hr => ?_)
          · exact sub_loop hw hV hvl (by omega) (by omega) hg
          · exact res_loop ho hV hvl (show k + (n + 2) + 1 ≤ o.length by omega) (show o.length ≤ 2000000 by omega)
          · rw [wI64 (by omega) (by omega)]
            obtain ⟨r1, r2, r3, r4, r5, r6⟩ := hr
            exact .go ⟨k, by omega, rfl, by omega, r1, r2, r3, r4, r5, r6⟩
      · obtain ⟨w, q⟩ := p
        dsimp only at hp ⊢
        obtain ⟨p1, p2, p3, p4, p5, p6⟩ := hp
        rw [cutT_k (show B.length ≤ w.length by omega), bindO_s, hn]
        have hrl : (w.take (n + 2)).length ≤ n + 2 := by simp; omega
        rw [it_trim_eq _ (by omega), bindO_s]
        have hwb := val_bound p1
        have hwe : val (w.take (n + 2)) = val w := by
          have := (win_all (k := 0) (n := n + 2) p1 (by simpa using (show val w < pw (n + 2) by omega))).1
          unfold win at this
          simp only [List.drop_zero] at this
          exact this.symm
        refine Tot.bind (it_byWord_ok (okL_trm (okL_take _ p1)) (Nat.le_trans (trm_le _) (by omega)) (by omega) hs3) (fun t ht => .ok ?_)
        obtain ⟨t1, t2, r, t3, t4, t5, t6⟩ := ht
        rw [val_trm, hwe] at t6
        have hr0 : val t.1 = val A - val B * val q := div_last (s := s) (r := r) (by
          rw [t6]
          have e1 : val B * s * val q = s * (val B * val q) := by grind
          have e2 : s * (val A - val B * val q) = val A * s - s * (val B * val q) := by grind
          rw [vV] at p6
          omega) t4 t5
        have htl := trm_le (w.take (n + 2))
        refine ⟨p3, t1, ?_, ?_, by dsimp only; omega, by dsimp only; omega⟩
        · dsimp only; rw [hr0, Int.mul_comm]; omega
        · dsimp only
          rcases Int.lt_or_le (val t.1) (val B) with z | z
          · exact z
          · exfalso
            have e1 : val B * s ≤ val t.1 * s := Int.mul_le_mul_of_nonneg_right z (by omega)
            omega
end Go.Proofs.YtpdjgamdnjfmkaaGreatDoor
namespace Go.Proofs.YtpdjgamdnjfmkaaGreatDoor
open Go.RowKit
set_option linter.unusedVariables false
set_option linter.unusedSimpArgs false
theorem Tot.get {α : Type} {m : Option α} {x : α} (h : Tot m (fun e => e = x)) : m = some x := by
 obtain ⟨e, h1, rfl⟩ := h; exact h1
def Bd (n : Nat) (z : Int) : Prop := (z.natAbs : Int) < pw n
theorem Bd.mono {n m : Nat} {z : Int} (h : Bd n z) (hm : n ≤ m) : Bd m z := Int.lt_of_lt_of_le h (pw_mono hm)
theorem Bd.len {n : Nat} {z : Int} (h : Bd n z) : (ofI z).Limbs.length ≤ n := ofI_len h
theorem Bd.neg {n : Nat} {z : Int} (h : Bd n z) : Bd n (-z) := by unfold Bd at *; rw [Int.natAbs_neg]; exact h
theorem Bd.le {n : Nat} {a b : Int} (h : Bd n b) (hb : a.natAbs ≤ b.natAbs) : Bd n a := by unfold Bd at *; omega
theorem Bd.add {n m : Nat} {a b : Int} (ha : Bd n a) (hb : Bd m b) : Bd (max n m + 1) (a + b) := by
 have h1 : Bd (max n m) a := ha.mono (Nat.le_max_left _ _)
 have h2 : Bd (max n m) b := hb.mono (Nat.le_max_right _ _)
 unfold Bd at *
 rw [pw_succ]
 omega
theorem Bd.mul {n m : Nat} {a b : Int} (ha : Bd n a) (hb : Bd m b) : Bd (n + m) (a * b) := by
 unfold Bd at *
 rw [Int.natAbs_mul, pw_add, Int.natCast_mul]
 have h1 : (a.natAbs : Int) * b.natAbs ≤ pw n * b.natAbs := Int.mul_le_mul_of_nonneg_right (Int.le_of_lt ha) (by omega)
 have h2 : pw n * (b.natAbs : Int) < pw n * pw m := Int.mul_lt_mul_of_pos_left hb (pw_pos n)
 omega
theorem Bd.i64 {z : Int} (h : -9223372036854775808 ≤ z) (h2 : z ≤ 9223372036854775807) : Bd 3 z := by unfold Bd; simp only [pw]; omega
theorem Bd.ediv {n : Nat} {a b : Int} (ha : Bd n a) (hb : 0 < b) : Bd n (a / b) := by
 refine ha.le ?_
 rcases Int.le_total 0 a with h | h
 ·have h1 := Int.ediv_nonneg h (Int.le_of_lt hb)
  have h2 := Int.ediv_le_self b h
  omega
 ·have h1 : a ≤ a / b := by
   rw [Int.le_ediv_iff_mul_le hb]
   have := Int.mul_le_mul_of_nonneg_left (show 1 ≤ b by omega) (show 0 ≤ -a by omega)
   rw [Int.neg_mul, Int.neg_mul] at this
   omega
  have h2 : a / b ≤ 0 := by
   rcases Int.lt_or_le 0 (a / b) with z | z
   ·have := (Int.le_ediv_iff_mul_le (a := 1) (b := a) hb).1 (by omega)
    omega
   ·exact z
  omega
theorem Bd.emod {n : Nat} {a b : Int} (hb : Bd n b) (h : 0 < b) : Bd n (a % b) := by
 have h1 := Int.emod_nonneg a (show b ≠ 0 by omega)
 have h2 := Int.emod_lt_of_pos a h
 exact hb.le (by omega)
theorem Bd.toNat {n : Nat} {a : Nat} (h : Bd n (a : Int)) : (a : Int) < pw n := by unfold Bd at h; omega
theorem ofI_negv (z : Int) : (ofI z).Neg = decide (z < 0) := rfl
theorem dec_beq {p q : Prop} [Decidable p] [Decidable q] : ((decide p == decide q) = true) ↔ (p ↔ q) := by
 by_cases hp : p <;> by_cases hq : q <;> simp [hp, hq]
theorem ofI_congr {a b : Int} (h : a = b) : ofI a = ofI b := by rw [h]
theorem it_split_ok {u : Int} (h0 : 0 ≤ u) (h : u < 18446744073709551616) : ∃ l, it_split u = some l ∧ okL l ∧ val l = u ∧ l.length = 3 := by
 unfold it_split
 rw [tmd h0, tdv h0, wU64 (n := u / 1000000000) (by omega) (by omega), tmd (by omega), tdv (by omega), wU32 (by omega) (by omega), wU32 (by omega) (by omega), wU64 (by omega) (by omega), wU32 (by omega) (by omega)]
 refine ⟨_, rfl, okL_cons.2 ⟨by omega, okL_cons.2 ⟨by omega, okL_cons.2 ⟨by omega, okL_nil⟩⟩⟩, ?_, rfl⟩
 simp only [val]; omega
theorem wrap_u64' (n : Int) : IntKind.u64.wrap n = n % 18446744073709551616 := by
 unfold IntKind.wrap; simp [IntKind.signed, IntKind.bits]
theorem abs_u64 {n : Int} (h : -9223372036854775808 ≤ n) (h2 : n ≤ 9223372036854775807) (h3 : n < 0) : IntKind.u64.wrap (0 - (IntKind.u64.wrap n)) = (n.natAbs : Int) := by
 rw [wrap_u64', wrap_u64']; omega
theorem it_FromInt64_eq {n : Int} (h : -9223372036854775808 ≤ n) (h2 : n ≤ 9223372036854775807) : it_FromInt64 n = some (ofI n) := by
 apply Tot.get
 unfold it_FromInt64
 refine Tot.bind (E := fun u => u = (n.natAbs : Int)) (Tot.ite (fun q => .ok (abs_u64 h h2 (by simpa using q))) (fun q => .ok ?_)) (fun u hu => ?_)
 ·simp at q; rw [wU64 (by omega) (by omega)]; omega
 ·subst hu
  obtain ⟨l, h3, h4, h5, h6⟩ := it_split_ok (u := (n.natAbs : Int)) (by omega) (by omega)
  rw [h3, bindO_s, it_signed_eq _ _ (by omega) h4, bindO_s, h5]
  refine .ok (ofI_congr ?_)
  simp only [decide_eq_true_eq]
  split <;> omega
theorem it_Sign_eq (z : Int) : it_Sign (ofI z) = some (sg z) := by
 unfold it_Sign
 rw [ofI_negv]
 by_cases h : z < 0
 ·rw [if_pos (by simpa using h), sg_neg h]
 ·rw [if_neg (by simpa using h)]
  by_cases h2 : z = 0
  ·subst h2; rfl
  ·have : (ofI z).Limbs ≠ [] := fun q => h2 (ofI_nil.1 q)
   have : 0 < (ofI z).Limbs.length := List.length_pos_iff.2 this
   rw [if_pos (decide_eq_true (by omega)), sg_pos (by omega)]
theorem it_Cmp_eq {a b : Int} {n m : Nat} (ha : Bd n a) (hb : Bd m b) (hn : n ≤ 1000000) (hm : m ≤ 1000000) : it_Cmp (ofI a) (ofI b) = some (sg (a - b)) := by
 have la := ha.len; have lb := hb.len
 unfold it_Cmp
 rw [ofI_negv, ofI_negv]
 by_cases h1 : a < 0 <;> by_cases h2 : b < 0
 ·rw [decide_eq_true h1, decide_eq_true h2]
  simp only [beq_self_eq_true, Bool.not_true, Bool.false_eq_true, if_false, if_true]
  rw [it_compare_eq (ofI_okL b) (ofI_okL a) (by omega) (by omega), bindO_s, ofI_val, ofI_val]
  congr 2; omega
 ·rw [decide_eq_true h1, decide_eq_false h2, sg_neg (by omega)]; rfl
 ·rw [decide_eq_false h1, decide_eq_true h2, sg_pos (by omega)]; rfl
 ·rw [decide_eq_false h1, decide_eq_false h2]
  simp only [beq_self_eq_true, Bool.not_true, Bool.false_eq_true, if_false]
  rw [it_compare_eq (ofI_okL a) (ofI_okL b) (by omega) (by omega), bindO_s, ofI_val, ofI_val]
  congr 2; omega
theorem it_Add_eq {a b : Int} {n m : Nat} (ha : Bd n a) (hb : Bd m b) (hn : n ≤ 900000) (hm : m ≤ 900000) : it_Add (ofI a) (ofI b) = some (ofI (a + b)) := by
 have la := ha.len; have lb := hb.len
 apply Tot.get
 unfold it_Add
 rw [ofI_negv, ofI_negv]
 refine Tot.ite (fun q => ?_) (fun q => ?_)
 ·rw [dec_beq] at q
  refine Tot.bind (it_plus_ok (ofI_okL a) (ofI_okL b) (by omega) (by omega)) (fun l hl => ?_)
  obtain ⟨h1, h2, h3⟩ := hl
  rw [it_signed_eq _ _ (by omega) h1, bindO_s, h2, ofI_val, ofI_val]
  refine .ok (ofI_congr ?_)
  simp only [decide_eq_true_eq]
  split <;> omega
 ·have q' : ¬ (a < 0 ↔ b < 0) := fun z => by rw [dec_beq.2 z] at q; cases q
  rw [it_compare_eq (ofI_okL a) (ofI_okL b) (by omega) (by omega), bindO_s, ofI_val, ofI_val, sg_dec]
  refine Tot.bind (E := fun p => ∃ x y : Int, p = (ofI x, ofI y) ∧ y.natAbs ≤ x.natAbs ∧ (ofI x).Limbs.length ≤ 900000 ∧ (ofI y).Limbs.length ≤ 900000 ∧ x + y = a + b ∧ ¬ (x < 0 ↔ y < 0)) (Tot.ite (fun z => .ok ⟨b, a, rfl, by simp at z; omega, by omega, by omega, by omega, by omega⟩) (fun z => .ok ⟨a, b, rfl, by simp at z; omega, by omega, by omega, rfl, q'⟩)) (fun p hp => ?_)
  obtain ⟨x, y, rfl, h1, h2, h3, h4, h5⟩ := hp
  refine Tot.bind (it_minus_ok (ofI_okL x) (ofI_okL y) (by dsimp only; omega) (by dsimp only; omega) (by rw [ofI_val, ofI_val]; omega)) (fun l hl => ?_)
  obtain ⟨h6, h7, h8⟩ := hl
  dsimp only at h7 h8
  rw [it_signed_eq _ _ (by omega) h6, bindO_s, h7, ofI_val, ofI_val, ofI_negv]
  refine .ok (ofI_congr ?_)
  simp only [decide_eq_true_eq]
  split <;> omega
theorem it_Sub_eq {a b : Int} {n m : Nat} (ha : Bd n a) (hb : Bd m b) (hn : n ≤ 900000) (hm : m ≤ 900000) : it_Sub (ofI a) (ofI b) = some (ofI (a - b)) := by
 unfold it_Sub
 have h : ApiInt.mk (!(ofI b).Neg && (decide (((ofI b).Limbs.length : Int) > 0))) (ofI b).Limbs = ofI (-b) := by
  have e : (ofI (-b)).Limbs = (ofI b).Limbs := by show toL (-b).natAbs = toL b.natAbs; rw [Int.natAbs_neg]
  have e2 : (!(ofI b).Neg && (decide (((ofI b).Limbs.length : Int) > 0))) = (ofI (-b)).Neg := by
   rw [ofI_negv, ofI_negv]
   by_cases hb0 : b = 0
   ·subst hb0; rfl
   ·have : (ofI b).Limbs ≠ [] := fun q => hb0 (ofI_nil.1 q)
    have : 0 < (ofI b).Limbs.length := List.length_pos_iff.2 this
    rw [decide_eq_true (show ((ofI b).Limbs.length : Int) > 0 by omega), Bool.and_true]
    by_cases h1 : b < 0
    ·rw [decide_eq_true h1, decide_eq_false (by omega)]; rfl
    ·rw [decide_eq_false h1, decide_eq_true (by omega)]; rfl
  rw [e2, ← e]
 rw [h, it_Add_eq ha hb.neg hn hm, bindO_s, Int.sub_eq_add_neg]
theorem it_Neg_eq {a : Int} {n : Nat} (ha : Bd n a) (hn : n ≤ 1000000) : it_Neg (ofI a) = some (ofI (-a)) := by
 have la := ha.len
 unfold it_Neg
 rw [okLen_of (by omega), guardO_t, it_signed_eq _ _ (by omega) (ofI_okL a), bindO_s, ofI_val, ofI_negv]
 refine congrArg some (ofI_congr ?_)
 by_cases h : a < 0
 ·rw [decide_eq_true h]; simp; omega
 ·rw [decide_eq_false h]; simp; omega
theorem mul_sign {a b : Int} : (if (!(decide (a < 0) == decide (b < 0))) = true then -((a.natAbs : Int) * b.natAbs) else (a.natAbs : Int) * b.natAbs) = a * b := by
 by_cases h1 : a < 0 <;> by_cases h2 : b < 0
 ·rw [decide_eq_true h1, decide_eq_true h2]
  simp only [beq_self_eq_true, Bool.not_true, Bool.false_eq_true, if_false]
  rw [show (a.natAbs : Int) = -a by omega, show (b.natAbs : Int) = -b by omega, Int.neg_mul_neg]
 ·rw [decide_eq_true h1, decide_eq_false h2]
  rw [show (a.natAbs : Int) = -a by omega, show (b.natAbs : Int) = b by omega]
  simp [Int.neg_mul]
 ·rw [decide_eq_false h1, decide_eq_true h2]
  rw [show (a.natAbs : Int) = a by omega, show (b.natAbs : Int) = -b by omega]
  simp [Int.mul_neg]
 ·rw [decide_eq_false h1, decide_eq_false h2]
  simp only [beq_self_eq_true, Bool.not_true, Bool.false_eq_true, if_false]
  rw [show (a.natAbs : Int) = a by omega, show (b.natAbs : Int) = b by omega]
theorem it_Mul_eq {a b : Int} {n m : Nat} (ha : Bd n a) (hb : Bd m b) (hn : n ≤ 400000) (hm : m ≤ 400000) : it_Mul (ofI a) (ofI b) = some (ofI (a * b)) := by
 have la := ha.len; have lb := hb.len
 apply Tot.get
 unfold it_Mul
 refine Tot.bind (it_times_ok (ofI_okL a) (ofI_okL b) (by omega) (by omega)) (fun l hl => ?_)
 obtain ⟨h1, h2, h3⟩ := hl
 rw [it_signed_eq _ _ (by omega) h1, bindO_s, h2, ofI_val, ofI_val, ofI_negv, ofI_negv, mul_sign]
 exact .ok rfl
theorem ofI_len0 {z : Int} : (ofI z).Limbs.length = 0 ↔ z = 0 := by rw [List.length_eq_zero_iff]; exact ofI_nil
theorem it_DivMod_eq {a b : Int} {n m : Nat} (ha : Bd n a) (hb : Bd m b) (hn : n ≤ 400000) (hm : m ≤ 400000) (h0 : 0 < b) : it_DivMod (ofI a) (ofI b) = some (ofI (a / b), ofI (a % b), 0) := by
  have la := ha.len; have lb := hb.len
  apply Tot.get
  unfold it_DivMod
  have hb0 : ((((ofI b).Limbs.length : Int) == 0)) = false := by
    have : (ofI b).Limbs.length ≠ 0 := fun q => by have := ofI_len0.1 q; omega
    exact beq_eq_false_iff_ne.2 (by omega)
  rw [hb0]
  refine Tot.ite (fun q => by cases q) (fun _ => ?_)
  refine Tot.bind (it_divide_ok (ofI_okL a) (ofI_okL b) (by omega) (by omega) (by rw [ofI_val]; omega)) (fun p hp => ?_)
  obtain ⟨h1, h2, h3, h4, h5, h6⟩ := hp
  have hy0 := (val_bound h2).1
  have hx0 := (val_bound h1).1
  rw [ofI_val, ofI_val] at h3
  rw [ofI_val] at h4
  rw [it_signed_eq _ _ (by omega) h1, bindO_s, it_signed_eq _ _ (by omega) h2, bindO_s, ofI_negv a, ofI_negv b, decide_eq_false (show ¬ b < 0 by omega)]
  have eb : (b.natAbs : Int) = b := by omega
  rw [eb] at h3 h4
  generalize val p.1 = x at *
  generalize val p.2 = y at *
  by_cases ha0 : a < 0
  · have ea : (a.natAbs : Int) = -a := by omega
    rw [ea] at h3
    rw [decide_eq_true ha0]
    simp only [beq_false, Bool.not_false, Bool.not_true, if_true, bne_self_eq_false]
    by_cases hy : y = 0
    · subst hy
      have hu := (Int.ediv_emod_unique (a := a) (b := b) (r := 0) (q := -x) h0).2 ⟨by rw [Int.mul_neg, Int.mul_comm b x]; omega, by omega, h0⟩
      rw [hu.1, hu.2]
      refine Tot.bind (E := fun v => v = (ofI (-x), ofI 0)) (Tot.ite (fun q => ?_) (fun _ => .ok rfl)) (fun v hv => by subst hv; exact .ok rfl)
      simp [ofI, toL_zero] at q
    · have hu := (Int.ediv_emod_unique (a := a) (b := b) (r := -y + b) (q := -x - 1) h0).2 ⟨by rw [Int.mul_sub, Int.mul_neg, Int.mul_comm b x]; omega, by omega, by omega⟩
      rw [hu.1, hu.2]
      have hbx : Bd n x := ha.le (by
        have : x * 1 ≤ x * b := Int.mul_le_mul_of_nonneg_left (show 1 ≤ b by omega) hx0
        omega)
      have hby : Bd m y := hb.le (by omega)
      have e1 := it_Sub_eq hbx.neg (Bd.i64 (z := 1) (by omega) (by omega)) (by omega) (by omega)
      have e2 := it_Add_eq hby.neg hb (by omega) (by omega)
      rw [it_FromInt64_eq (by omega) (by omega), bindO_s, e1, bindO_s, e2, bindO_s]
      refine Tot.bind (E := fun v => v = (ofI (-x - 1), ofI (-y + b))) (Tot.ite (fun q => .ok rfl) (fun q => ?_)) (fun v hv => by subst hv; exact .ok rfl)
      exfalso
      have hl : (ofI (-y)).Limbs.length ≠ 0 := fun z => hy (by have := ofI_len0.1 z; omega)
      rw [ofI_negv, decide_eq_true (show -y < 0 by omega), decide_eq_true (show ((ofI (-y)).Limbs.length : Int) > 0 by omega)] at q
      simp at q
  · have ea : (a.natAbs : Int) = a := by omega
    rw [ea] at h3
    have hu := (Int.ediv_emod_unique (a := a) (b := b) (r := y) (q := x) h0).2 ⟨by rw [Int.mul_comm b x]; omega, hy0, h4⟩
    rw [hu.1, hu.2, decide_eq_false ha0]
    simp only [beq_self_eq_true, Bool.not_true, Bool.false_eq_true, if_false]
    refine Tot.bind (E := fun v => v = (ofI x, ofI y)) (Tot.ite (fun q => ?_) (fun q => .ok rfl)) (fun v hv => by subst hv; exact .ok rfl)
    rw [ofI_negv, decide_eq_false (show ¬ y < 0 by omega)] at q
    simp at q
end Go.Proofs.YtpdjgamdnjfmkaaGreatDoor
namespace Go.Proofs.YtpdjgamdnjfmkaaGreatDoor
open Go.RowKit
set_option linter.unusedVariables false
set_option linter.unusedSimpArgs false
theorem pw_two : ∀ n : Nat, pw n ≤ ((2 ^ (30 * n) : Nat) : Int)
 | 0 => by simp [pw]
 | n + 1 => by
  have h := pw_two n
  have h0 := pw_pos n
  rw [pw_succ, show 30 * (n + 1) = 30 * n + 30 by omega, Nat.pow_add]
  rw [Int.natCast_mul]
  have : (1073741824 : Nat) = 2 ^ 30 := rfl
  rw [← this]
  omega
theorem it_word_ok {z : Int} (hz : 0 ≤ z) {n : Nat} (hb : Bd n z) (hn : n ≤ 1000000) : ∃ w b, it_word (ofI z) = some (w, b) ∧ (b = true → w = z ∧ z < 1000000000000000000) := by
 have hl := hb.len
 have ho := ofI_okL z
 have hv := ofI_val z
 generalize ofI z = a at *
 obtain ⟨s, l⟩ := a
 dsimp only at hl ho hv
 unfold it_word
 dsimp only
 match l, ho, hv with
 | [], ho, hv =>
  refine ⟨0, true, by simp, fun _ => ?_⟩
  simp [val] at hv; omega
 | [x], ho, hv =>
  have h1 := (okL_cons.1 ho).1
  refine ⟨x, true, ?_, fun _ => ?_⟩
  ·simp [gt, wU64 h1.1 (show x < 18446744073709551616 by omega)]
  ·simp [val] at hv; omega
 | [x, y], ho, hv =>
  have h1 := (okL_cons.1 ho).1
  have h2 := (okL_cons.1 (okL_cons.1 ho).2).1
  refine ⟨y * 1000000000 + x, true, ?_, fun _ => ?_⟩
  ·simp only [gt, List.length_cons, List.length_nil]
   simp
   rw [wU64 (n := y) (by omega) (by omega), wU64 (n := x) (by omega) (by omega), wU64 (n := y * 1000000000) (by omega) (by omega), wU64 (by omega) (by omega)]
  ·simp [val] at hv; omega
 | x :: y :: t :: r, ho, hv =>
  refine ⟨0, false, ?_, fun h => by cases h⟩
  have e0 : ((((x :: y :: t :: r).length : Nat) : Int) == 0) = false := beq_eq_false_iff_ne.2 (by simp only [List.length_cons]; omega)
  have e1 : ((((x :: y :: t :: r).length : Nat) : Int) == 1) = false := beq_eq_false_iff_ne.2 (by simp only [List.length_cons]; omega)
  have e2 : ((((x :: y :: t :: r).length : Nat) : Int) == 2) = false := beq_eq_false_iff_ne.2 (by simp only [List.length_cons]; omega)
  rw [e0, e1, e2]
  rfl
theorem gcd_step (x y : Nat) : Nat.gcd y (x % y) = Nat.gcd x y := by
 rw [Nat.gcd_comm x y, Nat.gcd_rec y x, Nat.gcd_comm]
theorem gcd_loop (x y : Nat) (hy : y ≤ 9223372036854775807) : loopX (fun (v2 : Int × Int) =>
      if (decide (v2.2 > 0)) = true then
        guardO (!(v2.2 == 0)) (
        some (.go (v2.2, Int.tmod v2.1 v2.2)))
      else
        some (.ret v2.1)) fuel ((x : Int), (y : Int)) = some ((Nat.gcd x y : Nat) : Int) := by
  apply Tot.get
  refine Tot.loop (fun m v => ∃ a : Nat, v = ((a : Int), (m : Int)) ∧ Nat.gcd a m = Nat.gcd x y) _ y (fuel_gt hy) ⟨x, rfl, rfl⟩ (fun m v hv => ?_)
  obtain ⟨a, rfl, h⟩ := hv
  dsimp only
  cases m with
  | zero => exact TotX.ite (fun q => absurd q (by simp)) (fun _ => .ret (by rw [← h, Nat.gcd_zero_right]))
  | succ m =>
    refine TotX.ite (fun _ => TotX.guard (by simp; omega) (.go ⟨a % (m + 1), Nat.mod_lt _ (by omega), m + 1, ?_, ?_⟩)) (fun q => absurd q (by simp))
    · rw [tmd (by omega)]; rfl
    · rw [gcd_step]; exact h
def eucM (m x y : Nat) : Prop := (y ≤ x ∧ x * y < 2 ^ m) ∨ (1 ≤ m ∧ x * y < 2 ^ (m - 1))
theorem eucM_step {m x y : Nat} (h : eucM m x y) (hy : 0 < y) : ∃ m', m' < m ∧ eucM m' y (x % y) := by
 have key : ∀ k, y ≤ x → x * y < 2 ^ k → ∃ m', m' < k ∧ eucM m' y (x % y) := by
  intro k h1 h2
  have h3 := euclid_half h1 hy
  have h4 : 1 ≤ x * y := Nat.mul_pos (by omega) hy
  have hk : k ≠ 0 := fun z => by subst z; simp at h2; omega
  obtain ⟨j, rfl⟩ := Nat.exists_eq_succ_of_ne_zero hk
  refine ⟨j, by omega, .inl ⟨Nat.le_of_lt (Nat.mod_lt _ hy), ?_⟩⟩
  have : 2 ^ (j.succ) = 2 * 2 ^ j := by rw [Nat.pow_succ]; omega
  omega
 rcases h with ⟨h1, h2⟩ | ⟨h1, h2⟩
 ·exact key m h1 h2
 ·rcases Nat.lt_or_ge x y with q | q
  ·refine ⟨m - 1, by omega, .inl ⟨Nat.le_of_lt (Nat.mod_lt _ hy), ?_⟩⟩
   rw [Nat.mod_eq_of_lt q, Nat.mul_comm]; exact h2
  ·obtain ⟨m', h3, h4⟩ := key (m - 1) q h2
   exact ⟨m', by omega, h4⟩
theorem euc_start {n x y : Nat} (hx : Bd n (x : Int)) (hy : Bd n (y : Int)) : eucM (60 * n + 1) x y := by
 refine .inr ⟨by omega, ?_⟩
 have h1 := pw_two n
 unfold Bd at hx hy
 rw [Int.natAbs_natCast] at hx hy
 rw [show 60 * n + 1 - 1 = 30 * n + 30 * n by omega, Nat.pow_add]
 exact Nat.mul_lt_mul_of_lt_of_lt (by omega) (by omega)
theorem signed_abs {z : Int} {n : Nat} (h : Bd n z) (hn : n ≤ 1000000) : it_signed false (ofI z).Limbs = some (ofI (z.natAbs : Int)) := by
 have := h.len
 rw [it_signed_eq _ _ (by omega) (ofI_okL z), ofI_val]
 rfl
theorem Bd.gcd {n : Nat} {a b : Int} (hb : Bd n b) (h0 : b ≠ 0) : Bd n ((Int.gcd a b : Nat) : Int) := by
 refine hb.le ?_
 have := Nat.gcd_le_right a.natAbs (show 0 < b.natAbs by omega)
 unfold Int.gcd
 rw [Int.natAbs_natCast]; exact this
theorem it_GCD_eq {a b : Int} {n : Nat} (ha : Bd n a) (hb : Bd n b) (hn : n ≤ 400000) : it_GCD (ofI a) (ofI b) = some (ofI ((Int.gcd a b : Nat) : Int)) := by
 apply Tot.get
 unfold it_GCD
 rw [signed_abs ha (by omega), bindO_s, signed_abs hb (by omega), bindO_s]
 have ha' : Bd n ((a.natAbs : Nat) : Int) := by unfold Bd at *; omega
 have hb' : Bd n ((b.natAbs : Nat) : Int) := by unfold Bd at *; omega
 refine Tot.bindX (E := fun p => p.1 = ofI ((Int.gcd a b : Nat) : Int) ∧ p.1.Limbs.length ≤ n) (TotX.of (Tot.loop (fun m v => ∃ x y : Nat, v = (ofI (x : Int), ofI (y : Int)) ∧ Nat.gcd x y = Int.gcd a b ∧ Bd n (x : Int) ∧ Bd n (y : Int) ∧ eucM m x y) _ (60 * n + 1) (fuel_gt (by omega)) ⟨a.natAbs, b.natAbs, rfl, rfl, ha', hb', euc_start ha' hb'⟩ (fun m v hv => ?_))) (fun p hp => ?_)
 ·obtain ⟨x, y, rfl, hg, hx, hy, hm⟩ := hv
  dsimp only
  refine TotX.ite (fun q => ?_) (fun q => ?_)
  ·have hy0 : 0 < y := by
    rcases Nat.eq_zero_or_pos y with z | z
    ·subst z; simp [ofI, toL_zero] at q
    ·exact z
   obtain ⟨w1, b1, e1, f1⟩ := it_word_ok (show (0 : Int) ≤ x by omega) hx (by omega)
   obtain ⟨w2, b2, e2, f2⟩ := it_word_ok (show (0 : Int) ≤ y by omega) hy (by omega)
   rw [e1, bindO_s, e2, bindO_s]
   dsimp only
   refine TotX.bindX (E := fun _ => True) (TotX.ite (fun z => ?_) (fun z => .go trivial)) (fun _ _ => ?_)
   ·simp only [Bool.and_eq_true] at z
    obtain ⟨z1, z2⟩ := z
    obtain ⟨rfl, s1⟩ := f1 z1
    obtain ⟨rfl, s2⟩ := f2 z2
    rw [gcd_loop x y (by omega), bindO_s]
    have hgl : Nat.gcd x y ≤ y := Nat.gcd_le_right x hy0
    obtain ⟨l, h3, h4, h5, h6⟩ := it_split_ok (u := ((Nat.gcd x y : Nat) : Int)) (by omega) (by omega)
    rw [h3, bindO_s, it_signed_eq _ _ (by omega) h4, bindO_s, h5]
    refine .ret ?_
    dsimp only
    rw [hg]; rfl
   ·have hlx := hx.len; have hly := hy.len
    refine TotX.bind (it_divide_ok (ofI_okL _) (ofI_okL _) (by omega) (by omega) (by rw [ofI_val]; omega)) (fun p hp => ?_)
    obtain ⟨p1, p2, p3, p4, p5, p6⟩ := hp
    rw [it_signed_eq _ _ (by omega) p2, bindO_s]
    rw [ofI_val, ofI_val, Int.natAbs_natCast, Int.natAbs_natCast] at p3
    rw [ofI_val, Int.natAbs_natCast] at p4
    have hy2 := (val_bound p2).1
    have hu := (Int.ediv_emod_unique (a := (x : Int)) (b := (y : Int)) (r := val p.2) (q := val p.1) (by omega)).2 ⟨by rw [Int.mul_comm]; omega, hy2, p4⟩
    have hr : val p.2 = ((x % y : Nat) : Int) := by rw [← hu.2]; rfl
    obtain ⟨m', hm1, hm2⟩ := eucM_step hm hy0
    refine .go ⟨m', hm1, y, x % y, ?_, by rw [gcd_step]; exact hg, hy, ?_, hm2⟩
    ·rw [← hr]; rfl
    ·exact hy.le (by rw [Int.natAbs_natCast, Int.natAbs_natCast]; exact Nat.le_of_lt (Nat.mod_lt _ hy0))
  ·have hy0 : y = 0 := by
    rcases Nat.eq_zero_or_pos y with z | z
    ·exact z
    ·exfalso
     have : (ofI (y : Int)).Limbs.length ≠ 0 := fun h => by have := ofI_len0.1 h; omega
     simp at q
     rw [q] at this; simp at this
   subst hy0
   rw [Nat.gcd_zero_right] at hg
   subst hg
   exact .ret ⟨rfl, hx.len⟩
 ·obtain ⟨⟨s, l⟩, q⟩ := p
  obtain ⟨h1, h2⟩ := hp
  dsimp only at h1 h2 ⊢
  refine Tot.guard (okLen_of (by omega)) ?_
  have hl : l = (ofI ((Int.gcd a b : Nat) : Int)).Limbs := by rw [← h1]
  rw [it_signed_eq _ _ (by omega) (by rw [hl]; exact ofI_okL _), bindO_s, hl, ofI_val]
  exact .ok (ofI_congr (by simp))
end Go.Proofs.YtpdjgamdnjfmkaaGreatDoor
