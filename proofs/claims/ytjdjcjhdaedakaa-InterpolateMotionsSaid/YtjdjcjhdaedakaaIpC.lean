/-
  The contract of interpolate.Valid.
-/
import Derived.Test.YtjdjcjhdaedakaaIpB
import Derived.Deep.LoopGhost
import Derived.Deep.DeepCutAuto
namespace Go.Proofs.Ytjdjcjhdaedakaa
open Go.RowKit

def badM (n : Int) : Bool := decide (10000000 < dist n 0)
def validM (x y z k tx ty tz cx cy r : Int) : Int :=
  if rightM x y k tx ty cx cy r = false then 1
  else if k = 3 ∨ k = 4 then
    if 10000000 < pointD x y cx cy ∨ badM cx = true ∨ badM cy = true then 11
    else if [x, y, z, tx, ty, tz, cx + pointD x y cx cy, cx - pointD x y cx cy, cy + pointD x y cx cy, cy - pointD x y cx cy].any badM = true then 11 else 0
  else if [x, y, z, tx, ty, tz].any badM = true then 11 else 0

theorem valid_far {x y z k tx ty tz cx cy r : Int} (hr : rightM x y k tx ty cx cy r = true) (hk : (k == 3) = true ∨ (k == 4) = true) (h : 10000000 < pointD x y cx cy ∨ 10000000 < dist cx 0 ∨ 10000000 < dist cy 0) : (11 : Int) = validM x y z k tx ty tz cx cy r := by
  unfold validM badM
  rw [if_neg (by simp [hr]), if_pos (by simpa using hk), if_pos (by simpa using h)]
theorem valid_arc {x y z k tx ty tz cx cy r : Int} (hr : rightM x y k tx ty cx cy r = true) (hk : (k == 3) = true ∨ (k == 4) = true) (h : ¬ (10000000 < pointD x y cx cy ∨ 10000000 < dist cx 0 ∨ 10000000 < dist cy 0)) :
    validM x y z k tx ty tz cx cy r = if [x, y, z, tx, ty, tz, cx + pointD x y cx cy, cx - pointD x y cx cy, cy + pointD x y cx cy, cy - pointD x y cx cy].any badM = true then 11 else 0 := by
  conv => lhs; unfold validM
  rw [if_neg (by simp [hr]), if_pos (by simpa using hk), if_neg (by simpa [badM] using h)]
theorem valid_line {x y z k tx ty tz cx cy r : Int} (hr : rightM x y k tx ty cx cy r = true) (hk : (k == 3) = false ∧ (k == 4) = false) :
    validM x y z k tx ty tz cx cy r = if [x, y, z, tx, ty, tz].any badM = true then 11 else 0 := by
  conv => lhs; unfold validM
  rw [if_neg (by simp [hr]), if_neg (by simpa using hk)]
theorem I64_six {x y z tx ty tz : Int} (hx : I64 x) (hy : I64 y) (hz : I64 z) (htx : I64 tx) (hty : I64 ty) (htz : I64 tz) : ∀ n ∈ [x, y, z, tx, ty, tz], I64 n := by
  simp only [List.mem_cons, List.not_mem_nil, or_false]; rintro n (rfl | rfl | rfl | rfl | rfl | rfl) <;> assumption
theorem I64_ten {x y z tx ty tz cx cy p : Int} (hx : I64 x) (hy : I64 y) (hz : I64 z) (htx : I64 tx) (hty : I64 ty) (htz : I64 tz) (h : 0 ≤ p ∧ p ≤ 10000000 ∧ -10000000 ≤ cx ∧ cx ≤ 10000000 ∧ -10000000 ≤ cy ∧ cy ≤ 10000000) : ∀ n ∈ [x, y, z, tx, ty, tz, cx + p, cx - p, cy + p, cy - p], I64 n := by
  unfold I64 at *
  simp only [List.mem_cons, List.not_mem_nil, or_false]; rintro n (rfl | rfl | rfl | rfl | rfl | rfl | rfl | rfl | rfl | rfl) <;> omega

theorem info_i64 : (Try.prog.info? 2).map (fun i => (i.zero, i.size, i.bytes)) = some (some (.int .i64 0), 1, 8) := by kernel_rfl

set_option maxRecDepth 100000 in
set_option maxHeartbeats 1000000 in
theorem valid_right (x y z k tx ty tz cx cy r : Int) (w : World) (hx : I64 x) (hy : I64 y) (hz : I64 z) (htx : I64 tx) (hty : I64 ty) (htz : I64 tz) (hcx : I64 cx) (hcy : I64 cy) (hr : rightM x y k tx ty cx cy r = true) :
    Calls Try.prog 14 #[.agg #[.int .i64 x, .int .i64 y, .int .i64 z], .agg #[.int .i64 k, .int .i64 tx, .int .i64 ty, .int .i64 tz, .int .i64 cx, .int .i64 cy, .int .i64 r]] w fun e w' => e = .returned (.int .i64 (validM x y z k tx ty tz cx cy r)) ∧ Kp w w' := by
  obtain ⟨i0, hi0, iz0, is0, ib0⟩ := info_parts info_i64
  go_enter Try.func14, Try.ntmps14
  go_upto_if 32 with (first | (go_at_call 33; refine (right_any _ _ _ _ _ _ _ _ _ _ _ hx hy htx hty hcx hcy).mono ?_; rintro e w1 ⟨rfl, hk1⟩; obtain ⟨hc1, hf1⟩ := hk1.see; have hz1 := hk1.size; (try simp only [World.size_alloc] at hz1); have hz1_0 : w.heap.size < w1.heap.size := (by omega); have hz1_1 : w.heap.size + 1 < w1.heap.size := (by omega)) | (go_at_call 29; refine (isArc_any _ _ _ _ _ _ _ _).mono ?_; rintro e w2 ⟨rfl, hk2⟩; obtain ⟨hc2, hf2⟩ := hk2.see; have hz2 := hk2.size; (try simp only [World.size_alloc] at hz2); have hz2_0 : w.heap.size < w2.heap.size := (by omega); have hz2_1 : w.heap.size + 1 < w2.heap.size := (by omega)))
  have hx5 : w1.heap.size < w2.heap.size := by omega
  have hown0 := own_kp (World.ownsRow_lit (base := w.heap.size) (e := 2) (size := 1) w1 #[.int .i64 x, .int .i64 y, .int .i64 z, .int .i64 tx, .int .i64 ty, .int .i64 tz] 6 (by omega) (by unfold maxLen; omega) rfl) hk2
  go_cut [5] (fun s5 wx => ∃ (g cap : Nat) (zs : List Int), s5 = .slice (some ⟨g, 0, none⟩) zs.length cap ∧ zs.length ≤ 10 ∧ wx.ownsRow w.heap.size 2 1 s5 zs.length (zs.map (Value.int .i64)) ∧ Kp w wx ∧ (∀ n ∈ zs, I64 n) ∧ validM x y z k tx ty tz cx cy r = if zs.any badM = true then 11 else 0)
  case first =>
    have hkw : Kp w w2 := (by repeat (first | exact Kp.refl _ | assumption | (refine Kp.alloc ?_ _) | (refine Kp.drew ?_) | (refine Kp.drewN ?_ _) | (refine Kp.setCell ?_ (by first | omega | (simp only [World.size_alloc]; omega)) _) | (refine Kp.trans ?_ (by assumption))))
    have hd1 := (dist_zero cx).1
    have hd2 := (dist_zero cx).2
    have hd3 := (dist_zero cy).1
    have hd4 := (dist_zero cy).2
    have hp0 := pointD_nonneg x y cx cy
    go_wp2_with (first | (go_at_call 30; refine (point_any _ _ _ _ _ _ hx hy hcx hcy).mono ?_; rintro e w3 ⟨rfl, hk3⟩; obtain ⟨hc3, hf3⟩ := hk3.see; have hz3 := hk3.size; (try simp only [World.size_alloc] at hz3); have hz3_0 : w.heap.size < w3.heap.size := (by omega); have hz3_1 : w.heap.size + 1 < w3.heap.size := (by omega); have hown1 := own_kp hown0 hk3) | (go_at_call 34; refine (apart_any _ _ _ (by unfold I64 at *; omega) (by unfold I64 at *; omega) (by omega) (by omega)).mono ?_; rintro e w' ⟨rfl, rfl⟩) | (at_builtin; refine wpList_append_own _ rfl (.tmp 58) (.tmp 79) 58 rfl w.heap.size 2 i0 (.int .i64 0) 1 8 Try.underlying58 hi0 iz0 is0 ib0 rfl (by decide) _ 6 _ rfl (hown1.alloc _) ⟨w3.heap.size, 0, none⟩ 4 4 [.int .i64 (cx + pointD x y cx cy), .int .i64 (cx - pointD x y cx cy), .int .i64 (cy + pointD x y cx cy), .int .i64 (cy - pointD x y cx cy)] rfl rfl (World.news_of_block (heap_alloc_new w3 _)) ?c2 ?c3 ?c4 ?c5 ?_))
    case c2 => simp [Value.oneCell']
    case c3 => unfold maxLen; omega
    case c4 => omega
    case c5 => simp only [World.size_alloc]; omega
    · go_ret
      exact ⟨ret_int (valid_far hr ‹_› (by omega)), (by repeat (first | exact Kp.refl _ | assumption | (refine Kp.alloc ?_ _) | (refine Kp.drew ?_) | (refine Kp.drewN ?_ _) | (refine Kp.setCell ?_ (by first | omega | (simp only [World.size_alloc]; omega)) _) | (refine Kp.trans ?_ (by assumption))))⟩
    · intro v' w4 hown4 hg4 _
      obtain ⟨g, cap, rfl, hgb, _⟩ := hown4.form (by omega)
      have hk4 : Kp w w4 := Kp.own (a := w) (w := w3.alloc _) (Kp.alloc (by repeat (first | exact Kp.refl _ | assumption | (refine Kp.alloc ?_ _) | (refine Kp.drew ?_) | (refine Kp.drewN ?_ _) | (refine Kp.setCell ?_ (by first | omega | (simp only [World.size_alloc]; omega)) _) | (refine Kp.trans ?_ (by assumption)))) _) (hown1.alloc _) hg4 (Nat.le_refl _)
      go_wp2_with fail
      go_meet
      exact ⟨g, cap, [x, y, z, tx, ty, tz, cx + pointD x y cx cy, cx - pointD x y cx cy, cy + pointD x y cx cy, cy - pointD x y cx cy], rfl, by simp, hown4, hk4, I64_ten hx hy hz htx hty htz (by omega), valid_arc hr ‹_› (by omega)⟩
    · go_ret
      exact ⟨ret_int (valid_far hr ‹_› (by omega)), (by repeat (first | exact Kp.refl _ | assumption | (refine Kp.alloc ?_ _) | (refine Kp.drew ?_) | (refine Kp.drewN ?_ _) | (refine Kp.setCell ?_ (by first | omega | (simp only [World.size_alloc]; omega)) _) | (refine Kp.trans ?_ (by assumption))))⟩
    · go_ret
      exact ⟨ret_int (valid_far hr ‹_› (by omega)), (by repeat (first | exact Kp.refl _ | assumption | (refine Kp.alloc ?_ _) | (refine Kp.drew ?_) | (refine Kp.drewN ?_ _) | (refine Kp.setCell ?_ (by first | omega | (simp only [World.size_alloc]; omega)) _) | (refine Kp.trans ?_ (by assumption))))⟩
    · go_meet
      exact ⟨w1.heap.size, 6, [x, y, z, tx, ty, tz], rfl, by simp, hown0, hkw, I64_six hx hy hz htx hty htz, valid_line hr ‹_›⟩
  case rest =>
    obtain ⟨g, cap, zs, rfl, hlen, hown, hkc, hzs, hval⟩ := hcut
    have Hval := Lib.hid hval
    clear hval
    clear hown0 hx5 hk1 hc1 hf1 hk2 hc2 hf2
    have hcell : ∀ j, j < zs.length → wc.cell? ⟨g, j, none⟩ = some (.int .i64 (zs.getD j 0)) := fun j hj => by
      rw [hown.cellAt j (by omega)]; simp [hj]
    go_wp2_with fail
    go_loopg [83] zs.length (fun n i wr => ∃ j : Nat, n + j = zs.length ∧ i = .int .i64 j ∧ wr = wc ∧ (zs.take j).any badM = false)
    case atStart => exact ⟨0, by omega, rfl, rfl, by simp⟩
    case round =>
      obtain ⟨j, hj, rfl, rfl, hbad⟩ := hrel
      by_cases hlt : j < zs.length
      · have hc := hcell j hlt
        have hi := hzs (zs.getD j 0) (by simp [hlt])
        have hn1 := hi.1
        have hn2 := hi.2
        have hs : (zs.take (j + 1)).any badM = ((zs.take j).any badM || badM (zs.getD j 0)) := by
          rw [List.take_succ_eq_append_getElem hlt, List.any_append]; simp [hlt]
        have Hs := Lib.hid hs
        clear hs hcell hi
        generalize zs.getD j 0 = n at *
        by_cases hb : 10000000 < dist n 0
        · go_wp2_with (go_at_call 34; refine (apart_any _ _ _ (by omega) (by omega) (by omega) (by omega)).mono ?_; rintro e w' ⟨rfl, rfl⟩)
          go_ret
          refine ⟨ret_int ?_, hkc⟩
          rw [Hval.out, if_pos]
          have h1 : (zs.take (j + 1)).any badM = true := by rw [Hs.out]; simp [badM, hb]
          rw [List.any_eq_true] at h1 ⊢
          obtain ⟨q, hq, hq2⟩ := h1
          exact ⟨q, List.mem_of_mem_take hq, hq2⟩
        · go_wp2_with (go_at_call 34; refine (apart_any _ _ _ (by omega) (by omega) (by omega) (by omega)).mono ?_; rintro e w' ⟨rfl, rfl⟩)
          go_roundg (gk - 1)
          case measure => omega
          case rel => exact ⟨j + 1, by omega, by go_num, rfl, by rw [Hs.out, hbad]; simp [badM, hb]⟩
      · go_wp2_with fail
        go_ret
        refine ⟨ret_int ?_, hkc⟩
        rw [Hval.out, if_neg]
        rw [List.take_of_length_le (by omega)] at hbad
        simp [hbad]

theorem valid_any (x y z k tx ty tz cx cy r : Int) (w : World) (hx : I64 x) (hy : I64 y) (hz : I64 z) (htx : I64 tx) (hty : I64 ty) (htz : I64 tz) (hcx : I64 cx) (hcy : I64 cy) :
    Calls Try.prog 14 #[.agg #[.int .i64 x, .int .i64 y, .int .i64 z], .agg #[.int .i64 k, .int .i64 tx, .int .i64 ty, .int .i64 tz, .int .i64 cx, .int .i64 cy, .int .i64 r]] w fun e w' => e = .returned (.int .i64 (validM x y z k tx ty tz cx cy r)) ∧ Kp w w' := by
  cases hr : rightM x y k tx ty cx cy r
  · go_enter Try.func14, Try.ntmps14
    go_wp2_with (go_at_call 33; refine (right_any _ _ _ _ _ _ _ _ _ _ _ hx hy htx hty hcx hcy).mono ?_; rintro e w1 ⟨rfl, hk1⟩; obtain ⟨hc1, hf1⟩ := hk1.see; have hz1 := hk1.size; (try simp only [World.size_alloc] at hz1); have hz1_0 : w.heap.size < w1.heap.size := (by omega); have hz1_1 : w.heap.size + 1 < w1.heap.size := (by omega))
    go_ret
    exact ⟨ret_int (by unfold validM; rw [if_pos hr]), (by repeat (first | exact Kp.refl _ | assumption | (refine Kp.alloc ?_ _) | (refine Kp.drew ?_) | (refine Kp.drewN ?_ _) | (refine Kp.setCell ?_ (by first | omega | (simp only [World.size_alloc]; omega)) _) | (refine Kp.trans ?_ (by assumption))))⟩
  · exact valid_right x y z k tx ty tz cx cy r w hx hy hz htx hty htz hcx hcy hr

end Go.Proofs.Ytjdjcjhdaedakaa
