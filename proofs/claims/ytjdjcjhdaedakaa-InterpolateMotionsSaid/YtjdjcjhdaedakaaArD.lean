/-
  The contract of swarfref33.Arc: the same positions.
-/
import Derived.Test.YtjdjcjhdaedakaaArC
namespace Go.Proofs.Ytjdjcjhdaedakaa
open Go.RowKit

set_option maxRecDepth 100000 in
set_option maxHeartbeats 1000000 in
theorem rarcs_line (x y z k tx ty tz cx cy r : Int) (w : World) (hk : (k == 3 || k == 4) = false) :
    Calls Try.prog 19 #[.agg #[.int .i64 x, .int .i64 y, .int .i64 z], .agg #[.int .i64 k, .int .i64 tx, .int .i64 ty, .int .i64 tz, .int .i64 cx, .int .i64 cy, .int .i64 r]] w fun e w' => e = .returned (.tuple #[.slice none 0 0, .int .i64 1]) ∧ Kp w w' := by
  go_enter Try.func19, Try.ntmps19
  go_wp2_with (go_at_call 13; refine (rquarters_line _ _ _ _ _ _ _ _ _ _ _ hk).mono ?_; rintro e w1 ⟨rfl, hk1⟩; obtain ⟨hc1, hf1⟩ := hk1.see; have hz1 := hk1.size; (try simp only [World.size_alloc] at hz1); have hz1_0 : w.heap.size < w1.heap.size := (by omega); have hz1_1 : w.heap.size + 1 < w1.heap.size := (by omega))
  go_ret2
  exact ⟨rfl, (by repeat (first | exact Kp.refl _ | assumption | (refine Kp.alloc ?_ _) | (refine Kp.drew ?_) | (refine Kp.drewN ?_ _) | (refine Kp.setCell ?_ (by first | omega | (simp only [World.size_alloc]; omega)) _) | (refine Kp.trans ?_ (by assumption))))⟩

set_option maxRecDepth 100000 in
set_option maxHeartbeats 1000000 in
theorem rarcs_bad (x y z k tx ty tz cx cy r : Int) (w : World) (hx : I64 x) (hy : I64 y) (htx : I64 tx) (hty : I64 ty) (hcx : I64 cx) (hcy : I64 cy) (hk : (k == 3 || k == 4) = true) (hv : (validM x y z k tx ty tz cx cy r != 0) = true) :
    Calls Try.prog 19 #[.agg #[.int .i64 x, .int .i64 y, .int .i64 z], .agg #[.int .i64 k, .int .i64 tx, .int .i64 ty, .int .i64 tz, .int .i64 cx, .int .i64 cy, .int .i64 r]] w fun e w' => e = .returned (.tuple #[.slice none 0 0, .int .i64 (validM x y z k tx ty tz cx cy r)]) ∧ Kp w w' := by
  go_enter Try.func19, Try.ntmps19
  go_wp2_with (go_at_call 13; refine (rquarters_bad _ _ _ _ _ _ _ _ _ _ _ hx hy htx hty hcx hcy hk hv).mono ?_; rintro e w1 ⟨rfl, hk1⟩; obtain ⟨hc1, hf1⟩ := hk1.see; have hz1 := hk1.size; (try simp only [World.size_alloc] at hz1); have hz1_0 : w.heap.size < w1.heap.size := (by omega); have hz1_1 : w.heap.size + 1 < w1.heap.size := (by omega))
  go_ret2
  exact ⟨rfl, (by repeat (first | exact Kp.refl _ | assumption | (refine Kp.alloc ?_ _) | (refine Kp.drew ?_) | (refine Kp.drewN ?_ _) | (refine Kp.setCell ?_ (by first | omega | (simp only [World.size_alloc]; omega)) _) | (refine Kp.trans ?_ (by assumption))))⟩

theorem rot_cw (f q : Nat) (x y : Int) (hq : q ≤ 4) : rot ((f + 3 * q) % 4) x y = rot (f + 4 - q) x y := by
  rw [rot_mod, ← rot_mod (f + 4 - q), ← rot_mod (f + 3 * q), show (f + 3 * q) % 4 = (f + 4 - q) % 4 from by omega]

set_option maxRecDepth 100000 in
set_option maxHeartbeats 2000000 in
theorem rarcs_good (x y z k tx ty tz cx cy r : Int) (w : World) (hx : I64 x) (hy : I64 y) (htx : I64 tx) (hty : I64 ty) (hcx : I64 cx) (hcy : I64 cy) (hk : (k == 3 || k == 4) = true) (hv : (validM x y z k tx ty tz cx cy r != 0) = false) :
    Calls Try.prog 19 #[.agg #[.int .i64 x, .int .i64 y, .int .i64 z], .agg #[.int .i64 k, .int .i64 tx, .int .i64 ty, .int .i64 tz, .int .i64 cx, .int .i64 cy, .int .i64 r]] w (ArcPost w (arcM x y z k tx ty tz cx cy)) := by
  obtain ⟨_, p1, p2, _, x1, y1, z1, x2, y2, z2, c1, c2, _⟩ := valid0 (by simpa using hk) (by simpa using hv)
  have q1 := pointQ_bd x y cx cy
  have q2 := quartersM_bd x y k tx ty cx cy
  have hch := chordsM_is p1
  have n2 := hch.le (b := 1000) (by omega) (by omega)
  have n1 := hch.1
  clear hch
  obtain ⟨L, hL⟩ : ∃ L, arcM x y z k tx ty tz cx cy = L := ⟨_, rfl⟩
  rw [hL]
  unfold arcM at hL
  obtain ⟨R, hR⟩ : ∃ R, pointD x y cx cy = R := ⟨_, rfl⟩
  rw [hR] at hL p1 p2 n1 n2
  obtain ⟨n, hn⟩ := Int.eq_ofNat_of_zero_le (show 0 ≤ chordsM R by omega)
  obtain ⟨qn, hqn⟩ := Int.eq_ofNat_of_zero_le (show 0 ≤ quartersM x y k tx ty cx cy by omega)
  obtain ⟨f, hf⟩ := Int.eq_ofNat_of_zero_le q1.1
  rw [hn] at hL n1 n2
  rw [hqn] at hL q2
  rw [hf] at hL q1
  simp only [Int.toNat_natCast] at hL
  have HL := Lib.hid hL
  have hqd := quad_pointQ x y cx cy (by omega)
  rw [hf] at hqd
  have HQD := Lib.hid hqd
  have hpd := quad_point x y cx cy
  rw [hR] at hpd
  have HPD := Lib.hid hpd
  clear hqd hpd
  have HR := Lib.hid hR
  have HN := Lib.hid hn
  have HQ := Lib.hid hqn
  have HF := Lib.hid hf
  clear hL hR hn hqn hf
  have t1 : (n : Int) * (qn : Int) ≤ 4000 := by
    have := Int.mul_le_mul n2 q2.2 (by omega) (by omega); omega
  have t2 : 1 ≤ (n : Int) * (qn : Int) := by
    have := Int.mul_le_mul n1 q2.1 (by omega) (by omega); omega
  have t4 : (qn : Int) * (n : Int) = (n : Int) * (qn : Int) := Int.mul_comm _ _
  have hm4 : n * qn ≤ 4000 := by
    have h : ((n * qn : Nat) : Int) ≤ 4000 := by rw [Int.natCast_mul]; exact t1
    omega
  have t5 : ((n * qn : Nat) : Int) = (n : Int) * (qn : Int) := Int.natCast_mul _ _
  have T5 := Lib.hid t5
  clear t5
  obtain ⟨i0, hi0, iz0, is0, ib0⟩ := info_parts info_pos
  go_enter Try.func19, Try.ntmps19
  go_wp2_with (first | (go_at_call 13; refine (rquarters_good _ _ _ _ _ _ _ _ _ _ _ hx hy htx hty hcx hcy hk hv).mono ?_; rw [HQ.out]; rintro e w1 ⟨rfl, hk1⟩; obtain ⟨hc1, hf1⟩ := hk1.see; have hz1 := hk1.size; (try simp only [World.size_alloc] at hz1); have hz1_0 : w.heap.size < w1.heap.size := (by omega); have hz1_1 : w.heap.size + 1 < w1.heap.size := (by omega)) | (go_at_call 32; refine (quadrant_any _ _ _ (by omega) (by omega) (by omega) (by omega)).mono ?_; rw [HPD.out, HQD.out]; rintro e w' ⟨rfl, rfl⟩) | (go_at_call 39; refine (rchords_any _ _ (by omega)).mono ?_; rw [HN.out]; rintro e w' ⟨rfl, rfl⟩))
  have d1 : w1.cell? ⟨w.heap.size, 2, none⟩ = some (.int .i64 z) := by go_simp
  have d2 : w1.cell? ⟨w.heap.size + 1, 0, none⟩ = some (.int .i64 k) := by go_simp
  have d3 : w1.cell? ⟨w.heap.size + 1, 3, none⟩ = some (.int .i64 tz) := by go_simp
  have d4 : w1.cell? ⟨w.heap.size + 1, 4, none⟩ = some (.int .i64 cx) := by go_simp
  have d5 : w1.cell? ⟨w.heap.size + 1, 5, none⟩ = some (.int .i64 cy) := by go_simp
  have hkw : Kp w w1 := (by repeat (first | exact Kp.refl _ | assumption | (refine Kp.alloc ?_ _) | (refine Kp.drew ?_) | (refine Kp.drewN ?_ _) | (refine Kp.setCell ?_ (by first | omega | (simp only [World.size_alloc]; omega)) _) | (refine Kp.trans ?_ (by assumption))))
  clear hc1 hf1 hk1 hz1
  go_loopg [12, 13] (n * qn) (fun g v i wr => ∃ m : Nat, g + m = n * qn ∧ i = .int .i64 m ∧ wr.ownsRow w1.heap.size 23 3 v m (cells3 (L.take m)) ∧ Kp w1 wr)
  case atStart => exact ⟨0, by omega, rfl, by simpa [cells3] using World.ownsRow_nil w1 _ _ _, Kp.refl _⟩
  case round =>
    obtain ⟨m, hg, rfl, hown, hkr⟩ := hrel
    obtain ⟨A, cap, rfl⟩ := own_slice hown
    by_cases hlt : m < n * qn
    · have hltI : (m : Int) < (n : Int) * (qn : Int) := by have := T5.out; omega
      have hq : m / n < qn := Nat.div_lt_of_lt_mul hlt
      have hj : m % n < n := Nat.mod_lt _ (by omega)
      have hmI : n * (m / n) + m % n = m := Nat.div_add_mod m n
      have eq1 : (m : Int) / (n : Int) = ((m / n : Nat) : Int) := (Int.natCast_ediv m n).symm
      have eq2 : (m : Int) % (n : Int) = ((m % n : Nat) : Int) := (Int.natCast_emod m n).symm
      generalize m / n = q at *
      generalize m % n = j at *
      have HmI := Lib.hid hmI
      clear hmI
      go_upto_region 12 with fail
      obtain ⟨K, hK⟩ : ∃ K : Int, (j : Int) + 1 = K := ⟨_, rfl⟩
      rw [hK]
      have HK := Lib.hid hK.symm
      have hK1 : 1 ≤ K := by omega
      have hK2 : K ≤ (n : Int) := by omega
      clear hK
      obtain ⟨f1, f2, f3, f4, f5, f6, f7, f8, f9, f10, f11, fx, fy⟩ := chord_facts p1 p2 n2 hK1 hK2
      go_quiet (fail)
      clear f1 f2 f3 f4 f5 f6 f7 f8 f9 f10 f11
      have hown' := own_drewN hown nq
      have hkr' := hkr.drewN nq
      generalize wr.drewN nq = wr1 at *
      clear hown hkr
      have e1 : wr1.cell? ⟨w.heap.size, 2, none⟩ = some (.int .i64 z) := (hkr'.below.cell (p := ⟨w.heap.size, 2, none⟩) hz1_0).trans d1
      have e2 : wr1.cell? ⟨w.heap.size + 1, 0, none⟩ = some (.int .i64 k) := (hkr'.below.cell (p := ⟨w.heap.size + 1, 0, none⟩) hz1_1).trans d2
      have e3 : wr1.cell? ⟨w.heap.size + 1, 3, none⟩ = some (.int .i64 tz) := (hkr'.below.cell (p := ⟨w.heap.size + 1, 3, none⟩) hz1_1).trans d3
      have e4 : wr1.cell? ⟨w.heap.size + 1, 4, none⟩ = some (.int .i64 cx) := (hkr'.below.cell (p := ⟨w.heap.size + 1, 4, none⟩) hz1_1).trans d4
      have e5 : wr1.cell? ⟨w.heap.size + 1, 5, none⟩ = some (.int .i64 cy) := (hkr'.below.cell (p := ⟨w.heap.size + 1, 5, none⟩) hz1_1).trans d5
      go_upto_if 97 with fail
      go_cut [16, 17] (fun s16 s17 wx => ∃ (b : Int) (t : Nat), s16 = .int .i64 b ∧ s17 = .int .i64 t ∧ (-R ≤ b ∧ b ≤ R) ∧ t ≤ 100 ∧ Hid (rot (t % 4) (chordX R n K) b = arcXY k f q (chordX R n K) (chordY R n K)) ∧ wr1 = wx)
      case first =>
        by_cases hk3 : k = 3
        · have hk3' : (k == 3) = true := by simp [hk3]
          have Hk3 := Lib.hid hk3
          clear hk3
          go_wp2_with fail
          go_meet
          exact ⟨_, f + 3 * q, rfl, by go_num, by omega, by omega, by unfold arcXY; rw [if_pos Hk3.out]; exact rot_cw f q _ _ (by omega), rfl⟩
        · have hk3' : (k == 3) = false := by simpa using hk3
          have Hk3 := Lib.hid hk3
          clear hk3
          go_wp2_with fail
          go_meet
          exact ⟨_, f + q, rfl, by go_num, by omega, by omega, by unfold arcXY; rw [if_neg Hk3.out]; exact rot_mod _ _ _, rfl⟩
      case rest =>
        obtain ⟨b, t, rfl, rfl, hb, ht, Hrot, rfl⟩ := hcut
        have bX := arcXY_bd R k f q fx fy
        have et : (t : Int) % 4 = ((t % 4 : Nat) : Int) := (Int.natCast_emod t 4).symm
        have ht4 : t % 4 ≤ 3 := by omega
        generalize t % 4 = t4 at *
        obtain ⟨PX, hPX⟩ : ∃ P, (arcXY k f q (chordX R n K) (chordY R n K)).1 = P := ⟨_, rfl⟩
        obtain ⟨PY, hPY⟩ : ∃ P, (arcXY k f q (chordX R n K) (chordY R n K)).2 = P := ⟨_, rfl⟩
        rw [hPX, hPY] at bX
        have HPX := Lib.hid hPX
        have HPY := Lib.hid hPY
        clear hPX hPY
        go_upto_region 18 with (go_at_call 40; refine (rturned_any _ _ t4 _ (by omega) (by omega) (by omega)).mono ?_; rw [Hrot.out, HPX.out, HPY.out]; rintro e w' ⟨rfl, rfl⟩)
        have g1 : IntKind.i64.wrap (cx + PX) = cx + PX := IntWalk.i64_in _ (by omega)
        have g2 : IntKind.i64.wrap (cy + PY) = cy + PY := IntWalk.i64_in _ (by omega)
        have g3 : IntKind.i64.wrap (tz - z) = tz - z := IntWalk.i64_in _ (by omega)
        have g6 : IntKind.i64.wrap ((m : Int) + 1) = (m : Int) + 1 := IntWalk.i64_in _ (by omega)
        have gm := mul_bd (a := tz - z) (b := (m : Int) + 1) (A := 20000000) (B := 4000) (by omega) (by omega) (by omega)
        have gd := ediv_bd (a := (tz - z) * ((m : Int) + 1)) (b := (n : Int) * (qn : Int)) (c := 20000000 * 4000) (by omega) (by omega) gm.1 gm.2
        have g4 : IntKind.i64.wrap ((tz - z) * ((m : Int) + 1)) = (tz - z) * ((m : Int) + 1) := IntWalk.i64_in _ (by omega)
        have g5 : IntKind.i64.wrap (z + (tz - z) * ((m : Int) + 1) / ((n : Int) * (qn : Int))) = z + (tz - z) * ((m : Int) + 1) / ((n : Int) * (qn : Int)) := IntWalk.i64_in _ (by omega)
        have ag := hown'.lt
        have a0 : (Value.slice A m cap).ownBlock ≠ some w.heap.size := fun h => by have := (ag _ h).1; omega
        have a1 : (Value.slice A m cap).ownBlock ≠ some (w.heap.size + 1) := fun h => by have := (ag _ h).1; omega
        have lz := hkr'.size
        go_region_held3 (fun w' => w'.cell? ⟨w.heap.size, 2, none⟩ = some (.int .i64 z) ∧ w'.cell? ⟨w.heap.size + 1, 3, none⟩ = some (.int .i64 tz) ∧ w'.cell? ⟨w.heap.size + 1, 4, none⟩ = some (.int .i64 cx) ∧ w'.cell? ⟨w.heap.size + 1, 5, none⟩ = some (.int .i64 cy))
          (first
            | go_keep
            | (go_split_ands
               refine ⟨?_, ?_, ?_, ?_⟩
               · (rw [hgrow.cell_far _ (by simp; omega) (Ne.symm a0)]; assumption)
               · (rw [hgrow.cell_far _ (by simp; omega) (Ne.symm a1)]; assumption)
               · (rw [hgrow.cell_far _ (by simp; omega) (Ne.symm a1)]; assumption)
               · (rw [hgrow.cell_far _ (by simp; omega) (Ne.symm a1)]; assumption)))
          (first
            | (refine step_append_lies _ (by rfl) _ _ _ (by rfl) w1.heap.size 23 i0 _ 3 24 Try.underlying38 hi0 iz0 is0 ib0 rfl (by omega) (.slice A m cap) m (cells3 (L.take m)) (by rfl) ((hown'.alloc _).drew) ⟨wr1.heap.size, 0, none⟩ 1 1 [.int .i64 (cx + PX), .int .i64 (cy + PY), .int .i64 (z + (tz - z) * ((m : Int) + 1) / ((n : Int) * (qn : Int)))] (by rfl) (by rfl) (World.news_of_block (cs := #[.int .i64 (cx + PX), .int .i64 (cy + PY), .int .i64 (z + (tz - z) * ((m : Int) + 1) / ((n : Int) * (qn : Int)))]) (t := 23) (fr := (0, 0)) (heap_alloc_new wr1 _)) (by simp [Value.oneCell']) (by omega) (by unfold maxLen; omega) (by omega) (by simp; omega) (wr1.heap.size + 1) (by simp) ?_; intro gg cap' w5 hown5 hgrow hat hlt5)
            | (go_simp; go_at_call 41; refine (down_any _ _ _ ⟨by omega, by omega⟩ ⟨by omega, by omega⟩).mono ?_; rintro e w' ⟨rfl, rfl⟩))
        clear g1 g2 g3 g4 g5 g6
        have hk5 : Kp w1 w5 := Kp.grown ((hkr'.alloc _).drew) hgrow (fun k hk => (ag _ hk).1)
        rw [arc_step HL.out HmI.out hj hlt HK.out HPX.out HPY.out] at hown5
        go_wp2_with fail
        go_roundg (gk - 1)
        case measure => omega
        case rel => exact ⟨m + 1, by omega, by go_num, hown5, hk5⟩
    · have hmn : m = n * qn := by omega
      have hltI : ¬ (m : Int) < (n : Int) * (qn : Int) := by have := T5.out; omega
      have hlen : L.length = n * qn := by rw [← HL.out]; simp
      rw [List.take_of_length_le (by omega)] at hown
      have hl2 : L.length = m := by omega
      have Hmn := Lib.hid hmn
      have Hl2 := Lib.hid hl2
      clear hmn hlen hl2
      go_wp2_with fail
      go_ret2
      exact ⟨_, rfl, by rw [Hl2.out]; exact own_mono hown hkw.size, hkw.trans hkr⟩

end Go.Proofs.Ytjdjcjhdaedakaa
