/-
  The contract of interpolate.Arc.
-/
import Derived.Test.YtjdjcjhdaedakaaArB
import Derived.Deep.RegionHeld3
namespace Go.Proofs.Ytjdjcjhdaedakaa
open Go.RowKit

def chordX (r n k : Int) : Int := r * (n * n - k * k) / (n * n + k * k)
def chordY (r n k : Int) : Int := 2 * r * k * n / (n * n + k * k)
def arcXY (kind : Int) (first q : Nat) (x y : Int) : Int × Int := if kind = 3 then rot (first + 4 - q) x (-y) else rot (first + q) x y
def arcPt (kind z tz cx cy r : Int) (first n all i : Nat) : Int × Int × Int :=
  (cx + (arcXY kind first (i / n) (chordX r n ((i % n + 1 : Nat) : Int)) (chordY r n ((i % n + 1 : Nat) : Int))).1,
   cy + (arcXY kind first (i / n) (chordX r n ((i % n + 1 : Nat) : Int)) (chordY r n ((i % n + 1 : Nat) : Int))).2,
   z + (tz - z) * ((i + 1 : Nat) : Int) / (all : Int))
def arcM (x y z kind tx ty tz cx cy : Int) : List (Int × Int × Int) :=
  (List.range ((chordsM (pointD x y cx cy)).toNat * (quartersM x y kind tx ty cx cy).toNat)).map
    (arcPt kind z tz cx cy (pointD x y cx cy) (pointQ x y cx cy).toNat (chordsM (pointD x y cx cy)).toNat ((chordsM (pointD x y cx cy)).toNat * (quartersM x y kind tx ty cx cy).toNat))
def cells3 (l : List (Int × Int × Int)) : List Value := l.flatMap fun p => [.int .i64 p.1, .int .i64 p.2.1, .int .i64 p.2.2]
def ArcPost (w : World) (l : List (Int × Int × Int)) (e : Ending) (w' : World) : Prop :=
  ∃ v, e = .returned (.tuple #[v, .int .i64 0]) ∧ w'.ownsRow w.heap.size 23 3 v l.length (cells3 l) ∧ Kp w w'

theorem chord_facts {R n K : Int} (h1 : 0 < R) (h2 : R ≤ 10000000) (h3 : n ≤ 1000) (h4 : 1 ≤ K) (h5 : K ≤ n) :
    IntKind.i64.wrap (n * n) = n * n ∧ IntKind.i64.wrap (K * K) = K * K ∧ IntKind.i64.wrap (n * n - K * K) = n * n - K * K ∧ IntKind.i64.wrap (R * (n * n - K * K)) = R * (n * n - K * K) ∧ IntKind.i64.wrap (n * n + K * K) = n * n + K * K ∧
    IntKind.i64.wrap ((R * (n * n - K * K)).tdiv (n * n + K * K)) = chordX R n K ∧ IntKind.i64.wrap (2 * R) = 2 * R ∧ IntKind.i64.wrap (2 * R * K) = 2 * R * K ∧ IntKind.i64.wrap (2 * R * K * n) = 2 * R * K * n ∧ IntKind.i64.wrap ((2 * R * K * n).tdiv (n * n + K * K)) = chordY R n K ∧
    ¬ n * n + K * K = 0 ∧ (0 ≤ chordX R n K ∧ chordX R n K ≤ R) ∧ (0 ≤ chordY R n K ∧ chordY R n K ≤ R) := by
  have a1 : n * n ≤ 1000 * 1000 := sq_mono (by omega) h3
  have a2 : 1 * 1 ≤ K * K := sq_mono (by omega) h4
  have a3 : K * K ≤ n * n := sq_mono (by omega) h5
  have a4 : 0 ≤ R * (n * n - K * K) := Int.mul_nonneg (by omega) (by omega)
  have a5 : R * (n * n - K * K) ≤ R * (n * n + K * K) := Int.mul_le_mul_of_nonneg_left (by omega) (by omega)
  have a6 : R * (n * n + K * K) ≤ 10000000 * 2000000 := Int.mul_le_mul h2 (by omega) (by omega) (by omega)
  have b1 : R * K ≤ 10000000 * 1000 := Int.mul_le_mul h2 (by omega) (by omega) (by omega)
  have b2 : 0 ≤ R * K := Int.mul_nonneg (by omega) (by omega)
  have b3 : R * K * n ≤ 10000000000 * 1000 := Int.mul_le_mul b1 h3 (by omega) (by omega)
  have b4 : 0 ≤ R * K * n := Int.mul_nonneg b2 (by omega)
  have c1 : 2 * R * K = 2 * (R * K) := Int.mul_assoc _ _ _
  have c2 : 2 * R * K * n = 2 * (R * K * n) := by rw [c1, Int.mul_assoc]
  have d1 : 2 * (K * n) ≤ n * n + K * K := by
    have e := Int.mul_nonneg (show 0 ≤ n - K by omega) (show 0 ≤ n - K by omega)
    have e2 : (n - K) * (n - K) = n * n - 2 * (K * n) + K * K := by
      rw [Int.sub_mul, Int.mul_sub, Int.mul_sub, Int.mul_comm n K]; omega
    omega
  have d2 : 2 * R * K * n ≤ R * (n * n + K * K) := by
    have e := Int.mul_le_mul_of_nonneg_left d1 (show 0 ≤ R by omega)
    have e3 : R * (2 * (K * n)) = 2 * R * K * n := by
      rw [c2, Int.mul_assoc R K n, ← Int.mul_assoc R 2, Int.mul_comm R 2, Int.mul_assoc]
    omega
  have x1 : 0 ≤ chordX R n K := Int.ediv_nonneg a4 (by omega)
  have x2 : chordX R n K ≤ R := by
    have : chordX R n K < R + 1 := Int.ediv_lt_of_lt_mul (by omega) (by rw [Int.add_mul]; omega)
    omega
  have y1 : 0 ≤ chordY R n K := Int.ediv_nonneg (by omega) (by omega)
  have y2 : chordY R n K ≤ R := by
    have : chordY R n K < R + 1 := Int.ediv_lt_of_lt_mul (by omega) (by rw [Int.add_mul]; omega)
    omega
  refine ⟨IntWalk.i64_in _ (by omega), IntWalk.i64_in _ (by omega), IntWalk.i64_in _ (by omega), IntWalk.i64_in _ (by omega), IntWalk.i64_in _ (by omega), ?_, IntWalk.i64_in _ (by omega), IntWalk.i64_in _ (by omega), IntWalk.i64_in _ (by omega), ?_, by omega, ⟨x1, x2⟩, ⟨y1, y2⟩⟩
  · rw [Int.tdiv_eq_ediv_of_nonneg a4]; exact IntWalk.i64_in _ (by unfold chordX at x1 x2; omega)
  · rw [Int.tdiv_eq_ediv_of_nonneg (by omega)]; exact IntWalk.i64_in _ (by unfold chordY at y1 y2; omega)

theorem arcXY_bd (R k : Int) (f q : Nat) {x y : Int} (hx : 0 ≤ x ∧ x ≤ R) (hy : 0 ≤ y ∧ y ≤ R) : (-R ≤ (arcXY k f q x y).1 ∧ (arcXY k f q x y).1 ≤ R) ∧ (-R ≤ (arcXY k f q x y).2 ∧ (arcXY k f q x y).2 ≤ R) := by
  unfold arcXY
  split
  · exact rot_bd R _ _ _ (by omega) (by omega)
  · exact rot_bd R _ _ _ (by omega) (by omega)

theorem cells3_snoc (l : List (Int × Int × Int)) (p : Int × Int × Int) : cells3 (l ++ [p]) = cells3 l ++ [.int .i64 p.1, .int .i64 p.2.1, .int .i64 p.2.2] := by simp [cells3]
theorem cells3_length (l : List (Int × Int × Int)) : (cells3 l).length = l.length * 3 := by
  induction l with
  | nil => rfl
  | cons p l ih => simp only [cells3, List.flatMap_cons, List.length_append, List.length_cons, List.length_nil] at ih ⊢; omega
theorem take_map_range {α : Type} (g : Nat → α) (T m : Nat) (h : m < T) : ((List.range T).map g).take (m + 1) = ((List.range T).map g).take m ++ [g m] := by
  rw [List.take_succ_eq_append_getElem (by simpa using h)]; simp
theorem arc_step {k z tz cx cy R K PX PY : Int} {f n qn m q j : Nat} {L : List (Int × Int × Int)} (hL : (List.range (n * qn)).map (arcPt k z tz cx cy R f n (n * qn)) = L) (hm : n * q + j = m) (hj : j < n) (hmlt : m < n * qn) (hK : K = (j : Int) + 1)
    (hX : (arcXY k f q (chordX R n K) (chordY R n K)).1 = PX) (hY : (arcXY k f q (chordX R n K) (chordY R n K)).2 = PY) :
    cells3 (L.take m) ++ [.int .i64 (cx + PX), .int .i64 (cy + PY), .int .i64 (z + (tz - z) * ((m : Int) + 1) / ((n : Int) * (qn : Int)))] = cells3 (L.take (m + 1)) := by
  have e1 : m / n = q := by
    rw [← hm, Nat.mul_add_div (by omega), Nat.div_eq_of_lt hj]; omega
  have e2 : m % n = j := by
    rw [← hm, Nat.mul_add_mod, Nat.mod_eq_of_lt hj]
  rw [← hL, take_map_range _ _ _ hmlt, cells3_snoc]
  unfold arcPt
  rw [e1, e2, show (((j + 1 : Nat)) : Int) = K from by rw [hK]; omega, hX, hY, Int.natCast_mul, show (((m + 1 : Nat)) : Int) = (m : Int) + 1 from by omega]
theorem mul_bd {a b A B : Int} (h1 : -A ≤ a ∧ a ≤ A) (h2 : 0 ≤ b ∧ b ≤ B) (hA : 0 ≤ A) : -(A * B) ≤ a * b ∧ a * b ≤ A * B := by
  have e1 : A * b ≤ A * B := Int.mul_le_mul_of_nonneg_left h2.2 hA
  have e2 : a * b ≤ A * b := Int.mul_le_mul_of_nonneg_right h1.2 h2.1
  have e3 : -A * b ≤ a * b := Int.mul_le_mul_of_nonneg_right h1.1 h2.1
  rw [Int.neg_mul] at e3
  omega

theorem info_pos : (Try.prog.info? 23).map (fun i => (i.zero, i.size, i.bytes)) = some (some (.agg #[.int .i64 0, .int .i64 0, .int .i64 0]), 3, 24) := by kernel_rfl

set_option maxRecDepth 100000 in
set_option maxHeartbeats 1000000 in
theorem arc_line (x y z k tx ty tz cx cy r : Int) (w : World) (hk : (k == 3 || k == 4) = false) :
    Calls Try.prog 18 #[.agg #[.int .i64 x, .int .i64 y, .int .i64 z], .agg #[.int .i64 k, .int .i64 tx, .int .i64 ty, .int .i64 tz, .int .i64 cx, .int .i64 cy, .int .i64 r]] w fun e w' => e = .returned (.tuple #[.slice none 0 0, .int .i64 1]) ∧ Kp w w' := by
  go_enter Try.func18, Try.ntmps18
  go_wp2_with (go_at_call 12; refine (quarters_line _ _ _ _ _ _ _ _ _ _ _ hk).mono ?_; rintro e w1 ⟨rfl, hk1⟩; obtain ⟨hc1, hf1⟩ := hk1.see; have hz1 := hk1.size; (try simp only [World.size_alloc] at hz1); have hz1_0 : w.heap.size < w1.heap.size := (by omega); have hz1_1 : w.heap.size + 1 < w1.heap.size := (by omega))
  go_ret2
  exact ⟨rfl, (by repeat (first | exact Kp.refl _ | assumption | (refine Kp.alloc ?_ _) | (refine Kp.drew ?_) | (refine Kp.drewN ?_ _) | (refine Kp.setCell ?_ (by first | omega | (simp only [World.size_alloc]; omega)) _) | (refine Kp.trans ?_ (by assumption))))⟩

set_option maxRecDepth 100000 in
set_option maxHeartbeats 1000000 in
theorem arc_bad (x y z k tx ty tz cx cy r : Int) (w : World) (hx : I64 x) (hy : I64 y) (hz : I64 z) (htx : I64 tx) (hty : I64 ty) (htz : I64 tz) (hcx : I64 cx) (hcy : I64 cy) (hk : (k == 3 || k == 4) = true) (hv : (validM x y z k tx ty tz cx cy r != 0) = true) :
    Calls Try.prog 18 #[.agg #[.int .i64 x, .int .i64 y, .int .i64 z], .agg #[.int .i64 k, .int .i64 tx, .int .i64 ty, .int .i64 tz, .int .i64 cx, .int .i64 cy, .int .i64 r]] w fun e w' => e = .returned (.tuple #[.slice none 0 0, .int .i64 (validM x y z k tx ty tz cx cy r)]) ∧ Kp w w' := by
  go_enter Try.func18, Try.ntmps18
  go_wp2_with (go_at_call 12; refine (quarters_bad _ _ _ _ _ _ _ _ _ _ _ hx hy hz htx hty htz hcx hcy hk hv).mono ?_; rintro e w1 ⟨rfl, hk1⟩; obtain ⟨hc1, hf1⟩ := hk1.see; have hz1 := hk1.size; (try simp only [World.size_alloc] at hz1); have hz1_0 : w.heap.size < w1.heap.size := (by omega); have hz1_1 : w.heap.size + 1 < w1.heap.size := (by omega))
  go_ret2
  exact ⟨rfl, (by repeat (first | exact Kp.refl _ | assumption | (refine Kp.alloc ?_ _) | (refine Kp.drew ?_) | (refine Kp.drewN ?_ _) | (refine Kp.setCell ?_ (by first | omega | (simp only [World.size_alloc]; omega)) _) | (refine Kp.trans ?_ (by assumption))))⟩

set_option maxRecDepth 100000 in
set_option maxHeartbeats 2000000 in
theorem arc_good (x y z k tx ty tz cx cy r : Int) (w : World) (hx : I64 x) (hy : I64 y) (hz : I64 z) (htx : I64 tx) (hty : I64 ty) (htz : I64 tz) (hcx : I64 cx) (hcy : I64 cy) (hk : (k == 3 || k == 4) = true) (hv : (validM x y z k tx ty tz cx cy r != 0) = false) :
    Calls Try.prog 18 #[.agg #[.int .i64 x, .int .i64 y, .int .i64 z], .agg #[.int .i64 k, .int .i64 tx, .int .i64 ty, .int .i64 tz, .int .i64 cx, .int .i64 cy, .int .i64 r]] w (ArcPost w (arcM x y z k tx ty tz cx cy)) := by
  obtain ⟨_, p1, p2, _, x1, y1, z1, _, _, z2, c1, c2, _⟩ := valid0 (by simpa using hk) (by simpa using hv)
  have q1 := pointQ_bd x y cx cy
  have q2 := quartersM_bd x y k tx ty cx cy
  have hch := chordsM_is p1
  have n2 := hch.le (b := 1000) (by omega) (by omega)
  have n1 := hch.1
  clear hch
  obtain ⟨L, hL⟩ : ∃ L, arcM x y z k tx ty tz cx cy = L := ⟨_, rfl⟩
  rw [hL]
  unfold arcM at hL
  obtain ⟨R, hR⟩ : ∃ R, pointD x y cx cy = R := ⟨_, rfl⟩
  rw [hR] at hL p1 p2 n1 n2
  obtain ⟨n, hn⟩ := Int.eq_ofNat_of_zero_le (show 0 ≤ chordsM R by omega)
  obtain ⟨qn, hqn⟩ := Int.eq_ofNat_of_zero_le (show 0 ≤ quartersM x y k tx ty cx cy by omega)
  obtain ⟨f, hf⟩ := Int.eq_ofNat_of_zero_le q1.1
  rw [hn] at hL n1 n2
  rw [hqn] at hL q2
  rw [hf] at hL q1
  simp only [Int.toNat_natCast] at hL
  have HL := Lib.hid hL
  have HR := Lib.hid hR
  have HN := Lib.hid hn
  have HQ := Lib.hid hqn
  have HF := Lib.hid hf
  clear hL hR hn hqn hf
  have t1 : (n : Int) * (qn : Int) ≤ 4000 := by
    have := Int.mul_le_mul n2 q2.2 (by omega) (by omega); omega
  have t2 : 1 ≤ (n : Int) * (qn : Int) := by
    have := Int.mul_le_mul n1 q2.1 (by omega) (by omega); omega
  have t3 : decide (20000 < (n : Int) * (qn : Int)) = false := by simp; omega
  obtain ⟨i0, hi0, iz0, is0, ib0⟩ := info_parts info_pos
  go_enter Try.func18, Try.ntmps18
  go_wp2_with (first | (go_at_call 12; refine (quarters_good _ _ _ _ _ _ _ _ _ _ _ hx hy hz htx hty htz hcx hcy hk hv).mono ?_; rw [HQ.out]; rintro e w1 ⟨rfl, hk1⟩; obtain ⟨hc1, hf1⟩ := hk1.see; have hz1 := hk1.size; (try simp only [World.size_alloc] at hz1); have hz1_0 : w.heap.size < w1.heap.size := (by omega); have hz1_1 : w.heap.size + 1 < w1.heap.size := (by omega)) | (go_at_call 30; refine (point_any _ _ _ _ _ _ hx hy hcx hcy).mono ?_; rw [HR.out, HF.out]; rintro e w2 ⟨rfl, hk2⟩; obtain ⟨hc2, hf2⟩ := hk2.see; have hz2 := hk2.size; (try simp only [World.size_alloc] at hz2); have hz2_0 : w.heap.size < w2.heap.size := (by omega); have hz2_1 : w.heap.size + 1 < w2.heap.size := (by omega)) | (go_at_call 16; refine (chords_any _ _ (by omega)).mono ?_; rw [HN.out]; rintro e w' ⟨rfl, rfl⟩))
  have d1 : w2.cell? ⟨w.heap.size, 2, none⟩ = some (.int .i64 z) := by go_simp
  have d2 : w2.cell? ⟨w.heap.size + 1, 0, none⟩ = some (.int .i64 k) := by go_simp
  have d3 : w2.cell? ⟨w.heap.size + 1, 3, none⟩ = some (.int .i64 tz) := by go_simp
  have d4 : w2.cell? ⟨w.heap.size + 1, 4, none⟩ = some (.int .i64 cx) := by go_simp
  have d5 : w2.cell? ⟨w.heap.size + 1, 5, none⟩ = some (.int .i64 cy) := by go_simp
  have hkw : Kp w w2 := (by repeat (first | exact Kp.refl _ | assumption | (refine Kp.alloc ?_ _) | (refine Kp.drew ?_) | (refine Kp.drewN ?_ _) | (refine Kp.setCell ?_ (by first | omega | (simp only [World.size_alloc]; omega)) _) | (refine Kp.trans ?_ (by assumption))))
  clear hc1 hf1 hk1 hc2 hf2 hk2 hz1 hz2
  go_loopg [13, 45] qn (fun g v i wr => ∃ q : Nat, g + q = qn ∧ i = .int .i64 q ∧ wr.ownsRow w2.heap.size 23 3 v (n * q) (cells3 (L.take (n * q))) ∧ Kp w2 wr)
  case atStart => exact ⟨0, by omega, rfl, by simpa [cells3] using World.ownsRow_nil w2 _ _ _, Kp.refl _⟩
  case round =>
    obtain ⟨q, hq, rfl, hown, hkr⟩ := hrel
    by_cases hlt : q < qn
    · go_wp2_with fail
      obtain ⟨wo, rfl⟩ : ∃ wo : World, wo = wr := ⟨_, rfl⟩
      obtain ⟨go, rfl⟩ : ∃ go : Nat, go = gk := ⟨_, rfl⟩
      go_loopg [13, 15] n (fun g v i wr => ∃ (j : Nat) (K : Int), g + j = n ∧ Hid (K = (j : Int) + 1) ∧ 1 ≤ K ∧ K ≤ (n : Int) + 1 ∧ i = .int .i64 K ∧ wr.ownsRow w2.heap.size 23 3 v (n * q + j) (cells3 (L.take (n * q + j))) ∧ Kp w2 wr)
      case atStart => exact ⟨0, 1, by omega, rfl, by omega, by omega, rfl, by simpa using hown, hkr⟩
      case round =>
        obtain ⟨j, K, hj, HK, hK1, hK2, rfl, hown, hkr⟩ := hrel
        by_cases hlj : K ≤ (n : Int)
        · go_wp2_with fail
          obtain ⟨f1, f2, f3, f4, f5, f6, f7, f8, f9, f10, f11, fx, fy⟩ := chord_facts p1 p2 n2 hK1 hlj
          go_quiet (fail)
          clear f1 f2 f3 f4 f5 f6 f7 f8 f9 f10 f11
          obtain ⟨A, cap, rfl⟩ := own_slice hown
          have hown' := own_drewN hown nq
          have hkr' := hkr.drewN nq
          generalize wr.drewN nq = wr1 at *
          clear hown hkr
          have e1 : wr1.cell? ⟨w.heap.size, 2, none⟩ = some (.int .i64 z) := (hkr'.below.cell (p := ⟨w.heap.size, 2, none⟩) hz2_0).trans d1
          have e2 : wr1.cell? ⟨w.heap.size + 1, 0, none⟩ = some (.int .i64 k) := (hkr'.below.cell (p := ⟨w.heap.size + 1, 0, none⟩) hz2_1).trans d2
          have e3 : wr1.cell? ⟨w.heap.size + 1, 3, none⟩ = some (.int .i64 tz) := (hkr'.below.cell (p := ⟨w.heap.size + 1, 3, none⟩) hz2_1).trans d3
          have e4 : wr1.cell? ⟨w.heap.size + 1, 4, none⟩ = some (.int .i64 cx) := (hkr'.below.cell (p := ⟨w.heap.size + 1, 4, none⟩) hz2_1).trans d4
          have e5 : wr1.cell? ⟨w.heap.size + 1, 5, none⟩ = some (.int .i64 cy) := (hkr'.below.cell (p := ⟨w.heap.size + 1, 5, none⟩) hz2_1).trans d5
          go_upto_if 86 with fail
          go_cut [16, 17] (fun s16 s17 wx => s16 = .int .i64 (arcXY k f q (chordX R n K) (chordY R n K)).1 ∧ s17 = .int .i64 (arcXY k f q (chordX R n K) (chordY R n K)).2 ∧ wr1 = wx)
          case first =>
            by_cases hk3 : k = 3
            · have hk3' : (k == 3) = true := by simp [hk3]
              have Hk3 := Lib.hid hk3
              clear hk3
              go_wp2_with (go_at_call 37; rw [show ((f : Int) - (q : Int) + 4) = ((f + 4 - q : Nat) : Int) from by omega]; refine (turned_any _ _ (f + 4 - q) _ (by omega) (by omega) (by omega)).mono ?_; rintro e w' ⟨rfl, rfl⟩)
              go_meet
              exact ⟨by unfold arcXY; rw [if_pos Hk3.out], by unfold arcXY; rw [if_pos Hk3.out], rfl⟩
            · have hk3' : (k == 3) = false := by simpa using hk3
              have Hk3 := Lib.hid hk3
              clear hk3
              go_wp2_with (go_at_call 37; rw [show ((f : Int) + (q : Int)) = ((f + q : Nat) : Int) from by omega]; refine (turned_any _ _ (f + q) _ (by omega) (by omega) (by omega)).mono ?_; rintro e w' ⟨rfl, rfl⟩)
              go_meet
              exact ⟨by unfold arcXY; rw [if_neg Hk3.out], by unfold arcXY; rw [if_neg Hk3.out], rfl⟩
          case rest =>
            obtain ⟨rfl, rfl, rfl⟩ := hcut
            have hm : n * q + j < n * qn := by
              have h1 : n * (q + 1) ≤ n * qn := Nat.mul_le_mul_left n hlt
              have h2 : j < n := by have := HK.out; omega
              rw [Nat.mul_add] at h1; omega
            have hm4 : n * qn ≤ 4000 := by
              have h : ((n * qn : Nat) : Int) ≤ 4000 := by rw [Int.natCast_mul]; exact t1
              omega
            have bX := arcXY_bd R k f q fx fy
            generalize hmI : n * q + j = m at *
            have HmI := Lib.hid hmI
            clear hmI
            obtain ⟨PX, hPX⟩ : ∃ P, (arcXY k f q (chordX R n K) (chordY R n K)).1 = P := ⟨_, rfl⟩
            obtain ⟨PY, hPY⟩ : ∃ P, (arcXY k f q (chordX R n K) (chordY R n K)).2 = P := ⟨_, rfl⟩
            rw [hPX, hPY] at bX
            rw [hPX, hPY]
            have HPX := Lib.hid hPX
            have HPY := Lib.hid hPY
            clear hPX hPY
            go_upto_region 22 with fail
            have g1 : IntKind.i64.wrap (cx + PX) = cx + PX := IntWalk.i64_in _ (by omega)
            have g2 : IntKind.i64.wrap (cy + PY) = cy + PY := IntWalk.i64_in _ (by omega)
            have g3 : IntKind.i64.wrap (tz - z) = tz - z := IntWalk.i64_in _ (by omega)
            have gm := mul_bd (a := tz - z) (b := (m : Int) + 1) (A := 20000000) (B := 4000) (by omega) (by omega) (by omega)
            have gd := ediv_bd (a := (tz - z) * ((m : Int) + 1)) (b := (n : Int) * (qn : Int)) (c := 20000000 * 4000) (by omega) (by omega) gm.1 gm.2
            have g4 : IntKind.i64.wrap ((tz - z) * ((m : Int) + 1)) = (tz - z) * ((m : Int) + 1) := IntWalk.i64_in _ (by omega)
            have g5 : IntKind.i64.wrap (z + (tz - z) * ((m : Int) + 1) / ((n : Int) * (qn : Int))) = z + (tz - z) * ((m : Int) + 1) / ((n : Int) * (qn : Int)) := IntWalk.i64_in _ (by omega)
            have ag := hown'.lt
            have a0 : (Value.slice A m cap).ownBlock ≠ some w.heap.size := fun h => by have := (ag _ h).1; omega
            have a1 : (Value.slice A m cap).ownBlock ≠ some (w.heap.size + 1) := fun h => by have := (ag _ h).1; omega
            have lz := hkr'.size
            go_region_held3 (fun w' => w'.cell? ⟨w.heap.size, 2, none⟩ = some (.int .i64 z) ∧ w'.cell? ⟨w.heap.size + 1, 3, none⟩ = some (.int .i64 tz) ∧ w'.cell? ⟨w.heap.size + 1, 4, none⟩ = some (.int .i64 cx) ∧ w'.cell? ⟨w.heap.size + 1, 5, none⟩ = some (.int .i64 cy))
              (first
                | go_keep
                | (go_split_ands
                   refine ⟨?_, ?_, ?_, ?_⟩
                   · (rw [hgrow.cell_far _ (by simp; omega) (Ne.symm a0)]; assumption)
                   · (rw [hgrow.cell_far _ (by simp; omega) (Ne.symm a1)]; assumption)
                   · (rw [hgrow.cell_far _ (by simp; omega) (Ne.symm a1)]; assumption)
                   · (rw [hgrow.cell_far _ (by simp; omega) (Ne.symm a1)]; assumption)))
              (first
                | (refine step_append_lies _ (by rfl) _ _ _ (by rfl) w2.heap.size 23 i0 _ 3 24 Try.underlying38 hi0 iz0 is0 ib0 rfl (by omega) (.slice A m cap) m (cells3 (L.take m)) (by rfl) ((hown'.alloc _).drew) ⟨wr1.heap.size, 0, none⟩ 1 1 [.int .i64 (cx + PX), .int .i64 (cy + PY), .int .i64 (z + (tz - z) * ((m : Int) + 1) / ((n : Int) * (qn : Int)))] (by rfl) (by rfl) (World.news_of_block (cs := #[.int .i64 (cx + PX), .int .i64 (cy + PY), .int .i64 (z + (tz - z) * ((m : Int) + 1) / ((n : Int) * (qn : Int)))]) (t := 23) (fr := (0, 0)) (heap_alloc_new wr1 _)) (by simp [Value.oneCell']) (by omega) (by unfold maxLen; omega) (by omega) (by simp; omega) (wr1.heap.size + 1) (by simp) ?_; intro gg cap' w5 hown5 hgrow hat hlt5)
                | (go_simp; go_at_call 38; refine (floor_any _ _ _ ⟨by omega, by omega⟩ ⟨by omega, by omega⟩).mono ?_; rintro e w' ⟨rfl, rfl⟩))
            clear g1 g2 g3 g4 g5
            have hj2 : j < n := by have := HK.out; omega
            have hk5 : Kp w2 w5 := Kp.grown ((hkr'.alloc _).drew) hgrow (fun k hk => (ag _ hk).1)
            rw [arc_step HL.out HmI.out hj2 hm HK.out HPX.out HPY.out] at hown5
            go_wp2_with fail
            go_roundg (gk - 1)
            case measure => omega
            case rel => exact ⟨j + 1, K + 1, by omega, show K + 1 = _ by rw [HK.out]; omega, by omega, by omega, rfl, by rw [← Nat.add_assoc, HmI.out]; exact hown5, hk5⟩
        · have hjn : j = n := by have := HK.out; omega
          subst hjn
          go_wp2_with fail
          go_roundg (go - 1)
          case measure => omega
          case rel => exact ⟨q + 1, by omega, by go_num, by rw [Nat.mul_add, Nat.mul_one]; exact hown, hkr⟩
    · obtain rfl : q = qn := by omega
      have hlen : L.length = n * q := by rw [← HL.out]; simp
      rw [List.take_of_length_le (by omega)] at hown
      obtain ⟨A, cap, rfl⟩ := own_slice hown
      go_wp2_with fail
      go_ret2
      exact ⟨_, rfl, by rw [hlen]; exact own_mono hown hkw.size, hkw.trans hkr⟩

end Go.Proofs.Ytjdjcjhdaedakaa
