/-
  Moves as lists of numbers; a block of three numbers known whole; the contract of swarfref33.Few.
-/
import Derived.Test.YtjdjcjhdaedakaaLwA
import Derived.Deep.RegionWith
namespace Go.Proofs.Ytjdjcjhdaedakaa
open Go.RowKit

structure Mv where
  k : Int
  x : Int
  y : Int
  z : Int
  cx : Int
  cy : Int
  r : Int

def cells7 (l : List Mv) : List Value := l.flatMap fun m => [.int .i64 m.k, .int .i64 m.x, .int .i64 m.y, .int .i64 m.z, .int .i64 m.cx, .int .i64 m.cy, .int .i64 m.r]
def Mv.ok (m : Mv) : Prop := I64 m.k ∧ I64 m.x ∧ I64 m.y ∧ I64 m.z ∧ I64 m.cx ∧ I64 m.cy ∧ I64 m.r
def Mv.arc (m : Mv) : Bool := m.k == 3 || m.k == 4
def Mv.valid (x y z : Int) (m : Mv) : Int := validM x y z m.k m.x m.y m.z m.cx m.cy m.r
theorem cells7_at {l : List Mv} {i : Nat} (h : i < l.length) : (cells7 l)[i * 7]? = some (.int .i64 (l[i]'h).k) ∧ (cells7 l)[i * 7 + 1]? = some (.int .i64 (l[i]'h).x) ∧ (cells7 l)[i * 7 + 2]? = some (.int .i64 (l[i]'h).y) ∧ (cells7 l)[i * 7 + 3]? = some (.int .i64 (l[i]'h).z) ∧
    (cells7 l)[i * 7 + 4]? = some (.int .i64 (l[i]'h).cx) ∧ (cells7 l)[i * 7 + 5]? = some (.int .i64 (l[i]'h).cy) ∧ (cells7 l)[i * 7 + 6]? = some (.int .i64 (l[i]'h).r) := by
  induction l generalizing i with
  | nil => simp at h
  | cons p l ih =>
    have e : cells7 (p :: l) = .int .i64 p.k :: .int .i64 p.x :: .int .i64 p.y :: .int .i64 p.z :: .int .i64 p.cx :: .int .i64 p.cy :: .int .i64 p.r :: cells7 l := by simp [cells7]
    cases i with
    | zero => rw [e]; simp
    | succ i =>
      rw [e]
      have := ih (i := i) (by simpa using h)
      simpa [Nat.add_mul, Nat.succ_mul] using this

/-- Block g is just three numbers, of the type of a position, none frozen. -/
def Bk3 (w : World) (g : Nat) (x y z : Int) : Prop := w.heap[g]? = some (.cells #[.int .i64 x, .int .i64 y, .int .i64 z] 23 (0, 0))
theorem Bk3.lt {w : World} {g : Nat} {x y z : Int} (h : Bk3 w g x y z) : g < w.heap.size := by
  rcases Nat.lt_or_ge g w.heap.size with hlt | hge
  · exact hlt
  · unfold Bk3 at h; rw [Array.getElem?_eq_none hge] at h; cases h
theorem Bk3.cells {w : World} {g : Nat} {x y z : Int} (h : Bk3 w g x y z) : w.cell? ⟨g, 0, none⟩ = some (.int .i64 x) ∧ w.cell? ⟨g, 1, none⟩ = some (.int .i64 y) ∧ w.cell? ⟨g, 2, none⟩ = some (.int .i64 z) := by
  refine ⟨?_, ?_, ?_⟩ <;> (rw [cell_of_row w g _ _ _ _ h]; rfl)
theorem Bk3.free {w : World} {g : Nat} {x y z : Int} (h : Bk3 w g x y z) (i : Nat) : w.frozen? ⟨g, i, none⟩ = false := by
  unfold Bk3 at h; simp [World.frozen?, h]
theorem Bk3.kp {w w' : World} {g : Nat} {x y z : Int} (h : Bk3 w g x y z) (hk : Kp w w') : Bk3 w' g x y z := (hk.below.block g h.lt).trans h
theorem Bk3.drew {w : World} {g : Nat} {x y z : Int} (h : Bk3 w g x y z) : Bk3 w.drew g x y z := h
theorem Bk3.new (w : World) (x y z : Int) : Bk3 (w.alloc (.cells #[.int .i64 x, .int .i64 y, .int .i64 z] 23)) w.heap.size x y z := heap_alloc_new w _
theorem Bk3.put {w : World} {g : Nat} {x y z : Int} (h : Bk3 w g x y z) (a b c : Int) : Bk3 (((w.setCell ⟨g, 0, none⟩ (.int .i64 a)).setCell ⟨g, 1, none⟩ (.int .i64 b)).setCell ⟨g, 2, none⟩ (.int .i64 c)) g a b c := by
  unfold Bk3 at h ⊢
  simp [World.setCell, Array.getElem?_modify, h]

def fewM : Int → Int → Int → List Mv → Bool
  | _, _, _, [] => true
  | x, y, z, m :: l => if Mv.valid x y z m = 0 then (if m.arc = true ∧ 50000 < dist x m.cx + dist y m.cy then false else fewM m.x m.y m.z l) else true
/-- The position after the first j moves. -/
def posAt (x y z : Int) (l : List Mv) (j : Nat) : Int × Int × Int := match (l.take j).getLast? with | none => (x, y, z) | some m => (m.x, m.y, m.z)
theorem posAt_zero (x y z : Int) (l : List Mv) : posAt x y z l 0 = (x, y, z) := by simp [posAt]
theorem posAt_succ (x y z : Int) (l : List Mv) (j : Nat) (h : j < l.length) : posAt x y z l (j + 1) = (l[j].x, l[j].y, l[j].z) := by
  unfold posAt
  rw [List.take_succ_eq_append_getElem h, List.getLast?_append]
  simp
/-- What remains to be asked after j moves. -/
theorem fewM_drop (l : List Mv) (j : Nat) (h : j < l.length) (x y z : Int) : fewM x y z (l.drop j) = if Mv.valid x y z l[j] = 0 then (if l[j].arc = true ∧ 50000 < dist x l[j].cx + dist y l[j].cy then false else fewM l[j].x l[j].y l[j].z (l.drop (j + 1))) else true := by
  rw [List.drop_eq_getElem_cons h]; rfl

theorem valid_bd {x y z k tx ty tz cx cy r : Int} (h : validM x y z k tx ty tz cx cy r = 0) : (-10000000 ≤ x ∧ x ≤ 10000000) ∧ (-10000000 ≤ y ∧ y ≤ 10000000) := by
  unfold validM at h
  by_cases h1 : rightM x y k tx ty cx cy r = false
  · rw [if_pos h1] at h; omega
  · rw [if_neg h1] at h
    by_cases h2 : k = 3 ∨ k = 4
    · have := valid0 (z := z) (tz := tz) (r := r) h2 (by unfold validM; rw [if_neg h1]; exact h)
      exact ⟨this.2.2.2.2.1, this.2.2.2.2.2.1⟩
    · rw [if_neg h2] at h
      by_cases h3 : [x, y, z, tx, ty, tz].any badM = true
      · rw [if_pos h3] at h; omega
      · simp only [List.any_cons, List.any_nil, Bool.or_eq_true, not_or, Bool.or_false] at h3
        exact ⟨badM_no h3.1, badM_no h3.2.1⟩

set_option maxRecDepth 100000 in
set_option maxHeartbeats 2000000 in
theorem few_any (x y z : Int) (v : Value) (l : List Mv) (most : Int) (w : World) (hx : I64 x) (hy : I64 y) (hz : I64 z) (hrd : Rd w 7 v l.length (cells7 l)) (hok : ∀ m ∈ l, m.ok) (hlen : l.length ≤ 1000000000000) (hm : (l.length : Int) ≤ most) :
    Calls Try.prog 17 #[.agg #[.int .i64 x, .int .i64 y, .int .i64 z], v, .int .i64 most] w fun e w' => e = .returned (.bool (fewM x y z l)) ∧ Kp w w' := by
  obtain ⟨hcl, A, ca, rfl, hA⟩ := hrd
  have Hcl := Lib.hid hcl
  clear hcl
  go_enter Try.func17, Try.ntmps17
  go_wp2_with fail
  go_loopg [7] l.length (fun g i wr => ∃ (j : Nat) (a b c : Int), g + j = l.length ∧ i = .int .i64 j ∧ Hid (fewM x y z l = fewM a b c (l.drop j)) ∧ I64 a ∧ I64 b ∧ I64 c ∧ Bk3 wr w.heap.size a b c ∧ Kp w wr)
  case atStart => exact ⟨0, x, y, z, by omega, rfl, rfl, hx, hy, hz, Bk3.new w x y z, (by repeat (first | exact Kp.refl _ | assumption | (refine Kp.alloc ?_ _) | (refine Kp.drew ?_) | (refine Kp.drewN ?_ _) | (refine Kp.setCell ?_ (by first | omega | (simp only [World.size_alloc]; omega)) _) | (refine Kp.trans ?_ (by assumption))))⟩
  case round =>
    obtain ⟨j, a, b, c, hj, rfl, Hf, ha, hb, hc, hbk, hkr⟩ := hrel
    by_cases hlt : j < l.length
    · obtain ⟨b1, o1, rfl, hb1, hc1⟩ := hA (by omega)
      obtain ⟨p1, p2, p3, p4, p5, p6, p7⟩ := cells7_at hlt
      have hdr := fewM_drop l j hlt a b c
      have hmok := hok _ (List.getElem_mem hlt)
      generalize l[j] = m at *
      have hfx : ∀ w', Kp wr w' → w'.cell? ⟨w.heap.size, 0, none⟩ = some (.int .i64 a) ∧ w'.cell? ⟨w.heap.size, 1, none⟩ = some (.int .i64 b) ∧ w'.cell? ⟨w.heap.size, 2, none⟩ = some (.int .i64 c) ∧ w'.cell? ⟨b1, o1 + j * 7, none⟩ = some (.int .i64 m.k) ∧ w'.cell? ⟨b1, o1 + j * 7 + 1, none⟩ = some (.int .i64 m.x) ∧ w'.cell? ⟨b1, o1 + j * 7 + 2, none⟩ = some (.int .i64 m.y) ∧ w'.cell? ⟨b1, o1 + j * 7 + 3, none⟩ = some (.int .i64 m.z) ∧ w'.cell? ⟨b1, o1 + j * 7 + 4, none⟩ = some (.int .i64 m.cx) ∧ w'.cell? ⟨b1, o1 + j * 7 + 5, none⟩ = some (.int .i64 m.cy) ∧ w'.cell? ⟨b1, o1 + j * 7 + 6, none⟩ = some (.int .i64 m.r) ∧ Kp wr w' := fun w' hk' => by
        have e : ∀ o u, wr.cell? ⟨b1, o, none⟩ = some u → w'.cell? ⟨b1, o, none⟩ = some u := fun o u hu => (hk'.below.cell (p := ⟨b1, o, none⟩) (Nat.lt_of_lt_of_le hb1 hkr.size)).trans hu
        have e2 : ∀ o u, (cells7 l)[o]? = some u → w'.cell? ⟨b1, o1 + o, none⟩ = some u := fun o u hu => e _ _ ((hkr.below.cell (p := ⟨b1, o1 + o, none⟩) hb1).trans (hc1 _ _ hu))
        obtain ⟨y1, y2, y3⟩ := (hbk.kp hk').cells
        exact ⟨y1, y2, y3, e2 _ _ p1, e2 _ _ p2, e2 _ _ p3, e2 _ _ p4, e2 _ _ p5, e2 _ _ p6, e2 _ _ p7, hk'⟩
      have Hfx := Lib.hid hfx
      obtain ⟨y1, y2, y3, x1, x2, x3, x4, x5, x6, x7, _⟩ := hfx wr (Kp.refl _)
      have Hdr := Lib.hid hdr
      obtain ⟨m0, m1, m2, m3, m4, m5, m6⟩ := hmok
      clear hc1 p1 p2 p3 p4 p5 p6 p7 hdr hA hok hfx
      have hj0 : (0 : Int) ≤ (j : Int) := Int.natCast_nonneg _
      have hj1 : (j : Int) < (l.length : Int) := by omega
      go_wp2_with fail
      go_region_held3 (fun w' => w'.cell? ⟨w.heap.size, 0, none⟩ = some (.int .i64 a) ∧ w'.cell? ⟨w.heap.size, 1, none⟩ = some (.int .i64 b) ∧ w'.cell? ⟨w.heap.size, 2, none⟩ = some (.int .i64 c) ∧ w'.cell? ⟨b1, o1 + j * 7, none⟩ = some (.int .i64 m.k) ∧ w'.cell? ⟨b1, o1 + j * 7 + 1, none⟩ = some (.int .i64 m.x) ∧ w'.cell? ⟨b1, o1 + j * 7 + 2, none⟩ = some (.int .i64 m.y) ∧ w'.cell? ⟨b1, o1 + j * 7 + 3, none⟩ = some (.int .i64 m.z) ∧ w'.cell? ⟨b1, o1 + j * 7 + 4, none⟩ = some (.int .i64 m.cx) ∧ w'.cell? ⟨b1, o1 + j * 7 + 5, none⟩ = some (.int .i64 m.cy) ∧ w'.cell? ⟨b1, o1 + j * 7 + 6, none⟩ = some (.int .i64 m.r) ∧ Kp wr w') ((go_split_ands; exact Hfx.out _ (by first | assumption | exact Kp.drew (Kp.refl wr) | (refine Kp.drew ?_; assumption) | exact Kp.trans (by assumption) hk4))) ((go_at_call 15; refine (rvalid_any _ _ _ _ _ _ _ _ _ _ _ ha hb m1 m2 m4 m5).mono ?_; rintro e w4 ⟨rfl, hk4⟩; obtain ⟨hc4, hf4⟩ := hk4.see; have hz4 := hk4.size; (try simp only [World.size_alloc] at hz4)))
      have hk4' : Kp wr w4 := (by repeat (first | exact Kp.refl _ | assumption | (refine Kp.alloc ?_ _) | (refine Kp.drew ?_) | (refine Kp.drewN ?_ _) | (refine Kp.setCell ?_ (by first | omega | (simp only [World.size_alloc]; omega)) _) | (refine Kp.trans ?_ (by assumption))))
      clear hk4 hc4 hf4 hz4 y1 y2 y3 x1 x2 x3 x4 x5 x6 x7
      obtain ⟨y1, y2, y3, x1, x2, x3, x4, x5, x6, x7, _⟩ := Hfx.out w4 hk4'
      by_cases hv : validM a b c m.k m.x m.y m.z m.cx m.cy m.r = 0
      · have hv' : (validM a b c m.k m.x m.y m.z m.cx m.cy m.r != 0) = false := neqz hv
        have hbd := valid_bd hv
        have Hv := Lib.hid hv
        clear hv
        cases hk : (m.k == 3 || m.k == 4)
        · go_upto_region 8 with fail
          go_cut [38] (fun s38 wx => s38 = .bool false ∧ Kp wr wx)
          case first =>
            first | (go_region_with (go_at_call 31; refine (rarc_any _ _ _ _ _ _ _ _).mono ?_; rw [hk]; rintro e w5 ⟨rfl, hk5⟩; obtain ⟨hc5, hf5⟩ := hk5.see; have hz5 := hk5.size; (try simp only [World.size_alloc] at hz5))) | fail
            all_goals
              go_wp2_with fail
              go_meet
              exact ⟨rfl, (by repeat (first | exact Kp.refl _ | assumption | (refine Kp.alloc ?_ _) | (refine Kp.drew ?_) | (refine Kp.drewN ?_ _) | (refine Kp.setCell ?_ (by first | omega | (simp only [World.size_alloc]; omega)) _) | (refine Kp.trans ?_ (by assumption))))⟩
          case rest =>
          obtain ⟨rfl, hk5'⟩ := hcut
          clear y1 y2 y3 x1 x2 x3 x4 x5 x6 x7
          obtain ⟨y1, y2, y3, x1, x2, x3, x4, x5, x6, x7, _⟩ := Hfx.out wc hk5'
          have hbk5 := hbk.kp hk5'
          have f0 := hbk5.free 0
          have f1 := hbk5.free 1
          have f2 := hbk5.free 2
          go_wp2_with fail
          go_roundg (gk - 1)
          case measure => omega
          case rel => exact ⟨j + 1, m.x, m.y, m.z, by omega, by go_num, Lib.hid (by rw [Hf.out, Hdr.out, if_pos (show Mv.valid a b c m = 0 from Hv.out), if_neg (by unfold Mv.arc; rw [hk]; simp)]), m1, m2, m3, hbk5.put _ _ _, (((hkr.trans hk5').setCell (Nat.le_refl _) _).setCell (Nat.le_refl _) _).setCell (Nat.le_refl _) _⟩
        · obtain ⟨_, _, _, _, _, _, _, _, _, _, q1, q2, _⟩ := valid0 (by simpa using hk) Hv.out
          by_cases hr5 : 50000 < dist a m.cx + dist b m.cy
          · go_wp2_with fail
            go_region_held3 (fun w' => w'.cell? ⟨w.heap.size, 0, none⟩ = some (.int .i64 a) ∧ w'.cell? ⟨w.heap.size, 1, none⟩ = some (.int .i64 b) ∧ w'.cell? ⟨w.heap.size, 2, none⟩ = some (.int .i64 c) ∧ w'.cell? ⟨b1, o1 + j * 7, none⟩ = some (.int .i64 m.k) ∧ w'.cell? ⟨b1, o1 + j * 7 + 1, none⟩ = some (.int .i64 m.x) ∧ w'.cell? ⟨b1, o1 + j * 7 + 2, none⟩ = some (.int .i64 m.y) ∧ w'.cell? ⟨b1, o1 + j * 7 + 3, none⟩ = some (.int .i64 m.z) ∧ w'.cell? ⟨b1, o1 + j * 7 + 4, none⟩ = some (.int .i64 m.cx) ∧ w'.cell? ⟨b1, o1 + j * 7 + 5, none⟩ = some (.int .i64 m.cy) ∧ w'.cell? ⟨b1, o1 + j * 7 + 6, none⟩ = some (.int .i64 m.r) ∧ Kp wr w') ((go_split_ands; exact Hfx.out _ (by first | assumption | exact Kp.drew (Kp.refl wr) | (refine Kp.drew ?_; assumption) | exact Kp.trans (by assumption) hk5 | exact Kp.trans (by assumption) hk6))) (first | (go_at_call 31; refine (rarc_any _ _ _ _ _ _ _ _).mono ?_; rw [hk]; rintro e w5 ⟨rfl, hk5⟩; obtain ⟨hc5, hf5⟩ := hk5.see; have hz5 := hk5.size; (try simp only [World.size_alloc] at hz5)) | (go_at_call 21; refine (radius_any _ _ _ _ _ _ _ _ _ _ _ hbd.1 hbd.2 q1 q2).mono ?_; rintro e w6 ⟨rfl, hk6⟩; obtain ⟨hc6, hf6⟩ := hk6.see; have hz6 := hk6.size; (try simp only [World.size_alloc] at hz6)))
            go_wp2_with fail
            go_ret
            refine ⟨ret_bool ?_, (by repeat (first | exact Kp.refl _ | assumption | (refine Kp.alloc ?_ _) | (refine Kp.drew ?_) | (refine Kp.drewN ?_ _) | (refine Kp.setCell ?_ (by first | omega | (simp only [World.size_alloc]; omega)) _) | (refine Kp.trans ?_ (by assumption))))⟩
            rw [Hf.out, Hdr.out, if_pos (show Mv.valid a b c m = 0 from Hv.out), if_pos ⟨hk, hr5⟩]
          · go_wp2_with fail
            go_region_held3 (fun w' => w'.cell? ⟨w.heap.size, 0, none⟩ = some (.int .i64 a) ∧ w'.cell? ⟨w.heap.size, 1, none⟩ = some (.int .i64 b) ∧ w'.cell? ⟨w.heap.size, 2, none⟩ = some (.int .i64 c) ∧ w'.cell? ⟨b1, o1 + j * 7, none⟩ = some (.int .i64 m.k) ∧ w'.cell? ⟨b1, o1 + j * 7 + 1, none⟩ = some (.int .i64 m.x) ∧ w'.cell? ⟨b1, o1 + j * 7 + 2, none⟩ = some (.int .i64 m.y) ∧ w'.cell? ⟨b1, o1 + j * 7 + 3, none⟩ = some (.int .i64 m.z) ∧ w'.cell? ⟨b1, o1 + j * 7 + 4, none⟩ = some (.int .i64 m.cx) ∧ w'.cell? ⟨b1, o1 + j * 7 + 5, none⟩ = some (.int .i64 m.cy) ∧ w'.cell? ⟨b1, o1 + j * 7 + 6, none⟩ = some (.int .i64 m.r) ∧ Kp wr w') ((go_split_ands; exact Hfx.out _ (by first | assumption | exact Kp.drew (Kp.refl wr) | (refine Kp.drew ?_; assumption) | exact Kp.trans (by assumption) hk5 | exact Kp.trans (by assumption) hk6))) (first | (go_at_call 31; refine (rarc_any _ _ _ _ _ _ _ _).mono ?_; rw [hk]; rintro e w5 ⟨rfl, hk5⟩; obtain ⟨hc5, hf5⟩ := hk5.see; have hz5 := hk5.size; (try simp only [World.size_alloc] at hz5)) | (go_at_call 21; refine (radius_any _ _ _ _ _ _ _ _ _ _ _ hbd.1 hbd.2 q1 q2).mono ?_; rintro e w6 ⟨rfl, hk6⟩; obtain ⟨hc6, hf6⟩ := hk6.see; have hz6 := hk6.size; (try simp only [World.size_alloc] at hz6)))
            have hk6' : Kp wr w6 := (by repeat (first | exact Kp.refl _ | assumption | (refine Kp.alloc ?_ _) | (refine Kp.drew ?_) | (refine Kp.drewN ?_ _) | (refine Kp.setCell ?_ (by first | omega | (simp only [World.size_alloc]; omega)) _) | (refine Kp.trans ?_ (by assumption))))
            clear hk5 hc5 hf5 hz5 hk6 hc6 hf6 hz6 y1 y2 y3 x1 x2 x3 x4 x5 x6 x7
            obtain ⟨y1, y2, y3, x1, x2, x3, x4, x5, x6, x7, _⟩ := Hfx.out w6 hk6'
            have hbk5 := hbk.kp hk6'
            have f0 := hbk5.free 0
            have f1 := hbk5.free 1
            have f2 := hbk5.free 2
            go_wp2_with fail
            go_roundg (gk - 1)
            case measure => omega
            case rel => exact ⟨j + 1, m.x, m.y, m.z, by omega, by go_num, Lib.hid (by rw [Hf.out, Hdr.out, if_pos (show Mv.valid a b c m = 0 from Hv.out), if_neg (fun h => by have := h.2; omega)]), m1, m2, m3, hbk5.put _ _ _, (((hkr.trans hk6').setCell (Nat.le_refl _) _).setCell (Nat.le_refl _) _).setCell (Nat.le_refl _) _⟩
      · have hv' : (validM a b c m.k m.x m.y m.z m.cx m.cy m.r != 0) = true := neqnz hv
        go_wp2_with fail
        go_ret
        refine ⟨ret_bool ?_, (by repeat (first | exact Kp.refl _ | assumption | (refine Kp.alloc ?_ _) | (refine Kp.drew ?_) | (refine Kp.drewN ?_ _) | (refine Kp.setCell ?_ (by first | omega | (simp only [World.size_alloc]; omega)) _) | (refine Kp.trans ?_ (by assumption))))⟩
        rw [Hf.out, Hdr.out, if_neg (show ¬ Mv.valid a b c m = 0 from hv)]
    · go_wp2_with fail
      go_ret
      refine ⟨ret_bool ?_, hkr⟩
      rw [Hf.out, List.drop_of_length_le (by omega)]
      rfl

end Go.Proofs.Ytjdjcjhdaedakaa
