/-
  Plain facts: the mirror image of an arc.
-/
import Derived.Test.YtjdjcjhdaedakaaInA
namespace Go.Proofs.Ytjdjcjhdaedakaa
open Go.RowKit

theorem rot_mirror (n : Nat) (x y : Int) : rot n x (-y) = ((rot (3 * n) x y).1, -(rot (3 * n) x y).2) := by
  induction n with
  | zero => rfl
  | succ n ih =>
    rw [show 3 * (n + 1) = 3 * n + 3 from by omega]
    simp only [rot, ih]
    simp
theorem rot_eq {a b : Nat} (h : a % 4 = b % 4) (x y : Int) : rot a x y = rot b x y := by rw [← rot_mod a, ← rot_mod b, h]
theorem arcXY_mirror3 {f f' q : Nat} (x y : Int) (hf : (f + f') % 4 = 0) (hq : q ≤ 4) : arcXY 4 f' q x y = ((arcXY 3 f q x y).1, -(arcXY 3 f q x y).2) := by
  unfold arcXY
  rw [if_neg (by decide), if_pos rfl, rot_mirror, rot_eq (a := 3 * (f + 4 - q)) (b := f' + q) (by omega)]
  simp
theorem arcXY_mirror4 {f f' q : Nat} (x y : Int) (hf : (f + f') % 4 = 0) (hq : q ≤ 4) : arcXY 3 f' q x y = ((arcXY 4 f q x y).1, -(arcXY 4 f q x y).2) := by
  unfold arcXY
  rw [if_pos rfl, if_neg (show ¬ (4 : Int) = 3 by decide), rot_mirror, rot_eq (a := 3 * (f' + 4 - q)) (b := f + q) (by omega)]
theorem pointD_mirror (x y cx cy : Int) : pointD x (-y) cx (-cy) = pointD x y cx cy := by
  unfold pointD dist; repeat' split
  all_goals omega
theorem pointQ_mirror (x y cx cy : Int) (h : 0 < pointD x y cx cy) : (pointQ x y cx cy + pointQ x (-y) cx (-cy)) % 4 = 0 := by
  unfold pointD dist at h
  unfold pointQ
  repeat' split at h
  all_goals repeat' split
  all_goals omega
theorem endsM_mirror (x y tx ty cx cy : Int) : endsM x (-y) tx (-ty) cx (-cy) = endsM x y tx ty cx cy := by
  unfold endsM; rw [pointD_mirror, pointD_mirror]
theorem valid_of {x y z k tx ty tz cx cy r : Int} (hk : k = 3 ∨ k = 4) (hr : 0 < r) (he : endsM x y tx ty cx cy = true) (hp : pointD x y cx cy ≤ 10000000) (b1 : -10000000 ≤ x ∧ x ≤ 10000000) (b2 : -10000000 ≤ y ∧ y ≤ 10000000) (b3 : -10000000 ≤ z ∧ z ≤ 10000000) (b4 : -10000000 ≤ tx ∧ tx ≤ 10000000) (b5 : -10000000 ≤ ty ∧ ty ≤ 10000000) (b6 : -10000000 ≤ tz ∧ tz ≤ 10000000) (b7 : -10000000 ≤ cx ∧ cx ≤ 10000000) (b8 : -10000000 ≤ cy ∧ cy ≤ 10000000)
    (b9 : -10000000 ≤ cx + pointD x y cx cy ∧ cx + pointD x y cx cy ≤ 10000000) (b10 : -10000000 ≤ cx - pointD x y cx cy ∧ cx - pointD x y cx cy ≤ 10000000) (b11 : -10000000 ≤ cy + pointD x y cx cy ∧ cy + pointD x y cx cy ≤ 10000000) (b12 : -10000000 ≤ cy - pointD x y cx cy ∧ cy - pointD x y cx cy ≤ 10000000) : validM x y z k tx ty tz cx cy r = 0 := by
  have nb : ∀ n : Int, -10000000 ≤ n ∧ n ≤ 10000000 → badM n = false := fun n h => by
    cases hb : badM n
    · rfl
    · have := (badM_iff n).1 hb; omega
  unfold validM
  rw [right_arc hk hr, if_neg (by simp [he]), if_pos hk, if_neg (by simp only [nb cx b7, nb cy b8]; simp; omega), if_neg (by simp [nb _ b1, nb _ b2, nb _ b3, nb _ b4, nb _ b5, nb _ b6, nb _ b9, nb _ b10, nb _ b11, nb _ b12])]
theorem valid_rate {x y z k tx ty tz cx cy r : Int} (hk : k = 3 ∨ k = 4) (h : validM x y z k tx ty tz cx cy r = 0) : 0 < r := by
  unfold validM at h
  by_cases h1 : rightM x y k tx ty cx cy r = false
  · rw [if_pos h1] at h; omega
  have hr : rightM x y k tx ty cx cy r = true := by simpa using h1
  unfold rightM at hr
  rw [if_neg (by omega), if_neg (by omega)] at hr
  simp only [Bool.and_eq_true, decide_eq_true_eq] at hr
  exact hr.1.1.2
theorem valid_mirror {x y z k k' tx ty tz cx cy r : Int} (hk : k = 3 ∨ k = 4) (hk' : k' = 3 ∨ k' = 4) (h : validM x y z k tx ty tz cx cy r = 0) : validM x (-y) z k' tx (-ty) tz cx (-cy) r = 0 := by
  obtain ⟨he, p1, p2, p3, x1, y1, z1, x2, y2, z2, c1, c2, c3, c4, c5, c6⟩ := valid0 hk h
  refine valid_of hk' (valid_rate hk h) (by rw [endsM_mirror]; exact he) (by rw [pointD_mirror]; exact p2) x1 (by omega) z1 x2 (by omega) z2 c1 (by omega) (by rw [pointD_mirror]; exact c3) (by rw [pointD_mirror]; exact c4) (by rw [pointD_mirror]; omega) (by rw [pointD_mirror]; omega)
theorem quarters_mirror {x y k k' tx ty cx cy : Int} (hk : k = 3 ∧ k' = 4 ∨ k = 4 ∧ k' = 3) (h : 0 < pointD x y cx cy) (h2 : 0 < pointD tx ty cx cy) : quartersM x (-y) k' tx (-ty) cx (-cy) = quartersM x y k tx ty cx cy := by
  have a := pointQ_mirror x y cx cy h
  have b := pointQ_mirror tx ty cx cy h2
  have a1 := pointQ_bd x y cx cy
  have a2 := pointQ_bd tx ty cx cy
  have a3 := pointQ_bd x (-y) cx (-cy)
  have a4 := pointQ_bd tx (-ty) cx (-cy)
  unfold quartersM
  rcases hk with ⟨rfl, rfl⟩ | ⟨rfl, rfl⟩
  · rw [if_neg (by decide), if_pos rfl]; split <;> split <;> omega
  · rw [if_pos rfl, if_neg (show ¬ (4 : Int) = 3 by decide)]; split <;> split <;> omega
theorem arcM_mirror {x y z k k' tx ty tz cx cy r : Int} (hk : k = 3 ∧ k' = 4 ∨ k = 4 ∧ k' = 3) (h : validM x y z k tx ty tz cx cy r = 0) : arcM x (-y) z k' tx (-ty) tz cx (-cy) = (arcM x y z k tx ty tz cx cy).map fun p => (p.1, -p.2.1, p.2.2) := by
  obtain ⟨_, p1, _, p3, _⟩ := valid0 (by omega) h
  have a := pointQ_mirror x y cx cy p1
  have a1 := pointQ_bd x y cx cy
  have a3 := pointQ_bd x (-y) cx (-cy)
  have q2 := quartersM_bd x y k tx ty cx cy
  have hch := (chordsM_is p1).1
  unfold arcM
  rw [pointD_mirror, quarters_mirror hk p1 (by omega), List.map_map]
  refine List.map_congr_left fun j hj => ?_
  have hj' := List.mem_range.1 hj
  have hq : j / (chordsM (pointD x y cx cy)).toNat < (quartersM x y k tx ty cx cy).toNat := Nat.div_lt_of_lt_mul hj'
  simp only [Function.comp, arcPt]
  rcases hk with ⟨rfl, rfl⟩ | ⟨rfl, rfl⟩
  · rw [arcXY_mirror3 (f := (pointQ x y cx cy).toNat) _ _ (by omega) (by omega)]
    refine Prod.ext rfl (Prod.ext ?_ rfl)
    simp only; omega
  · rw [arcXY_mirror4 (f := (pointQ x y cx cy).toNat) _ _ (by omega) (by omega)]
    refine Prod.ext rfl (Prod.ext ?_ rfl)
    simp only; omega

/-- Block g is just the seven numbers of a move, none frozen. -/
def Bk7 (w : World) (g : Nat) (a b c d e f r : Int) : Prop := w.heap[g]? = some (.cells #[.int .i64 a, .int .i64 b, .int .i64 c, .int .i64 d, .int .i64 e, .int .i64 f, .int .i64 r] 27 (0, 0))
theorem Bk7.lt {w : World} {g : Nat} {a b c d e f r : Int} (h : Bk7 w g a b c d e f r) : g < w.heap.size := by
  rcases Nat.lt_or_ge g w.heap.size with hlt | hge
  · exact hlt
  · unfold Bk7 at h; rw [Array.getElem?_eq_none hge] at h; cases h
theorem Bk7.cells {w : World} {g : Nat} {a b c d e f r : Int} (h : Bk7 w g a b c d e f r) : w.cell? ⟨g, 0, none⟩ = some (.int .i64 a) ∧ w.cell? ⟨g, 1, none⟩ = some (.int .i64 b) ∧ w.cell? ⟨g, 2, none⟩ = some (.int .i64 c) ∧ w.cell? ⟨g, 3, none⟩ = some (.int .i64 d) ∧ w.cell? ⟨g, 4, none⟩ = some (.int .i64 e) ∧ w.cell? ⟨g, 5, none⟩ = some (.int .i64 f) ∧ w.cell? ⟨g, 6, none⟩ = some (.int .i64 r) := by
  refine ⟨?_, ?_, ?_, ?_, ?_, ?_, ?_⟩ <;> (rw [cell_of_row w g _ _ _ _ h]; rfl)
theorem Bk7.free {w : World} {g : Nat} {a b c d e f r : Int} (h : Bk7 w g a b c d e f r) (i : Nat) : w.frozen? ⟨g, i, none⟩ = false := by
  unfold Bk7 at h; simp [World.frozen?, h]
theorem Bk7.new (w : World) (a b c d e f r : Int) : Bk7 (w.alloc (.cells #[.int .i64 a, .int .i64 b, .int .i64 c, .int .i64 d, .int .i64 e, .int .i64 f, .int .i64 r] 27)) w.heap.size a b c d e f r := heap_alloc_new w _
theorem Bk7.kp {w w' : World} {g : Nat} {a b c d e f r : Int} (h : Bk7 w g a b c d e f r) (hk : Kp w w') : Bk7 w' g a b c d e f r := (hk.below.block g h.lt).trans h

theorem Bk7.set2 {w : World} {g : Nat} {a b c d e f r : Int} (h : Bk7 w g a b c d e f r) (n : Int) : Bk7 (w.setCell ⟨g, 2, none⟩ (.int .i64 n)) g a b n d e f r := by
  unfold Bk7 at h ⊢
  simp [World.setCell, Array.getElem?_modify, h]
theorem Bk7.set5 {w : World} {g : Nat} {a b c d e f r : Int} (h : Bk7 w g a b c d e f r) (n : Int) : Bk7 (w.setCell ⟨g, 5, none⟩ (.int .i64 n)) g a b c d e n r := by
  unfold Bk7 at h ⊢
  simp [World.setCell, Array.getElem?_modify, h]
theorem Bk7.set0 {w : World} {g : Nat} {a b c d e f r : Int} (h : Bk7 w g a b c d e f r) (n : Int) : Bk7 (w.setCell ⟨g, 0, none⟩ (.int .i64 n)) g n b c d e f r := by
  unfold Bk7 at h ⊢
  simp [World.setCell, Array.getElem?_modify, h]
theorem Bk3.set1 {w : World} {g : Nat} {x y z : Int} (h : Bk3 w g x y z) (n : Int) : Bk3 (w.setCell ⟨g, 1, none⟩ (.int .i64 n)) g x n z := by
  unfold Bk3 at h ⊢
  simp [World.setCell, Array.getElem?_modify, h]
theorem Bk7.far {w : World} {g : Nat} {a b c d e f r : Int} (h : Bk7 w g a b c d e f r) {p : Addr} (hp : g ≠ p.block) (u : Value) : Bk7 (w.setCell p u) g a b c d e f r := (Below.heap_setCell w p u g hp).trans h
theorem Bk3.far {w : World} {g : Nat} {x y z : Int} (h : Bk3 w g x y z) {p : Addr} (hp : g ≠ p.block) (u : Value) : Bk3 (w.setCell p u) g x y z := (Below.heap_setCell w p u g hp).trans h

end Go.Proofs.Ytjdjcjhdaedakaa
