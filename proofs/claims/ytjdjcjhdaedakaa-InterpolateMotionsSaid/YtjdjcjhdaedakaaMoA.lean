/-
  The model of Motions: plain facts on lists of motions.
-/
import Derived.Test.YtjdjcjhdaedakaaPsE
namespace Go.Proofs.Ytjdjcjhdaedakaa
open Go.RowKit

structure Mo where
  fx : Int
  fy : Int
  fz : Int
  tx : Int
  ty : Int
  tz : Int
  rate : Int
  tool : Int
  blk : Int

def cells9 (l : List Mo) : List Value := l.flatMap fun m => [.int .i64 m.fx, .int .i64 m.fy, .int .i64 m.fz, .int .i64 m.tx, .int .i64 m.ty, .int .i64 m.tz, .int .i64 m.rate, .int .i64 m.tool, .int .i64 m.blk]
theorem cells9_append (a b : List Mo) : cells9 (a ++ b) = cells9 a ++ cells9 b := by simp [cells9]
theorem cells9_one (l : List Mo) : ∀ u ∈ cells9 l, u.oneCell' = true := by
  intro u hu
  unfold cells9 at hu
  simp only [List.mem_flatMap, List.mem_cons, List.not_mem_nil, or_false] at hu
  obtain ⟨p, _, rfl | rfl | rfl | rfl | rfl | rfl | rfl | rfl | rfl⟩ := hu <;> rfl
theorem cells9_at {l : List Mo} {i : Nat} (h : i < l.length) : (cells9 l)[i * 9]? = some (.int .i64 (l[i]'h).fx) ∧ (cells9 l)[i * 9 + 1]? = some (.int .i64 (l[i]'h).fy) ∧ (cells9 l)[i * 9 + 2]? = some (.int .i64 (l[i]'h).fz) ∧ (cells9 l)[i * 9 + 3]? = some (.int .i64 (l[i]'h).tx) ∧
    (cells9 l)[i * 9 + 4]? = some (.int .i64 (l[i]'h).ty) ∧ (cells9 l)[i * 9 + 5]? = some (.int .i64 (l[i]'h).tz) ∧ (cells9 l)[i * 9 + 6]? = some (.int .i64 (l[i]'h).rate) ∧ (cells9 l)[i * 9 + 7]? = some (.int .i64 (l[i]'h).tool) ∧ (cells9 l)[i * 9 + 8]? = some (.int .i64 (l[i]'h).blk) := by
  induction l generalizing i with
  | nil => simp at h
  | cons p l ih =>
    have e : cells9 (p :: l) = .int .i64 p.fx :: .int .i64 p.fy :: .int .i64 p.fz :: .int .i64 p.tx :: .int .i64 p.ty :: .int .i64 p.tz :: .int .i64 p.rate :: .int .i64 p.tool :: .int .i64 p.blk :: cells9 l := by simp [cells9]
    cases i with
    | zero => rw [e]; simp
    | succ i =>
      rw [e]
      have := ih (i := i) (by simpa using h)
      simpa [Nat.add_mul, Nat.succ_mul] using this

/-- A position to which a move leads, with its rate and the number of the move. -/
abbrev Tg := (Int × Int × Int) × Int × Int
def mkMo (tool : Int) (a : Int × Int × Int) (q : Tg) : Mo := ⟨a.1, a.2.1, a.2.2, q.1.1, q.1.2.1, q.1.2.2, q.2.1, tool, q.2.2⟩
def motM (tool : Int) : Int × Int × Int → List Tg → List Mo
  | _, [] => []
  | a, q :: t => if a = q.1 then motM tool q.1 t else mkMo tool a q :: motM tool q.1 t
def lastP : Int × Int × Int → List Tg → Int × Int × Int
  | a, [] => a
  | _, q :: t => lastP q.1 t
theorem lastP_append (a : Int × Int × Int) (s t : List Tg) : lastP a (s ++ t) = lastP (lastP a s) t := by
  induction s generalizing a with
  | nil => rfl
  | cons q s ih => exact ih q.1
theorem motM_append (tool : Int) (a : Int × Int × Int) (s t : List Tg) : motM tool a (s ++ t) = motM tool a s ++ motM tool (lastP a s) t := by
  induction s generalizing a with
  | nil => rfl
  | cons q s ih =>
    simp only [List.cons_append, motM, lastP]
    rw [ih q.1]
    split <;> rfl
theorem motM_len (tool : Int) (a : Int × Int × Int) (s : List Tg) : (motM tool a s).length ≤ s.length := by
  induction s generalizing a with
  | nil => simp [motM]
  | cons q s ih =>
    simp only [motM]
    have := ih q.1
    split <;> simp only [List.length_cons] <;> omega
theorem motM_snoc_eq (tool : Int) (a : Int × Int × Int) (s : List Tg) (q : Tg) (h : lastP a s = q.1) : motM tool a (s ++ [q]) = motM tool a s := by
  rw [motM_append]; simp [motM, h]
theorem motM_snoc_ne (tool : Int) (a : Int × Int × Int) (s : List Tg) (q : Tg) (h : lastP a s ≠ q.1) : motM tool a (s ++ [q]) = motM tool a s ++ [mkMo tool (lastP a s) q] := by
  rw [motM_append]; simp [motM, h]
theorem lastP_snoc (a : Int × Int × Int) (s : List Tg) (q : Tg) : lastP a (s ++ [q]) = q.1 := by rw [lastP_append]; rfl

def tag (r i : Int) (ps : List (Int × Int × Int)) : List Tg := ps.map fun p => (p, r, i)
theorem tag_len (r i : Int) (ps : List (Int × Int × Int)) : (tag r i ps).length = ps.length := by simp [tag]
theorem tag_take_succ (r i : Int) (ps : List (Int × Int × Int)) (k : Nat) (h : k < ps.length) : tag r i (ps.take (k + 1)) = tag r i (ps.take k) ++ [(ps[k], r, i)] := by
  unfold tag; rw [List.take_succ_eq_append_getElem h, List.map_append]; rfl
def tags (l : List Mv) : Nat → List (List (Int × Int × Int)) → List Tg
  | _, [] => []
  | i, ps :: t => tag ((l[i]?.map Mv.r).getD 0) (i : Int) ps ++ tags l (i + 1) t
theorem tags_append (l : List Mv) (i : Nat) (s t : List (List (Int × Int × Int))) : tags l i (s ++ t) = tags l i s ++ tags l (i + s.length) t := by
  induction s generalizing i with
  | nil => simp [tags]
  | cons q s ih =>
    simp only [List.cons_append, tags, List.append_assoc, List.length_cons]
    rw [ih (i + 1), show i + 1 + s.length = i + (s.length + 1) from by omega]
theorem tags_snoc (l : List Mv) (s : List (List (Int × Int × Int))) (ps : List (Int × Int × Int)) : tags l 0 (s ++ [ps]) = tags l 0 s ++ tag ((l[s.length]?.map Mv.r).getD 0) (s.length : Int) ps := by
  rw [tags_append]; simp [tags]
theorem tags_len (l : List Mv) (i : Nat) (s : List (List (Int × Int × Int))) : (tags l i s).length = s.flatten.length := by
  induction s generalizing i with
  | nil => rfl
  | cons q s ih => simp only [tags, List.length_append, List.flatten_cons, tag_len, ih (i + 1)]

/-- The positions between motions: where motion i begins. -/
def atM (a : Int × Int × Int) (l : List Mo) (i : Nat) : Int × Int × Int := match (l.take i).getLast? with | none => a | some m => (m.tx, m.ty, m.tz)
theorem atM_zero (a : Int × Int × Int) (l : List Mo) : atM a l 0 = a := by simp [atM]
theorem atM_succ (a : Int × Int × Int) (l : List Mo) (j : Nat) (h : j < l.length) : atM a l (j + 1) = (l[j].tx, l[j].ty, l[j].tz) := by
  unfold atM
  rw [List.take_succ_eq_append_getElem h, List.getLast?_append]
  simp
/-- Motions lead on from a position, and each has a length. -/
def Chain : Int × Int × Int → List Mo → Prop
  | _, [] => True
  | a, m :: t => (m.fx, m.fy, m.fz) = a ∧ (m.fx, m.fy, m.fz) ≠ (m.tx, m.ty, m.tz) ∧ Chain (m.tx, m.ty, m.tz) t
theorem chain_motM (tool : Int) (a : Int × Int × Int) (s : List Tg) : Chain a (motM tool a s) := by
  induction s generalizing a with
  | nil => trivial
  | cons q s ih =>
    simp only [motM]
    split
    · rename_i h; rw [h]; exact ih q.1
    · rename_i h; exact ⟨rfl, h, ih q.1⟩
theorem atM_cons_succ (a : Int × Int × Int) (m : Mo) (t : List Mo) (j : Nat) : atM a (m :: t) (j + 1) = atM (m.tx, m.ty, m.tz) t j := by
  unfold atM
  rw [List.take_succ_cons, List.getLast?_cons]
  cases h : (t.take j).getLast? <;> simp
theorem Chain.at {a : Int × Int × Int} {l : List Mo} (h : Chain a l) (j : Nat) (hj : j < l.length) : (l[j].fx, l[j].fy, l[j].fz) = atM a l j ∧ (l[j].fx, l[j].fy, l[j].fz) ≠ (l[j].tx, l[j].ty, l[j].tz) := by
  induction l generalizing a j with
  | nil => simp at hj
  | cons m t ih =>
    obtain ⟨h1, h2, h3⟩ := h
    cases j with
    | zero => rw [atM_zero]; exact ⟨h1, h2⟩
    | succ j => rw [atM_cons_succ]; exact ih h3 j (by simpa using hj)
theorem atM_end (tool : Int) (a : Int × Int × Int) (s : List Tg) : atM a (motM tool a s) (motM tool a s).length = lastP a s := by
  induction s generalizing a with
  | nil => exact atM_zero a []
  | cons q s ih =>
    simp only [motM, lastP]
    split
    · rename_i h; rw [h]; exact ih q.1
    · rw [List.length_cons, atM_cons_succ]; exact ih q.1

theorem lastP_tag (a : Int × Int × Int) (r i : Int) (ps : List (Int × Int × Int)) : lastP a (tag r i ps) = (ps.getLast?).getD a := by
  induction ps generalizing a with
  | nil => rfl
  | cons p ps ih =>
    show lastP p (tag r i ps) = _
    rw [ih p, List.getLast?_cons]; rfl
theorem stepPs_last {x y z : Int} {m : Mv} (h : Mv.valid x y z m = 0) : (stepPs x y z m).getLast? = some (m.x, m.y, m.z) := by
  unfold stepPs
  by_cases hk : m.arc = true
  · rw [if_pos hk]
    have ok := arcOk (x := x) (y := y) (z := z) (k := m.k) (tx := m.x) (ty := m.y) (tz := m.z) (cx := m.cx) (cy := m.cy) (r := m.r) (by unfold Mv.arc at hk; simpa using hk) h
    have h0 := ok.pos
    rw [List.getLast?_eq_getElem?, List.getElem?_eq_getElem (by omega), ok.last (by omega)]
  · rw [if_neg hk]; rfl
/-- After all moves, the last position is the end of the last move. -/
theorem lastP_run (L : List Mv) (l : List Mv) (x y z : Int) (i : Nat) (h : (runM x y z l).2 = 0) : lastP (x, y, z) (tags L i (runM x y z l).1) = endM x y z l := by
  induction l generalizing x y z i with
  | nil => rfl
  | cons m l ih =>
    by_cases hv : Mv.valid x y z m = 0
    · have e : runM x y z (m :: l) = (stepPs x y z m :: (runM m.x m.y m.z l).1, (runM m.x m.y m.z l).2) := by
        show (if Mv.valid x y z m = 0 then _ else _) = _
        rw [if_pos hv]
      rw [e] at h ⊢
      simp only [tags] at h ⊢
      rw [lastP_append, lastP_tag, stepPs_last hv, Option.getD_some, ih m.x m.y m.z (i + 1) h]
      unfold endM
      rw [List.getLast?_cons]
      cases l.getLast? <;> rfl
    · have e : runM x y z (m :: l) = ([], Mv.valid x y z m) := by
        show (if Mv.valid x y z m = 0 then _ else _) = _
        rw [if_neg hv]
      rw [e] at h
      exact absurd h hv

end Go.Proofs.Ytjdjcjhdaedakaa
