/-
  InterpreterMoved: the plain part.
-/
import Derived.Test.YtlcfgpjgjdjpoaaDoorQe
import Derived.Test.YtlcfgpjgjdjpoaaDoorGp
import Derived.Test.YtlcfgpjgjdjpoaaDoorMLInterpreterMoved
namespace Go.Proofs.YtlcfgpjgjdjpoaaDoor
open Go.RowKit

theorem inU8 {n : Int} (h : inInt .u8 n) : 0 ≤ n ∧ n ≤ 255 := by
  simp [inInt, Lit.wf, IntKind.min, IntKind.max, IntKind.signed, IntKind.bits] at h
  omega
/-- Two mirrors side by side, where both end. -/
def PRel {α β : Type} (m : Option α) (m' : Option β) (E : α → β → Prop) : Prop := ∀ e e', m = some e → m' = some e' → E e e'
section
variable {α β γ : Type}
theorem PRel.ok {x : α} {y : β} {E : α → β → Prop} (h : E x y) : PRel (some x) (some y) E := fun e e' h1 h2 => by cases h1; cases h2; exact h
theorem PRel.same {X : Option γ} {f : γ → Option α} {f' : γ → Option β} {E : α → β → Prop} (h : ∀ x, X = some x → PRel (f x) (f' x) E) : PRel (bindO X f) (bindO X f') E := by
  cases X with
  | none => intro e e' h1 _; cases h1
  | some x => exact h x rfl
theorem PRel.ite {b : Bool} {x y : Option α} {x' y' : Option β} {E : α → β → Prop} (h1 : b = true → PRel x x' E) (h2 : b = false → PRel y y' E) : PRel (if b = true then x else y) (if b = true then x' else y') E := by
  cases b with
  | true => exact h1 rfl
  | false => exact h2 rfl
theorem PRel.guard {b b' : Bool} {m : Option α} {m' : Option β} {E : α → β → Prop} (h : PRel m m' E) : PRel (guardO b m) (guardO b' m') E := by
  cases b with
  | false => intro e e' h1 _; cases h1
  | true =>
    cases b' with
    | false => intro e e' _ h2; cases h2
    | true => exact h
end

theorem bindX_split {ε ν : Type} {m : Option (Ex ε ν)} {f : ν → Option ε} {e : ε} (h : bindX m f = some e) : ∃ x, m = some x ∧ (match x with | .ret r => r = e | .go v => f v = some e) := by
  cases m with
  | none => cases h
  | some x =>
    cases x with
    | ret r => exact ⟨_, rfl, by injection h⟩
    | go v => exact ⟨_, rfl, h⟩
def allIn (w : Arr6ApiPos) : Prop := inR w.e0 ∧ inR w.e1 ∧ inR w.e2 ∧ inR w.e3 ∧ inR w.e4 ∧ inR w.e5
theorem valid_work {t t' : TableTable} (hL : t'.Lengths = t.Lengths) (h : allIn t.Work) (h' : allIn t'.Work) : tb_Valid t' = tb_Valid t := by
  obtain ⟨a0, a1, a2, a3, a4, a5⟩ := h
  obtain ⟨b0, b1, b2, b3, b4, b5⟩ := h'
  unfold tb_Valid
  simp only [tb_far_eq, bindO_s, decide_eq_true a0, decide_eq_true a1, decide_eq_true a2, decide_eq_true a3, decide_eq_true a4, decide_eq_true a5, decide_eq_true b0, decide_eq_true b1, decide_eq_true b2, decide_eq_true b3, decide_eq_true b4, decide_eq_true b5, hL]
def mv (v p : ApiPos) : ApiPos := ⟨p.X + v.X, p.Y + v.Y, p.Z + v.Z⟩
def mvM (v : ApiPos) (m : ApiMotion) : ApiMotion := ⟨mv v m.From, mv v m.To, m.Rate, m.Tool, m.Block⟩
def small (v : ApiPos) : Prop := (-1000000 ≤ v.X ∧ v.X ≤ 1000000) ∧ (-1000000 ≤ v.Y ∧ v.Y ≤ 1000000) ∧ (-1000000 ≤ v.Z ∧ v.Z ≤ 1000000)
theorem posEq_mv (v a b : ApiPos) : posEq (mv v a) (mv v b) = posEq a b := by
  rw [Bool.eq_iff_iff, posEq_iff, posEq_iff]
  cases a; cases b
  simp [mv]
theorem plus_eq {v p : ApiPos} (hv : small v) (hp : inR p) : l47_plus p v = some (mv v p) := by
  unfold l47_plus mv
  unfold small at hv; unfold inR at hp
  rw [wrap_i64 (by omega) (by omega), wrap_i64 (by omega) (by omega), wrap_i64 (by omega) (by omega)]

/-- A moved table. -/
def mvT (v : ApiPos) (t : TableTable) : TableTable := ⟨⟨mv v t.Work.e0, mv v t.Work.e1, mv v t.Work.e2, mv v t.Work.e3, mv v t.Work.e4, mv v t.Work.e5⟩, t.Lengths⟩
def bdO (o : ApiPos) : Prop := (-10000000 ≤ o.X ∧ o.X ≤ 10000000) ∧ (-10000000 ≤ o.Y ∧ o.Y ≤ 10000000) ∧ (-10000000 ≤ o.Z ∧ o.Z ≤ 20000000)
theorem offset_moved {v : ApiPos} {t : TableTable} (hv : small v) (hl : t.Lengths.length ≤ 1000) (h1 : tb_Valid t = some 0) (h2 : tb_Valid (mvT v t) = some 0) (c n : Int) : ∃ o e, tb_offset t c n = some (o, e) ∧ (e = 0 → bdO o) ∧ tb_offset (mvT v t) c n = some (if e = 0 then mv v o else o, e) := by
  obtain ⟨ev, hev, hbd⟩ := tb_Valid_tot t hl
  obtain rfl : ev = 0 := by rw [h1] at hev; injection hev with q; exact q.symm
  obtain ⟨⟨w0, w1, w2, w3, w4, w5⟩, hle⟩ := hbd.2 rfl
  obtain ⟨sl, hsl, hslb⟩ := tb_slot_tot c
  obtain ⟨le, hlen, hleb⟩ := tb_length_tot t n hl hle
  have hlen1 : tb_length (TableTable.mk t.Work t.Lengths) n = some le := hlen
  have hlen2 : tb_length (TableTable.mk (mvT v t).Work (mvT v t).Lengths) n = some le := hlen
  unfold tb_offset
  rw [h1, h2]
  simp only [bindO_s, bne_self_eq_false, Bool.false_eq_true, if_false, hsl, hlen1, hlen2]
  cases hb : ((sl.2 != 0) || (le.2 != 0)) with
  | true => exact ⟨⟨0, 0, 0⟩, 4, rfl, fun h => by simp at h, rfl⟩
  | false =>
    simp at hb
    have hi := hslb hb.1
    have hg : decide (0 ≤ sl.1 ∧ sl.1 < 6) = true := by simpa using hi
    simp only [hg, guardO_t, Bool.false_eq_true, if_false]
    have fin : ∀ w : ApiPos, inR w → ∃ o e, some (ApiPos.mk w.X w.Y (IntKind.i64.wrap (w.Z + le.1)), (0 : Int)) = some (o, e) ∧ (e = 0 → bdO o) ∧ some (ApiPos.mk (mv v w).X (mv v w).Y (IntKind.i64.wrap ((mv v w).Z + le.1)), (0 : Int)) = some (if e = 0 then mv v o else o, e) := by
      intro w hw
      unfold inR at hw; unfold small at hv
      refine ⟨_, _, rfl, fun _ => ?_, ?_⟩
      · rw [wrap_i64 (by omega) (by omega)]
        unfold bdO; simp only; omega
      · simp only [if_true, mv]
        rw [wrap_i64 (n := w.Z + v.Z + le.1) (by omega) (by omega), wrap_i64 (n := w.Z + le.1) (by omega) (by omega)]
        congr 3
        omega
    have : sl.1 = 0 ∨ sl.1 = 1 ∨ sl.1 = 2 ∨ sl.1 = 3 ∨ sl.1 = 4 ∨ sl.1 = 5 := by omega
    rcases this with e | e | e | e | e | e
    · simpa [e, mvT] using fin _ w0
    · simpa [e, mvT] using fin _ w1
    · simpa [e, mvT] using fin _ w2
    · simpa [e, mvT] using fin _ w3
    · simpa [e, mvT] using fin _ w4
    · simpa [e, mvT] using fin _ w5
theorem work_moved {v : ApiPos} {t : TableTable} {p : ApiPos} (hv : small v) (hl : t.Lengths.length ≤ 1000) (h1 : tb_Valid t = some 0) (h2 : tb_Valid (mvT v t) = some 0) (hp : inR p) (hp2 : inR (mv v p)) (c n : Int) : tb_Work (mvT v t) c n (mv v p) = tb_Work t c n p := by
  obtain ⟨o, e, ho, hb, ho2⟩ := offset_moved hv hl h1 h2 c n
  unfold tb_Work
  rw [show TableTable.mk t.Work t.Lengths = t from rfl, show TableTable.mk (mvT v t).Work (mvT v t).Lengths = mvT v t from rfl, ho, ho2, bindO_s, bindO_s]
  by_cases h0 : e = 0
  · have hbo := hb h0
    subst h0
    simp only [bne_self_eq_false, Bool.false_eq_true, if_false, if_true]
    unfold tb_moved
    simp only [tb_far_eq, decide_eq_true hp, decide_eq_true hp2, Bool.not_true, bindO_s, Bool.false_eq_true, if_false]
    unfold bdO at hbo; unfold inR at hp hp2; unfold small at hv
    have e1 : ∀ a b w : Int, (-10000000 ≤ a ∧ a ≤ 10000000) → (-10000000 ≤ b ∧ b ≤ 20000000) → (-1000000 ≤ w ∧ w ≤ 1000000) → IntKind.i64.wrap ((a + w) + IntKind.i64.wrap (-1 * (b + w))) = IntKind.i64.wrap (a + IntKind.i64.wrap (-1 * b)) := by
      intro a b w ha hb hw
      rw [wrap_i64 (n := -1 * (b + w)) (by omega) (by omega), wrap_i64 (n := -1 * b) (by omega) (by omega)]
      congr 1; omega
    have ex := e1 p.X o.X v.X hp.1 (by omega) hv.1
    have ey := e1 p.Y o.Y v.Y hp.2.1 (by omega) hv.2.1
    have ez := e1 p.Z o.Z v.Z hp.2.2 (by omega) hv.2.2
    simp only [mv, ex, ey, ez]
  · have : (e != 0) = true := by simp [h0]
    simp [this]
theorem machine_moved {v : ApiPos} {t : TableTable} (hv : small v) (hl : t.Lengths.length ≤ 1000) (h1 : tb_Valid t = some 0) (h2 : tb_Valid (mvT v t) = some 0) (c n : Int) (q : ApiPos) : ∃ r r', tb_Machine t c n q = some r ∧ tb_Machine (mvT v t) c n q = some r' ∧ (r.2 = 11 ∨ r'.2 = 11 ∨ (r.2 = r'.2 ∧ (r.2 = 0 → r'.1 = mv v r.1))) := by
  obtain ⟨o, e, ho, hb, ho2⟩ := offset_moved hv hl h1 h2 c n
  unfold tb_Machine
  rw [ho, ho2, bindO_s, bindO_s]
  by_cases h0 : e = 0
  · have hbo := hb h0
    subst h0
    simp only [bne_self_eq_false, Bool.false_eq_true, if_false, if_true]
    unfold tb_moved
    by_cases hq : inR q
    · simp only [tb_far_eq, decide_eq_true hq, Bool.not_true, bindO_s, Bool.false_eq_true, if_false]
      unfold bdO at hbo; unfold small at hv
      have hq' := hq
      unfold inR at hq
      have e1 : ∀ a b : Int, (-10000000 ≤ a ∧ a ≤ 10000000) → (-21000000 ≤ b ∧ b ≤ 21000000) → IntKind.i64.wrap (a + IntKind.i64.wrap (1 * b)) = a + b := by
        intro a b ha hb
        rw [wrap_i64 (n := 1 * b) (by omega) (by omega), wrap_i64 (by omega) (by omega)]
        omega
      simp only [mv]
      simp only [e1 q.X o.X hq.1 (by omega), e1 q.Y o.Y hq.2.1 (by omega), e1 q.Z o.Z hq.2.2 (by omega), e1 q.X (o.X + v.X) hq.1 (by omega), e1 q.Y (o.Y + v.Y) hq.2.1 (by omega), e1 q.Z (o.Z + v.Z) hq.2.2 (by omega)]
      by_cases ha : inR ⟨q.X + o.X, q.Y + o.Y, q.Z + o.Z⟩
      · by_cases hb2 : inR ⟨q.X + (o.X + v.X), q.Y + (o.Y + v.Y), q.Z + (o.Z + v.Z)⟩
        · simp only [decide_eq_true ha, decide_eq_true hb2, Bool.not_true, Bool.false_eq_true, if_false, bindO_s]
          refine ⟨_, _, rfl, rfl, .inr (.inr ⟨rfl, fun _ => ?_⟩)⟩
          simp only [Int.add_assoc]
        · simp only [decide_eq_true ha, decide_eq_false hb2, Bool.not_true, Bool.not_false, Bool.false_eq_true, if_false, if_true, bindO_s]
          exact ⟨_, _, rfl, rfl, .inr (.inl rfl)⟩
      · simp only [decide_eq_false ha, Bool.not_false, if_true, bindO_s]
        by_cases hb2 : inR ⟨q.X + (o.X + v.X), q.Y + (o.Y + v.Y), q.Z + (o.Z + v.Z)⟩
        · simp only [decide_eq_true hb2, Bool.not_true, Bool.false_eq_true, if_false, bindO_s]
          exact ⟨_, _, rfl, rfl, .inl rfl⟩
        · simp only [decide_eq_false hb2, Bool.not_false, if_true, bindO_s]
          exact ⟨_, _, rfl, rfl, .inl rfl⟩
    · simp only [tb_far_eq, decide_eq_false hq, Bool.not_false, bindO_s, if_true]
      exact ⟨_, _, rfl, rfl, .inl rfl⟩
  · have : (e != 0) = true := by simp [h0]
    simp only [this, h0, if_true, if_false]
    exact ⟨_, _, rfl, rfl, .inr (.inr ⟨rfl, fun q => absurd q h0⟩)⟩

abbrev SR4 := List ApiMotion × ModalState × CycleCycle × Int
def failR (e : Int) : SR4 := ([], ModalState.mk 0 0 0 0 0 0 0 0, CycleCycle.mk 0 0 0 0 0 0 false, e)
/-- How two steps compare. -/
def stepRel (v : ApiPos) (r r' : SR4) : Prop := r.2.2.2 = 11 ∨ r'.2.2.2 = 11 ∨ (r'.2 = r.2 ∧ (r.2.2.2 = 0 → r'.1 = r.1.map (mvM v)))
theorem loop_moved (v : ApiPos) (tool : Int) (M M' : ApiPos → Option (ApiPos × Int)) (hM : ∀ q, ∃ r r', M q = some r ∧ M' q = some r' ∧ (r.2 = 11 ∨ r'.2 = 11 ∨ (r.2 = r'.2 ∧ (r.2 = 0 → r'.1 = mv v r.1))))
    (F F' : Nat → InterpreterReached → List ApiMotion × ApiPos → Option (Ex (Ex SR4 (List ApiMotion × ApiPos)) (List ApiMotion × ApiPos)))
    (hF : ∀ i x u, F i x u = bindO (M x.at_) fun y => if (y.2 != 0) = true then bindO (some ()) fun _ => some (.ret (.ret (failR y.2))) else bindO (if (!posEq y.1 u.2) = true then guardO (okLen (u.1.length + 1)) (some (u.1 ++ [ApiMotion.mk u.2 y.1 x.rate tool 0])) else some u.1) fun l => some (.go (l, y.1)))
    (hF' : ∀ i x u, F' i x u = bindO (M' x.at_) fun y => if (y.2 != 0) = true then bindO (some ()) fun _ => some (.ret (.ret (failR y.2))) else bindO (if (!posEq y.1 u.2) = true then guardO (okLen (u.1.length + 1)) (some (u.1 ++ [ApiMotion.mk u.2 y.1 x.rate tool 0])) else some u.1) fun l => some (.go (l, y.1))) :
    ∀ (l : List InterpreterReached) (i : Nat) (o : List ApiMotion) (p : ApiPos), PRel (rangeX F (fun u => some (.go (u.1, u.2))) l i (o, p)) (rangeX F' (fun u => some (.go (u.1, u.2))) l i (o.map (mvM v), mv v p))
      (fun x x' => x = .ret (failR 11) ∨ x' = .ret (failR 11) ∨ (∃ e, x = .ret (failR e) ∧ x' = .ret (failR e) ∧ e ≠ 0) ∨ ∃ o q, x = .go (o, q) ∧ x' = .go (o.map (mvM v), mv v q))
  | [], i, o, p => PRel.ok (.inr (.inr (.inr ⟨o, p, rfl, rfl⟩)))
  | x :: l, i, o, p => by
    obtain ⟨r, r', h1, h2, h3⟩ := hM x.at_
    simp only [rangeX, hF, hF', h1, h2, bindO_s]
    rcases h3 with h3 | h3 | ⟨h3, h4⟩
    · intro e e' g1 _
      have : (r.2 != 0) = true := by simp [h3]
      simp only [this, if_true, h3] at g1
      cases g1
      exact .inl rfl
    · intro e e' _ g2
      have : (r'.2 != 0) = true := by simp [h3]
      simp only [this, if_true, h3] at g2
      cases g2
      exact .inr (.inl rfl)
    · by_cases h0 : r.2 = 0
      · have hr1 := h4 h0
        have hz : (r.2 != 0) = false := by simp [h0]
        have hz' : (r'.2 != 0) = false := by rw [← h3]; exact hz
        simp only [hz, hz', Bool.false_eq_true, if_false, hr1, posEq_mv, List.length_map]
        cases posEq r.1 p with
        | true =>
          simp only [Bool.not_true, Bool.false_eq_true, if_false, bindO_s]
          exact loop_moved v tool M M' hM F F' hF hF' l (i + 1) o r.1
        | false =>
          simp only [Bool.not_false, if_true]
          cases okLen (o.length + 1) with
          | false => intro e e' g1 _; cases g1
          | true =>
            simp only [guardO_t, bindO_s]
            have := loop_moved v tool M M' hM F F' hF hF' l (i + 1) (o ++ [ApiMotion.mk p r.1 x.rate tool 0]) r.1
            rw [List.map_append] at this
            exact this
      · have hz : (r.2 != 0) = true := by simp [h0]
        have hz' : (r'.2 != 0) = true := by rw [← h3]; exact hz
        simp only [hz, hz', if_true]
        exact PRel.ok (.inr (.inr (.inl ⟨r.2, rfl, by rw [h3], h0⟩)))
theorem step_moved {v : ApiPos} {t : TableTable} {p : ApiPos} (hv : small v) (hl : t.Lengths.length ≤ 1000) (h1 : tb_Valid t = some 0) (h2 : tb_Valid (mvT v t) = some 0) (hp : inR p) (hp2 : inR (mv v p)) (s : ModalState) (c : CycleCycle) (b : ApiBlock) :
    PRel (inp_Step s c b t p) (inp_Step s c b (mvT v t) (mv v p)) (stepRel v) := by
  have hc1 : inp_checked t p = some 0 := by
    unfold inp_checked
    rw [show TableTable.mk t.Work t.Lengths = t from rfl, h1, bindO_s, inp_inside_eq, decide_eq_true hp]; rfl
  have hc2 : inp_checked (mvT v t) (mv v p) = some 0 := by
    unfold inp_checked
    rw [show TableTable.mk (mvT v t).Work (mvT v t).Lengths = mvT v t from rfl, h2, bindO_s, inp_inside_eq, decide_eq_true hp2]; rfl
  have nil : ∀ {x y : SR4}, x.1 = [] → y.1 = [] → y.2 = x.2 → stepRel v x y := fun a b e => .inr (.inr ⟨e, fun _ => by rw [a, b]; rfl⟩)
  unfold inp_Step
  rw [hc1, hc2]
  simp only [bindO_s, bne_self_eq_false, Bool.false_eq_true, if_false]
  refine PRel.same fun bad _ => PRel.ite (fun _ => .ok (nil rfl rfl rfl)) (fun _ => PRel.same fun r _ => PRel.ite (fun _ => .ok (nil rfl rfl rfl)) (fun _ => PRel.same fun cy _ => PRel.same fun c2 _ => PRel.same fun has _ => PRel.ite (fun _ => .ok (nil rfl rfl rfl)) (fun _ => PRel.same fun bad2 _ => PRel.ite (fun _ => .ok (nil rfl rfl rfl)) (fun _ => PRel.ite (fun _ => .ok (nil rfl rfl rfl)) (fun _ => PRel.same fun num _ => ?_)))))
  rw [show TableTable.mk t.Work t.Lengths = t from rfl, show TableTable.mk (mvT v t).Work (mvT v t).Lengths = mvT v t from rfl, work_moved hv hl h1 h2 hp hp2]
  refine PRel.same fun wp _ => PRel.ite (fun _ => .ok (nil rfl rfl rfl)) (fun _ => PRel.same fun ps _ => PRel.ite (fun _ => .ok (nil rfl rfl rfl)) (fun _ => ?_))
  have key := loop_moved v (IntKind.i64.wrap (Int.tdiv r.1.Tool 1000)) (fun q => tb_Machine t r.1.Work num q) (fun q => tb_Machine (mvT v t) r.1.Work num q) (fun q => machine_moved hv hl h1 h2 _ _ q) _ _ (fun i x u => rfl) (fun i x u => rfl) ps.1 0 [] p
  cases hok : okIdx ps.1 with
  | false => intro e e' g1 _; cases g1
  | true =>
    intro e e' g1 g2
    rw [guardO_t] at g1 g2
    obtain ⟨x, gx, kx⟩ := bindX_split g1
    obtain ⟨x', gx', kx'⟩ := bindX_split g2
    rcases key x x' gx gx' with q | q | ⟨er, q, q', _⟩ | ⟨o, w, q, q'⟩
    · subst q; simp only at kx; subst kx; exact .inl rfl
    · subst q; simp only at kx'; subst kx'; exact .inr (.inl rfl)
    · subst q; subst q'; simp only at kx kx'; subst kx; subst kx'; exact nil rfl rfl rfl
    · subst q; subst q'; simp only at kx kx'
      cases kx; cases kx'
      exact .inr (.inr ⟨rfl, fun _ => rfl⟩)

/-- How two runs compare. -/
def runRel (v : ApiPos) (a b : List ApiMotion × InterpreterAlarm) : Prop := a.2.Code = 11 ∨ b.2.Code = 11 ∨ (b.2 = a.2 ∧ b.1 = a.1.map (mvM v))
theorem setB_mv (v : ApiPos) (i : Nat) (l : List ApiMotion) : (l.map (mvM v)).map (setB i) = (l.map (setB i)).map (mvM v) := by
  simp [Function.comp_def, setB, mvM]
theorem endW_mv (v p : ApiPos) (l : List ApiMotion) : endW (mv v p) (l.map (mvM v)) = mv v (endW p l) := by
  unfold endW
  rw [List.getLast?_map]
  cases l.getLast? <;> rfl
theorem run_moved {v : ApiPos} {t : TableTable} (N : Nat) (hv : small v) (hl : t.Lengths.length ≤ 1000) (h1 : tb_Valid t = some 0) (h2 : tb_Valid (mvT v t) = some 0) : ∀ (l : List ApiBlock) (i : Nat) (u : Run), (∀ b ∈ l, okS b) → inR u.2.1 → inR (mv v u.2.1) →
    runRel v (runB t N i l u) (runB (mvT v t) N i l (u.1.map (mvM v), mv v u.2.1, u.2.2.1, u.2.2.2))
  | [], i, u, _, _, _ => .inr (.inr ⟨rfl, rfl⟩)
  | b :: l, i, u, hb, hp, hp2 => by
    have hbk := hb b (by simp)
    have hE := stepT_E (s := u.2.2.1) (c := u.2.2.2) (p := u.2.1) (t := t) hbk hl
    have hE2 := stepT_E (s := u.2.2.1) (c := u.2.2.2) (p := mv v u.2.1) (t := mvT v t) hbk hl
    have hS := step_moved hv hl h1 h2 hp hp2 u.2.2.1 u.2.2.2 b _ _ (stepT_eq hbk hl) (stepT_eq hbk hl)
    simp only [runB]
    generalize stepT u.2.2.1 u.2.2.2 b t u.2.1 = r at hE hS
    generalize stepT u.2.2.1 u.2.2.2 b (mvT v t) (mv v u.2.1) = r' at hE2 hS
    rcases hS with q | q | ⟨q, q1⟩
    · left; simp [q]
    · right; left; simp [q]
    · rw [q]
      by_cases he : r.2.2.2 = 0
      · have hm := q1 he
        have hlen : r'.1.length = r.1.length := by rw [hm]; simp
        simp only [he, ne_eq, not_true_eq_false, if_false, List.length_map, hlen]
        by_cases h20 : u.1.length + r.1.length > 20000
        · simp only [h20, if_true]; exact .inr (.inr ⟨rfl, rfl⟩)
        · simp only [h20, if_false]
          have hcat : u.1.map (mvM v) ++ r'.1.map (setB i) = (u.1 ++ r.1.map (setB i)).map (mvM v) := by rw [hm, setB_mv, List.map_append]
          by_cases h3 : endsW b = true
          · simp only [h3, if_true]; exact .inr (.inr ⟨rfl, hcat⟩)
          · simp only [h3, if_false]
            have g1 := (hE.2.2 he).1.2.2
            have g2 := (hE2.2.2 (by rw [q]; exact he)).1.2.2
            rw [hm, endW_mv] at g2
            have := run_moved N hv hl h1 h2 l (i + 1) (u.1 ++ r.1.map (setB i), endW u.2.1 r.1, r.2.1, r.2.2.1) (fun b hb' => hb b (by simp [hb'])) g1 g2
            simp only at this
            rw [hcat, hm, endW_mv]
            exact this
      · simp only [he, ne_eq, not_false_eq_true, if_true]
        exact .inr (.inr ⟨rfl, rfl⟩)

theorem tmod_small (a : Int) : -1000000 ≤ Int.tmod a 1000000 ∧ Int.tmod a 1000000 ≤ 1000000 := by
  have h1 := Int.tmod_lt_of_pos a (show (0 : Int) < 1000000 by decide)
  have h2 := Int.lt_tmod_of_pos a (show (0 : Int) < 1000000 by decide)
  omega
theorem moved_true (L : List ApiBlock) (s : L47Setting) (by_ : Arr3I32) (hu : ∀ b ∈ L, ∀ w ∈ b.Words, u8W w) (hl : L.length ≤ 9223372036854775807) (hw : True) : l47_InterpreterMoved L s by_ = some true := by
  suffices h : Tot (l47_InterpreterMoved L s by_) (fun b => b = true) by
    obtain ⟨e, h1, h2⟩ := h
    rw [h1, h2]
  unfold l47_InterpreterMoved
  simp only [awake47, bindO_s, if_true]
  refine Tot.bind (E := fun b => b = true ∨ (fewL L ∧ s.Table.Lengths.length ≤ 20 ∧ inR s.From ∧ r45_Valid s.Table = some 0)) (Tot.bind (l47_few_tot L s hl) fun b hb => Tot.ite (fun hbt => ?_) (fun _ => .ok (.inl rfl))) fun b hb => Tot.ite (fun _ => .ok rfl) (fun hf => ?_)
  · obtain ⟨h1, h2⟩ := hb hbt
    obtain ⟨e, he, _⟩ := r45_Valid_tot s.Table (by omega)
    rw [he, bindO_s]
    refine Tot.ite (fun _ => .ok (.inl rfl)) (fun h0 => ?_)
    rw [r47_InRange_eq, bindO_s]
    by_cases hr : inR s.From
    · exact .ok (.inr ⟨h1, h2, hr, by simp at h0; rw [h0]⟩)
    · exact .ok (.inl (by simp [hr]))
  · obtain ⟨hfew, ht, hin, hval⟩ := hb.resolve_left (by simp [hf])
    have hbs : ∀ b ∈ L, okS b := fun b hb => ⟨hu b hb, by have := (hfew.2 b hb).1; omega, by have := (hfew.2 b hb).2; omega⟩
    have hll := hfew.1
    have ht' : (theirsW s.Table).Lengths.length ≤ 1000 := by simp [theirsW]; omega
    have hV : ∃ v, v = ApiPos.mk (IntKind.i64.wrap (Int.tmod by_.e0 1000000)) (IntKind.i64.wrap (Int.tmod by_.e1 1000000)) (IntKind.i64.wrap (Int.tmod by_.e2 1000000)) ∧ small v := by
      refine ⟨_, rfl, ?_⟩
      have a := tmod_small by_.e0
      have b := tmod_small by_.e1
      have c := tmod_small by_.e2
      unfold small
      simp only
      rw [wrap_i64 (by omega) (by omega), wrap_i64 (by omega) (by omega), wrap_i64 (by omega) (by omega)]
      omega
    obtain ⟨v, hve, hv⟩ := hV
    rw [← hve]
    have hval1 : tb_Valid (theirsW s.Table) = some 0 := by rw [valid_same s.Table (by omega)]; exact hval
    obtain ⟨ev, hev, hbd⟩ := tb_Valid_tot (theirsW s.Table) ht'
    obtain rfl : ev = 0 := by rw [hval1] at hev; injection hev with q; exact q.symm
    obtain ⟨⟨w0, w1, w2, w3, w4, w5⟩, _⟩ := hbd.2 rfl
    refine Tot.bindX (E := fun T : R45Table => T = R45Table.mk (Arr6ApiPos.mk (mv v s.Table.Work.e0) (mv v s.Table.Work.e1) (mv v s.Table.Work.e2) (mv v s.Table.Work.e3) (mv v s.Table.Work.e4) (mv v s.Table.Work.e5)) s.Table.Lengths ∧ inR (mv v s.Table.Work.e0) ∧ inR (mv v s.Table.Work.e1) ∧ inR (mv v s.Table.Work.e2) ∧ inR (mv v s.Table.Work.e3) ∧ inR (mv v s.Table.Work.e4) ∧ inR (mv v s.Table.Work.e5)) ?_ (fun T hT => ?_)
    · rw [plus_eq hv (show inR s.Table.Work.e0 from w0), plus_eq hv (show inR s.Table.Work.e1 from w1), plus_eq hv (show inR s.Table.Work.e2 from w2), plus_eq hv (show inR s.Table.Work.e3 from w3), plus_eq hv (show inR s.Table.Work.e4 from w4), plus_eq hv (show inR s.Table.Work.e5 from w5)]
      simp only [bindO_s, r47_InRange_eq]
      refine TotX.ite (fun _ => .ret rfl) (fun g0 => TotX.ite (fun _ => .ret rfl) (fun g1 => TotX.ite (fun _ => .ret rfl) (fun g2 => TotX.ite (fun _ => .ret rfl) (fun g3 => TotX.ite (fun _ => .ret rfl) (fun g4 => TotX.ite (fun _ => .ret rfl) (fun g5 => .go ⟨rfl, ?_⟩))))))
      simp at g0 g1 g2 g3 g4 g5
      exact ⟨g0, g1, g2, g3, g4, g5⟩
    · obtain ⟨hT, x0, x1, x2, x3, x4, x5⟩ := hT
      rw [plus_eq hv hin, bindO_s, r47_InRange_eq, bindO_s]
      refine Tot.ite (fun _ => .ok rfl) (fun hin2 => ?_)
      have hin2' : inR (mv v s.From) := by simpa using hin2
      have hTl : T.Lengths.length ≤ 1000 := by rw [hT]; simp only; omega
      have hTT : theirsW T = mvT v (theirsW s.Table) := by rw [hT]; rfl
      have hval2 : tb_Valid (mvT v (theirsW s.Table)) = some 0 := (valid_work (t := theirsW s.Table) (t' := mvT v (theirsW s.Table)) rfl ⟨w0, w1, w2, w3, w4, w5⟩ ⟨x0, x1, x2, x3, x4, x5⟩).trans hval1
      have hc1 : inp_checked (theirsW s.Table) s.From = some 0 := by
        unfold inp_checked
        rw [show TableTable.mk (theirsW s.Table).Work (theirsW s.Table).Lengths = theirsW s.Table from rfl, hval1, bindO_s, inp_inside_eq, decide_eq_true hin]; rfl
      have hc2 : inp_checked (mvT v (theirsW s.Table)) (mv v s.From) = some 0 := by
        unfold inp_checked
        rw [show TableTable.mk (mvT v (theirsW s.Table)).Work (mvT v (theirsW s.Table)).Lengths = mvT v (theirsW s.Table) from rfl, hval2, bindO_s, inp_inside_eq, decide_eq_true hin2']; rfl
      have hcl : slices_Clone_api_Block_api_Block L = some L := by unfold slices_Clone_api_Block_api_Block; rw [okLen_of (by omega), guardO_t]
      rw [hcl, bindO_s, l47_theirs_eq _ (by omega), bindO_s, inp_Blocks_eq L _ _ 0 hc1 (by omega) hbs ht', bindO_s, bindO_s, l47_theirs_eq _ hTl, bindO_s, bindO_s, hTT, inp_Blocks_eq L _ _ 0 hc2 (by omega) hbs ht', bindO_s]
      simp only [ne_eq, not_true_eq_false, if_false]
      have hrun := run_moved L.length hv ht' hval1 hval2 L 0 ([], s.From, newS, zC) hbs hin hin2'
      obtain ⟨hA, _⟩ := runB_ok (theirsW s.Table) L.length s.From ht' L 0 ([], s.From, newS, zC) hbs (by simp) ⟨⟨rfl, by simp, hin⟩, by simp, by simp, by simp⟩ rfl
      simp only [List.map_nil] at hrun
      generalize runB (theirsW s.Table) L.length 0 L ([], s.From, newS, zC) = A at hrun hA
      generalize runB (mvT v (theirsW s.Table)) L.length 0 L ([], mv v s.From, newS, zC) = B at hrun
      rcases hrun with q | q | ⟨q1, q2⟩
      · simp [q]; exact .ok rfl
      · simp [q]; exact .ok rfl
      · refine Tot.ite (fun _ => .ok rfl) (fun _ => ?_)
        have hlen := hA.2.2.2
        have : (!((A.2.Block == B.2.Block) && (A.2.Code == B.2.Code)) || ((A.1.length : Int) != (B.1.length : Int))) = false := by rw [q1, q2]; simp
        simp only [this, Bool.false_eq_true, if_false]
        refine Tot.bindX (E := fun _ => True) (TotX.guard (okIdx_of (by omega)) (TotX.of (Tot.range (fun _ _ => True) _ trivial (fun i x u hx _ => ?_) (fun v _ => .ok trivial)))) (fun _ _ => .ok rfl)
        obtain ⟨f1, f2, _⟩ := hA.1.2.1 x (List.mem_of_getElem? hx)
        rw [plus_eq hv f1, bindO_s, plus_eq hv f2, bindO_s, gt_k (x := mvM v x) (by rw [q2, List.getElem?_map, hx]; rfl), bindO_s]
        simp [mvM]
        exact .go trivial
theorem interpreterMoved_plain (l : List ApiBlock) (s : L47Setting) (v : Arr3I32) (h1 : inList inApiBlock l) (_ : inL47Setting s) (_ : inArr3I32 v) : l47_InterpreterMoved l s v = some true :=
  moved_true l s v (fun b hb w hw => inU8 (((h1.2 b hb).2.1.2 w hw).1)) (by have := h1.1; unfold maxLen at this; omega) trivial

end Go.Proofs.YtlcfgpjgjdjpoaaDoor
