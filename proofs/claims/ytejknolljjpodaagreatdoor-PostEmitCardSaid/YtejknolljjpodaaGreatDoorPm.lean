/-
  Po, Mo in one text.
-/
import Derived.Test.YtejknolljjpodaaGreatDoorBv
import Derived.Test.YtejknolljjpodaaGreatDoorMW
namespace Go.Proofs.YtejknolljjpodaaGreatDoor
open Go.RowKit
set_option linter.unusedVariables false
set_option linter.unusedSimpArgs false
theorem wrap_u64 (n : Int) : IntKind.u64.wrap n = n % 18446744073709551616 := by
 simp [IntKind.wrap, IntKind.bits, IntKind.signed]
def codes1 : List Int := [0, 1000, 2000, 3000, 80000, 81000, 82000, 83000]
def codes2 : List Int := [90000, 91000]
def codes3 : List Int := [54000, 55000, 56000, 57000, 58000, 59000]
def codes4 : List Int := [43000, 49000]
def codes5 : List Int := [98000, 99000]
def grp (c : Int) : Int := if c ∈ codes1 then 1 else if c ∈ codes2 then 2 else if c ∈ codes3 then 3 else if c ∈ codes4 then 4 else if c ∈ codes5 then 5 else 0
theorem grp_cases (c : Int) : (c ∈ codes1 ++ codes2 ++ codes3 ++ codes4 ++ codes5) ∨ (c ∉ codes1 ++ codes2 ++ codes3 ++ codes4 ++ codes5) := Decidable.em _
theorem md_Group_eq (c : Int) : md_Group c = some (grp c) := by
 rcases grp_cases c with h | h
 ·simp only [codes1, codes2, codes3, codes4, codes5, List.cons_append, List.nil_append, List.mem_cons, List.not_mem_nil, or_false] at h
  rcases h with h | h | h | h | h | h | h | h | h | h | h | h | h | h | h | h | h | h | h | h <;> (subst h; decide)
 ·simp only [codes1, codes2, codes3, codes4, codes5, List.cons_append, List.nil_append, List.mem_cons, List.not_mem_nil, or_false, not_or] at h
  have e : ∀ k : Int, c ≠ k → (c == k) = false := fun k hk => by simpa using hk
  simp [md_Group, grp, codes1, codes2, codes3, codes4, codes5, e, h]
theorem r42_Group_eq (c : Int) : r42_Group c = some (grp c) := by
 rcases grp_cases c with h | h
 ·simp only [codes1, codes2, codes3, codes4, codes5, List.cons_append, List.nil_append, List.mem_cons, List.not_mem_nil, or_false] at h
  rcases h with h | h | h | h | h | h | h | h | h | h | h | h | h | h | h | h | h | h | h | h <;> (subst h; decide)
 ·simp only [codes1, codes2, codes3, codes4, codes5, List.cons_append, List.nil_append, List.mem_cons, List.not_mem_nil, or_false, not_or] at h
  have e : ∀ k : Int, c ≠ k → (c == k) = false := fun k hk => by simpa using hk
  have w : ∀ k : Int, 0 ≤ k → k ≤ 1000000 → IntKind.i64.wrap k = k := fun k h1 h2 => by
   unfold IntKind.wrap; simp [IntKind.signed, IntKind.bits]; omega
  simp [r42_Group, r42_codes, rangeX, okIdx, grp, codes1, codes2, codes3, codes4, codes5, h, w]
  rfl
def optV (w n f : Int) : Int := if grp w ≠ 3 ∨ n < 0 ∨ n > 1000 ∨ (f ≠ 0 ∧ (f < 2 ∨ f > 100)) then 1 else 0
theorem po_Valid_eq (o : PostOptions) : po_Valid o = some (optV o.Work o.Numbers o.Fold) := by
 unfold po_Valid optV
 simp only [md_Group_eq, bindO_s]
 by_cases h1 : grp o.Work = 3 <;> by_cases h2 : o.Numbers < 0 <;> by_cases h3 : o.Numbers > 1000 <;> by_cases h4 : o.Fold = 0 <;> by_cases h5 : o.Fold < 2 <;> by_cases h6 : o.Fold > 100 <;> simp [h1, h2, h3, h4, h5, h6]
theorem r46_Valid_eq (o : R46Options) : r46_Valid o = some (optV o.Work o.Numbers o.Fold) := by
 unfold r46_Valid optV
 simp only [r42_Group_eq, bindO_s]
 by_cases h1 : grp o.Work = 3 <;> by_cases h2 : o.Numbers < 0 <;> by_cases h3 : o.Numbers > 1000 <;> by_cases h4 : o.Fold = 0 <;> by_cases h5 : o.Fold < 2 <;> by_cases h6 : o.Fold > 100 <;> simp [h1, h2, h3, h4, h5, h6]
def i64P (n : Int) : Prop := -9223372036854775808 ≤ n ∧ n ≤ 9223372036854775807
def dst (a b : Int) : Int := if a < b then b - a else a - b
theorem ip_apart_eq {a b : Int} (ha : i64P a) (hb : i64P b) : ip_apart a b = some (dst a b) := by
 unfold i64P at *
 unfold ip_apart dst
 by_cases h : a < b
 ·simp only [h, decide_true, if_true, bindO_s, wrap_u64]; congr 1; omega
 ·simp only [h, decide_false, if_false, bindO_s, wrap_u64, Bool.false_eq_true]; congr 1; omega
theorem r33_apart_eq {a b : Int} (ha : i64P a) (hb : i64P b) : r33_apart a b = some (dst a b) := ip_apart_eq ha hb
def rad (p : ApiPos) (c : ApiGrid2) : Int := if p.Y = c.Y then dst p.X c.X else if p.X = c.X then dst p.Y c.Y else 0
theorem ip_point_eq {p : ApiPos} {c : ApiGrid2} (h1 : i64P p.X) (h2 : i64P p.Y) (h3 : i64P c.X) (h4 : i64P c.Y) : ∃ d, ip_point p c = some (d, rad p c) := by
 unfold ip_point rad
 simp only [ip_apart_eq h1 h3, ip_apart_eq h2 h4, bindO_s]
 by_cases e1 : p.Y = c.Y <;> by_cases e2 : p.X = c.X <;> rcases Int.lt_trichotomy p.X c.X with q | q | q <;> rcases Int.lt_trichotomy p.Y c.Y with r | r | r <;> first | (exfalso; omega) | (simp [e1, e2, q, r, dst]; done) | (simp [e1, e2, q, r, dst]; split <;> exact ⟨_, rfl⟩) | (simp [e1, e2, q, r, dst]; repeat (first | exact ⟨_, rfl⟩ | split))
def farP (n : Int) : Bool := decide (n > 10000000 ∨ n < -10000000)
theorem r33_far_eq (n : Int) : r33_far n = some (farP n) := by unfold r33_far farP; congr 1; by_cases h : n > 10000000 <;> by_cases h2 : n < -10000000 <;> simp [h, h2]
theorem dst0 (n : Int) : decide (dst n 0 > 10000000) = farP n := by
 unfold farP dst
 apply decide_eq_decide.2
 split <;> omega
def far6 (p q : ApiPos) : Bool := farP p.X || farP p.Y || farP p.Z || farP q.X || farP q.Y || farP q.Z
def movV (p : ApiPos) (m : ApiMove) : Int :=
 if (m.Kind = 1 ∧ m.Rate = 0) ∨ (m.Kind = 2 ∧ m.Rate > 0) then (if far6 p m.To = true then 11 else 0)
 else if (m.Kind = 3 ∨ m.Kind = 4) ∧ m.Rate > 0 ∧ rad p m.Center > 0 ∧ rad p m.Center = rad m.To m.Center then
  (if (far6 p m.To || farP m.Center.X || farP m.Center.Y || farP (m.Center.X + rad p m.Center) || farP (m.Center.X - rad p m.Center) || farP (m.Center.Y + rad p m.Center) || farP (m.Center.Y - rad p m.Center)) = true then 11 else 0)
 else 1
def okPos (p : ApiPos) : Prop := i64P p.X ∧ i64P p.Y ∧ i64P p.Z
def okMove (m : ApiMove) : Prop := i64P m.Kind ∧ okPos m.To ∧ i64P m.Center.X ∧ i64P m.Center.Y ∧ i64P m.Rate
def apU (a b : Int) : Int := if a < b then IntKind.u64.wrap (IntKind.u64.wrap b - IntKind.u64.wrap a) else IntKind.u64.wrap (IntKind.u64.wrap a - IntKind.u64.wrap b)
theorem ip_apart_tot (a b : Int) : ip_apart a b = some (apU a b) := by
 unfold ip_apart apU
 by_cases h : a < b <;> simp [h]
theorem apU_eq {a b : Int} (ha : i64P a) (hb : i64P b) : apU a b = dst a b := by
 have h1 := ip_apart_tot a b
 rw [ip_apart_eq ha hb] at h1
 injection h1 with h1
 exact h1.symm
theorem any_congr' {α : Type} {p q : α → Bool} : ∀ {l : List α}, (∀ x ∈ l, p x = q x) → l.any p = l.any q
 | [], _ => rfl
 | x :: l, h => by rw [List.any_cons, List.any_cons, h x (by simp), any_congr' fun y hy => h y (by simp [hy])]
theorem bindX_go {ε ν : Type} {f : ν → Option ε} {v : ν} : bindX (some (.go v)) f = f v := rfl
theorem far_list (l : List Int) (hl : ∀ x ∈ l, i64P x) (hs : l.length ≤ 100) :
  bindX (guardO (okIdx l) (rangeX (fun (i : Nat) (e : Int) (v : Unit) => bindO (ip_apart e 0) fun (y : Int) => if (decide (y > 10000000)) = true then some (.ret (.ret 11)) else some (.go ())) (fun (v : Unit) => some (.go ())) l 0 ())) (fun (v : Unit) => some (0 : Int)) = some (if l.any farP = true then 11 else 0) := by
 have h := range_any (r := (11 : Int)) (p := fun e => decide (apU e 0 > 10000000)) (f := fun (i : Nat) (e : Int) (v : Unit) => bindO (ip_apart e 0) fun (y : Int) => if (decide (y > 10000000)) = true then some (.ret (.ret 11)) else some (.go ())) l 0 (fun i x => by rw [ip_apart_tot, bindO_s])
 rw [okIdx_of (by omega), guardO_t, h, any_congr' (q := farP) (fun x hx => by rw [apU_eq (hl x hx) (by unfold i64P; omega), dst0])]
 cases l.any farP <;> rfl
theorem ip_right_eq {p : ApiPos} {m : ApiMove} (hp : okPos p) (hm : okMove m) : ip_right p m = some (decide ((m.Kind = 1 ∧ m.Rate = 0) ∨ (m.Kind = 2 ∧ m.Rate > 0) ∨ ((m.Kind = 3 ∨ m.Kind = 4) ∧ m.Rate > 0 ∧ rad p m.Center > 0 ∧ rad p m.Center = rad m.To m.Center))) := by
 obtain ⟨h1, h2, h3, h4, h5⟩ := hm
 obtain ⟨d, hd⟩ := ip_point_eq hp.1 hp.2.1 h3 h4
 obtain ⟨d', hd'⟩ := ip_point_eq h2.1 h2.2.1 h3 h4
 unfold ip_right ip_isArc
 by_cases e1 : m.Kind = 1
 ·by_cases q : m.Rate = 0 <;> simp [e1, q]
 ·by_cases e2 : m.Kind = 2
  ·by_cases q : m.Rate > 0 <;> simp [e2, q]
  ·by_cases e3 : m.Kind = 3 ∨ m.Kind = 4
   ·have hb : ((m.Kind == 3) || (m.Kind == 4)) = true := by simpa using e3
    by_cases q : m.Rate > 0 <;> by_cases q2 : rad p m.Center > 0 <;> by_cases q3 : rad p m.Center = rad m.To m.Center <;> simp [e1, e2, e3, hb, hd, hd', q, q2, q3] <;> first | done | (simp_all; done) | (simp_all; by_cases w : 0 < rad m.To m.Center <;> simp [w])
   ·have hb : ((m.Kind == 3) || (m.Kind == 4)) = false := by
     rw [not_or] at e3
     simp [e3]
    simp [e1, e2, e3, hb, hd, hd']
theorem rad_nn (p : ApiPos) (c : ApiGrid2) : 0 ≤ rad p c := by
 unfold rad dst; split <;> (try split) <;> (try split) <;> omega
theorem ip_Valid_eq {p : ApiPos} {m : ApiMove} (hp : okPos p) (hm : okMove m) : ip_Valid p m = some (movV p m) := by
 have hr := ip_right_eq hp hm
 obtain ⟨h1, h2, h3, h4, h5⟩ := hm
 obtain ⟨d, hd⟩ := ip_point_eq hp.1 hp.2.1 h3 h4
 have z : i64P 0 := by unfold i64P; omega
 unfold ip_Valid
 rw [show ip_right (ApiPos.mk p.X p.Y p.Z) (ApiMove.mk m.Kind m.To m.Center m.Rate) = ip_right p m from rfl, hr, bindO_s]
 rw [show ip_point (ApiPos.mk p.X p.Y p.Z) m.Center = ip_point p m.Center from rfl, hd]
 simp only [bindO_s, ip_isArc, ip_apart_eq h3 z, ip_apart_eq h4 z]
 unfold movV
 by_cases e1 : (m.Kind = 1 ∧ m.Rate = 0) ∨ (m.Kind = 2 ∧ m.Rate > 0)
 ·have hb : ((m.Kind == 3) || (m.Kind == 4)) = false := by
   have h3 : ¬ (m.Kind = 3) := by omega
   have h4 : ¬ (m.Kind = 4) := by omega
   simp [h3, h4]
  rw [decide_eq_true (by rcases e1 with e | e; exact .inl e; exact .inr (.inl e)), if_neg (by simp), hb, if_neg (by simp)]
  rw [if_pos e1]
  rw [bindX_go, far_list _ (fun x hx => ?_) (by simp)]
  ·simp [far6, Bool.or_assoc]
  ·obtain ⟨p1, p2, p3⟩ := hp
   obtain ⟨t1, t2, t3⟩ := h2
   simp only [List.mem_cons, List.not_mem_nil, or_false] at hx
   rcases hx with rfl | rfl | rfl | rfl | rfl | rfl <;> assumption
 ·rw [if_neg e1]
  by_cases e2 : (m.Kind = 3 ∨ m.Kind = 4) ∧ m.Rate > 0 ∧ rad p m.Center > 0 ∧ rad p m.Center = rad m.To m.Center
  ·have hb : ((m.Kind == 3) || (m.Kind == 4)) = true := by simpa using e2.1
   rw [decide_eq_true (.inr (.inr e2)), if_neg (by simp), hb, if_pos rfl, if_pos e2]
   simp only [dst0]
   have hnn := rad_nn p m.Center
   by_cases q1 : rad p m.Center > 10000000
   ·have hf : (far6 p m.To || farP m.Center.X || farP m.Center.Y || farP (m.Center.X + rad p m.Center) || farP (m.Center.X - rad p m.Center) || farP (m.Center.Y + rad p m.Center) || farP (m.Center.Y - rad p m.Center)) = true := by
     have : farP (m.Center.X + rad p m.Center) = true ∨ farP (m.Center.X - rad p m.Center) = true := by
      unfold farP; simp only [decide_eq_true_eq]; omega
     simp only [Bool.or_eq_true]
     rcases this with q | q <;> simp [q]
    rw [decide_eq_true q1, if_pos rfl, bindO_s, if_pos rfl, if_pos hf]
    rfl
   ·rw [decide_eq_false q1, if_neg (by simp)]
    by_cases q2 : farP m.Center.X = true
    ·rw [if_pos q2, bindO_s, if_pos rfl, if_pos (by simp [q2])]
     rfl
    ·rw [if_neg q2]
     by_cases q3 : farP m.Center.Y = true
     ·rw [q3, bindO_s, if_pos rfl, if_pos (by simp)]
      rfl
     ·have q2' : farP m.Center.X = false := by simpa using q2
      have q3' : farP m.Center.Y = false := by simpa using q3
      have b1 : -10000000 ≤ m.Center.X ∧ m.Center.X ≤ 10000000 := by unfold farP at q2'; simp at q2'; omega
      have b2 : -10000000 ≤ m.Center.Y ∧ m.Center.Y ≤ 10000000 := by unfold farP at q3'; simp at q3'; omega
      rw [q3', bindO_s, if_neg (by simp)]
      rw [wrap_i64 (n := rad p m.Center) (by omega) (by omega), wrap_i64 (by omega) (by omega), wrap_i64 (by omega) (by omega), wrap_i64 (by omega) (by omega), wrap_i64 (by omega) (by omega)]
      rw [bindX_go, far_list _ (fun x hx => ?_) (by simp)]
      ·simp [far6, Bool.or_assoc, q2', q3']
      ·obtain ⟨p1, p2, p3⟩ := hp
       obtain ⟨t1, t2, t3⟩ := h2
       simp only [List.mem_cons, List.not_mem_nil, or_false] at hx
       rcases hx with rfl | rfl | rfl | rfl | rfl | rfl | rfl | rfl | rfl | rfl <;> first | assumption | (unfold i64P; omega)
  ·rw [if_neg e2, decide_eq_false (by rintro (q | q | q); exact e1 (.inl q); exact e1 (.inr q); exact e2 q)]
   rfl
theorem right_core {A B C D : Int} (a1 : 0 ≤ A) (a2 : A < 18446744073709551616) (b1 : 0 ≤ B) (b2 : B < 18446744073709551616) (c1 : 0 ≤ C) (c2 : C < 18446744073709551616) (d1 : 0 ≤ D) (d2 : D < 18446744073709551616) :
  (!((A == 0) == (B == 0)) && (!((C == 0) == (D == 0)) && ((IntKind.u64.wrap (A + B)) == (IntKind.u64.wrap (C + D))))) = decide ((if B = 0 then A else if A = 0 then B else 0) > 0 ∧ (if B = 0 then A else if A = 0 then B else 0) = (if D = 0 then C else if C = 0 then D else 0)) := by
 rw [Bool.eq_iff_iff]
 by_cases e1 : A = 0 <;> by_cases e2 : B = 0 <;> by_cases e3 : C = 0 <;> by_cases e4 : D = 0 <;> simp [e1, e2, e3, e4, wrap_u64] <;> (first | omega | (intro hh; exfalso; apply hh; rw [beq_false_of_ne e3, beq_false_of_ne e4]; done) | (intro hh; exfalso; apply hh; rw [beq_false_of_ne e1, beq_false_of_ne e2]))
theorem r33_right_eq {p : ApiPos} {m : ApiMove} (hp : okPos p) (hm : okMove m) : r33_right p m = some (decide (rad p m.Center > 0 ∧ rad p m.Center = rad m.To m.Center)) := by
 obtain ⟨h1, h2, h3, h4, h5⟩ := hm
 unfold r33_right
 rw [r33_apart_eq hp.1 h3, bindO_s, r33_apart_eq hp.2.1 h4, bindO_s, r33_apart_eq h2.1 h3, bindO_s, r33_apart_eq h2.2.1 h4, bindO_s]
 have key : ∀ a b : Int, i64P a → i64P b → 0 ≤ dst a b ∧ dst a b < 18446744073709551616 ∧ (dst a b = 0 ↔ a = b) := by
  intro a b ha hb
  unfold i64P at ha hb
  unfold dst
  split <;> omega
 have a1 := key p.X m.Center.X hp.1 h3
 have a2 := key p.Y m.Center.Y hp.2.1 h4
 have a3 := key m.To.X m.Center.X h2.1 h3
 have a4 := key m.To.Y m.Center.Y h2.2.1 h4
 unfold rad
 have r1 : (if p.Y = m.Center.Y then dst p.X m.Center.X else if p.X = m.Center.X then dst p.Y m.Center.Y else 0) = (if dst p.Y m.Center.Y = 0 then dst p.X m.Center.X else if dst p.X m.Center.X = 0 then dst p.Y m.Center.Y else 0) := by simp only [a1.2.2, a2.2.2]
 have r2 : (if m.To.Y = m.Center.Y then dst m.To.X m.Center.X else if m.To.X = m.Center.X then dst m.To.Y m.Center.Y else 0) = (if dst m.To.Y m.Center.Y = 0 then dst m.To.X m.Center.X else if dst m.To.X m.Center.X = 0 then dst m.To.Y m.Center.Y else 0) := by simp only [a3.2.2, a4.2.2]
 rw [r1, r2]
 exact congrArg some (right_core a1.1 a1.2.1 a2.1 a2.2.1 a3.1 a3.2.1 a4.1 a4.2.1)
theorem r33_quad_eq {p : ApiPos} {c : ApiGrid2} (h1 : -10000000 ≤ p.X ∧ p.X ≤ 10000000) (h2 : -10000000 ≤ p.Y ∧ p.Y ≤ 10000000) (h3 : -10000000 ≤ c.X ∧ c.X ≤ 10000000) (h4 : -10000000 ≤ c.Y ∧ c.Y ≤ 10000000) :
    ∃ d, r33_quadrant (IntKind.i64.wrap (p.X - c.X)) (IntKind.i64.wrap (p.Y - c.Y)) = some (d, rad p c) ∧ (d < 0 ↔ rad p c = 0) := by
  rw [wrap_i64 (by omega) (by omega), wrap_i64 (by omega) (by omega)]
  unfold r33_quadrant
  rw [wrap_i64 (n := 0 - (p.X - c.X)) (by omega) (by omega), wrap_i64 (n := 0 - (p.Y - c.Y)) (by omega) (by omega)]
  unfold rad dst
  by_cases q1 : p.X - c.X > 0 <;> by_cases q2 : p.X - c.X = 0 <;> by_cases q3 : p.Y - c.Y > 0 <;> by_cases q4 : p.Y - c.Y = 0 <;> first
    | (exfalso; omega)
    | (by_cases q5 : p.X - c.X < 0 <;> by_cases q6 : p.Y - c.Y < 0 <;> first
        | (exfalso; omega)
        | (simp only [decide_eq_true_eq, Bool.and_eq_true, beq_iff_eq, q1, q2, q3, q4, q5, q6, and_true, true_and, and_false, false_and, if_true, if_false, and_self]
           refine ⟨_, rfl, ?_⟩ <;> split <;> (try split) <;> (try split) <;> omega)
        | (simp only [decide_eq_true_eq, Bool.and_eq_true, beq_iff_eq, q1, q2, q3, q4, q5, q6, and_true, true_and, and_false, false_and, if_true, if_false, and_self]
           refine ⟨_, congrArg some (Prod.ext rfl ?_), ?_⟩ <;> (try dsimp only) <;> (try split) <;> (try split) <;> (try split) <;> (try split) <;> omega))
theorem far_bd {n : Int} (h : farP n = false) : -10000000 ≤ n ∧ n ≤ 10000000 := by unfold farP at h; simp at h; omega
theorem or_chain (a b c d e f : Bool) : (if a = true then some true else if b = true then some true else if c = true then some true else if d = true then some true else if e = true then some true else some f) = some (a || b || c || d || e || f) := by
 cases a <;> cases b <;> cases c <;> cases d <;> cases e <;> cases f <;> rfl
theorem r33_Valid_eq {p : ApiPos} {m : ApiMove} (hp : okPos p) (hm : okMove m) : r33_Valid p m = some (movV p m) := by
 have hr := r33_right_eq hp hm
 obtain ⟨h1, h2, h3, h4, h5⟩ := hm
 unfold r33_Valid movV
 have hs : (if (m.Kind == 1) = true then (m.Rate == 0) || ((m.Kind == 2) && (decide (m.Rate > 0))) else (m.Kind == 2) && (decide (m.Rate > 0))) = decide ((m.Kind = 1 ∧ m.Rate = 0) ∨ (m.Kind = 2 ∧ m.Rate > 0)) := by
  by_cases e1 : m.Kind = 1
  ·by_cases q : m.Rate = 0 <;> simp [e1, q]
  ·by_cases e2 : m.Kind = 2 <;> by_cases q : m.Rate > 0 <;> simp [e1, e2, q]
 rw [hs]
 simp only [r33_far_eq, bindO_s, or_chain]
 rw [show (farP p.X || farP p.Y || farP p.Z || farP m.To.X || farP m.To.Y || farP m.To.Z) = far6 p m.To from rfl]
 by_cases e1 : (m.Kind = 1 ∧ m.Rate = 0) ∨ (m.Kind = 2 ∧ m.Rate > 0)
 ·simp only [decide_eq_true e1, if_true, bindO_s, Bool.false_eq_true, if_false, if_pos e1]
  cases far6 p m.To <;> rfl
 ·simp only [decide_eq_false e1, Bool.false_eq_true, if_false, if_neg e1, r33_arc, bindO_s]
  by_cases e3 : m.Kind = 3 ∨ m.Kind = 4
  ·have hb : ((m.Kind == 3) || (m.Kind == 4)) = true := by simpa using e3
   by_cases q : m.Rate > 0
   ·simp only [hb, if_true, bindO_s, decide_eq_false (show ¬ m.Rate ≤ 0 by omega), Bool.false_eq_true, if_false, e3, q, true_and]
    by_cases f : (far6 p m.To || farP m.Center.X || farP m.Center.Y) = true
    ·have hv : (if far6 p m.To = true then some true else if farP m.Center.X = true then some true else some (farP m.Center.Y)) = some true := by
      revert f; cases far6 p m.To <;> cases farP m.Center.X <;> cases farP m.Center.Y <;> simp
     rw [hv, bindO_s, if_pos rfl, hr, bindO_s]
     by_cases g : rad p m.Center > 0 ∧ rad p m.Center = rad m.To m.Center
     ·rw [decide_eq_true g, if_neg (by simp), if_pos g, if_pos (by simp only [Bool.or_eq_true] at f ⊢; simp only [f, true_or])]
     ·rw [decide_eq_false g, if_pos (by simp), if_neg g]
    ·have f' : (far6 p m.To || farP m.Center.X || farP m.Center.Y) = false := by simpa using f
     have hv : (if far6 p m.To = true then some true else if farP m.Center.X = true then some true else some (farP m.Center.Y)) = some false := by
      revert f'; cases far6 p m.To <;> cases farP m.Center.X <;> cases farP m.Center.Y <;> simp
     rw [hv, bindO_s, if_neg (by simp)]
     simp only [Bool.or_eq_false_iff] at f'
     obtain ⟨⟨f6, fx⟩, fy⟩ := f'
     have g6 := f6
     unfold far6 at g6
     simp only [Bool.or_eq_false_iff] at g6
     obtain ⟨⟨⟨⟨⟨g1, g2⟩, g3⟩, g4⟩, g5⟩, g6⟩ := g6
     have b1 := far_bd g1; have b2 := far_bd g2; have b4 := far_bd g4; have b5 := far_bd g5; have c1 := far_bd fx; have c2 := far_bd fy
     obtain ⟨d, hd, hd2⟩ := r33_quad_eq (p := p) (c := m.Center) b1 b2 c1 c2
     obtain ⟨d', hd', hd2'⟩ := r33_quad_eq (p := m.To) (c := m.Center) b4 b5 c1 c2
     rw [hd, bindO_s, hd', bindO_s]
     have hn := rad_nn p m.Center
     have hn' := rad_nn m.To m.Center
     have hle : rad p m.Center ≤ 20000000 := by
      unfold rad dst; split <;> (try split) <;> (try split) <;> omega
     by_cases g : rad p m.Center > 0 ∧ rad p m.Center = rad m.To m.Center
     ·have z1 : ¬ d < 0 := fun q => by rw [hd2] at q; omega
      have z2 : ¬ d' < 0 := fun q => by rw [hd2'] at q; omega
      rw [if_neg (by simp only [Bool.or_eq_true, decide_eq_true_eq, bne_iff_ne, ne_eq]; rintro (q | q | q); exact z1 q; exact z2 q; exact q g.2), if_pos g]
      rw [wrap_i64 (n := m.Center.X + rad p m.Center) (by omega) (by omega), wrap_i64 (n := m.Center.X - rad p m.Center) (by omega) (by omega), wrap_i64 (n := m.Center.Y + rad p m.Center) (by omega) (by omega), wrap_i64 (n := m.Center.Y - rad p m.Center) (by omega) (by omega)]
      rw [f6, fx, fy]
      cases farP (m.Center.X + rad p m.Center) <;> cases farP (m.Center.X - rad p m.Center) <;> cases farP (m.Center.Y + rad p m.Center) <;> cases farP (m.Center.Y - rad p m.Center) <;> rfl
     ·rw [if_neg g]
      rw [if_pos (by
       simp only [Bool.or_eq_true, decide_eq_true_eq, bne_iff_ne, ne_eq]
       by_cases q1 : rad p m.Center = rad m.To m.Center
       ·left; rw [hd2]; omega
       ·exact .inr (.inr q1))]
   ·simp only [hb, if_true, bindO_s, decide_eq_true (show m.Rate ≤ 0 by omega), q, and_false, false_and, if_false]
  ·have hb : ((m.Kind == 3) || (m.Kind == 4)) = false := by
    rw [not_or] at e3
    simp [e3]
   simp only [hb, Bool.false_eq_true, if_false, bindO_s, if_true, e3, false_and]
theorem movV_kind {p : ApiPos} {m : ApiMove} (h : movV p m = 0) : m.Kind = 1 ∨ m.Kind = 2 ∨ m.Kind = 3 ∨ m.Kind = 4 := by
 unfold movV at h
 split at h
 ·omega
 ·split at h
  ·omega
  ·omega
def movW (p : ApiPos) (m : ApiMove) : List ApiWord :=
 [⟨71, 1000 * (m.Kind - 1)⟩, ⟨88, m.To.X⟩, ⟨89, m.To.Y⟩, ⟨90, m.To.Z⟩] ++ (if m.Kind = 3 ∨ m.Kind = 4 then [⟨73, IntKind.i64.wrap (m.Center.X - p.X)⟩, ⟨74, IntKind.i64.wrap (m.Center.Y - p.Y)⟩] else []) ++ (if m.Kind = 1 then [] else [⟨70, m.Rate⟩])
def movB (p : ApiPos) (m : ApiMove) : ApiBlock × Int :=
 if movV p m ≠ 0 then (⟨false, [], []⟩, movV p m) else if m.Rate > 1000000000000 then (⟨false, [], []⟩, 11) else (⟨false, movW p m, []⟩, 0)
theorem po_whole_eq {c n : Int} (h : -9000000 ≤ n) (h2 : n ≤ 9000000) : po_whole c n = some ⟨c, 1000 * n⟩ := by
 unfold po_whole po_word
 rw [wrap_i64 (by omega) (by omega)]; rfl
theorem po_Move_eq {p : ApiPos} {m : ApiMove} (hp : okPos p) (hm : okMove m) : po_Move p m = some (movB p m) := by
 unfold po_Move movB
 rw [show ip_Valid (ApiPos.mk p.X p.Y p.Z) (ApiMove.mk m.Kind m.To m.Center m.Rate) = ip_Valid p m from rfl, ip_Valid_eq hp hm, bindO_s]
 by_cases h : movV p m = 0
 ·rw [if_neg (show ¬ (movV p m != 0) = true by simp [h]), if_neg (show ¬ movV p m ≠ 0 by simpa using h)]
  by_cases hr : m.Rate > 1000000000000
  ·rw [if_pos (show decide (m.Rate > 1000000000000) = true by simpa using hr), if_pos hr]
  ·rw [if_neg (show ¬ decide (m.Rate > 1000000000000) = true by simpa using hr), if_neg hr]
   have w0 : po_whole 71 0 = some ⟨71, 0⟩ := po_whole_eq (by omega) (by omega)
   have w1 : po_whole 71 1 = some ⟨71, 1000⟩ := po_whole_eq (by omega) (by omega)
   have w2 : po_whole 71 2 = some ⟨71, 2000⟩ := po_whole_eq (by omega) (by omega)
   have w3 : po_whole 71 3 = some ⟨71, 3000⟩ := po_whole_eq (by omega) (by omega)
   rcases movV_kind h with k | k | k | k <;> simp [movW, k, w0, w1, w2, w3, po_word, po_words, okLen_of]
 ·rw [if_pos (show (movV p m != 0) = true by simpa using h), if_pos h]
theorem r46_Move_eq {p : ApiPos} {m : ApiMove} (hp : okPos p) (hm : okMove m) : r46_Move p m = some (movB p m) := by
 unfold r46_Move movB
 rw [r33_Valid_eq hp hm, bindO_s]
 by_cases h : movV p m = 0
 ·rw [if_neg (show ¬ (movV p m != 0) = true by simp [h]), if_neg (show ¬ movV p m ≠ 0 by simpa using h)]
  by_cases hr : m.Rate > 1000000000000
  ·rw [if_pos (show decide (m.Rate > 1000000000000) = true by simpa using hr), if_pos hr]
  ·rw [if_neg (show ¬ decide (m.Rate > 1000000000000) = true by simpa using hr), if_neg hr]
   rcases movV_kind h with k | k | k | k <;> simp [movW, k, r46_word, r46_line, okLen_of, wrap_i64]
 ·rw [if_pos (show (movV p m != 0) = true by simpa using h), if_pos h]
def chgB (n : Int) : List ApiBlock := [⟨false, [⟨84, 1000 * n⟩, ⟨77, 6000⟩], []⟩, ⟨false, [⟨71, 43000⟩, ⟨72, 1000 * n⟩], []⟩]
def chgV (n : Int) : List ApiBlock × Int := if n < 1 ∨ n > 999 then ([], 1) else (chgB n, 0)
theorem po_Change_eq (n : Int) : po_Change n = some (chgV n) := by
 unfold po_Change chgV
 by_cases h : n < 1 ∨ n > 999
 ·rw [if_pos (by simpa using h), if_pos h]
 ·rw [if_neg (by simpa using h), if_neg h]
  simp only [po_whole, po_word, po_words, bindO_s]
  rw [wrap_i64 (n := 1000 * n) (by omega) (by omega)]
  rfl
theorem r46_Change_eq (n : Int) : r46_Change n = some (chgV n) := by
 unfold r46_Change chgV
 by_cases h : n < 1 ∨ n > 999
 ·rw [if_pos (by simpa using h), if_pos h]
 ·rw [if_neg (by simpa using h), if_neg h]
  simp only [r46_line, r46_word, bindO_s]
  rw [wrap_i64 (n := 1000 * n) (by omega) (by omega)]
  rfl
set_option maxRecDepth 100000 in
theorem awake46 : l46_awake = some true := by kernel_rfl
end Go.Proofs.YtejknolljjpodaaGreatDoor
namespace Go.Proofs.YtejknolljjpodaaGreatDoor
open Go.RowKit
set_option linter.unusedVariables false
set_option linter.unusedSimpArgs false
theorem grp_in (c : Int) : grp c = 0 ∨ grp c = 1 ∨ grp c = 2 ∨ grp c = 3 ∨ grp c = 4 ∨ grp c = 5 := by
 unfold grp
 by_cases h1 : c ∈ codes1
 ·simp [h1]
 by_cases h2 : c ∈ codes2
 ·simp [h1, h2]
 by_cases h3 : c ∈ codes3
 ·simp [h1, h2, h3]
 by_cases h4 : c ∈ codes4
 ·simp [h1, h2, h3, h4]
 by_cases h5 : c ∈ codes5
 ·simp [h1, h2, h3, h4, h5]
 ·simp [h1, h2, h3, h4, h5]
def backS (s : ModalState) : R42State := ⟨s.Motion, s.Distance, s.Work, s.Length, s.Return, s.Feed, s.Tool, s.Offset⟩
def putW (s : ModalState) (w : ApiWord) : ModalState := if w.Letter = 71 then (if grp w.Value = 1 then { s with Motion := w.Value } else if grp w.Value = 2 then { s with Distance := w.Value } else if grp w.Value = 3 then { s with Work := w.Value } else if grp w.Value = 4 then { s with Length := w.Value } else { s with Return := w.Value }) else if w.Letter = 70 then { s with Feed := w.Value } else if w.Letter = 84 then { s with Tool := w.Value } else if w.Letter = 72 then { s with Offset := w.Value } else s
theorem md_put_eq (s : ModalState) (w : ApiWord) (h : w.Letter = 71 → grp w.Value ≠ 0) : md_put s w = some (putW s w) := by
 unfold md_put putW
 by_cases h1 : w.Letter = 71
 ·have h0 := h h1
  rcases grp_in w.Value with q | q | q | q | q | q
  ·exact absurd q h0
  all_goals (simp [h1, md_Group_eq, q]; rfl)
 ·by_cases h2 : w.Letter = 70
  ·simp [h2]
  ·by_cases h3 : w.Letter = 84
   ·simp [h3]
   ·by_cases h4 : w.Letter = 72 <;> simp [h1, h2, h3, h4]
theorem r42_one_eq (s : ModalState) (w : ApiWord) (h : w.Letter = 71 → grp w.Value ≠ 0) : r42_one (backS s) w = some (backS (putW s w)) := by
 unfold r42_one putW
 by_cases h1 : w.Letter = 71
 ·have h0 := h h1
  rcases grp_in w.Value with q | q | q | q | q | q
  ·exact absurd q h0
  all_goals simp [h1, r42_Group_eq, q, backS]
 ·by_cases h2 : w.Letter = 70
  ·simp [h2, backS]
  ·by_cases h3 : w.Letter = 84
   ·simp [h3, backS]
   ·by_cases h4 : w.Letter = 72 <;> simp [h1, h2, h3, h4, backS]
def clsW (w : ApiWord) : Int := if w.Letter = 71 then grp w.Value else 10 + w.Letter
def wholeW (w : ApiWord) : Bool := if w.Letter = 70 then decide (w.Value ≥ 0) else if w.Letter = 84 ∨ w.Letter = 72 then decide (w.Value ≥ 0) && Int.tmod w.Value 1000 == 0 else true
def u8W (w : ApiWord) : Prop := 0 ≤ w.Letter ∧ w.Letter ≤ 255
theorem r42_class_eq (w : ApiWord) (h : u8W w) : r42_class w = some (clsW w) := by
 have hw : ∀ k : Int, 0 ≤ k → k ≤ 1000000 → IntKind.i64.wrap k = k := fun k h1 h2 => by
  unfold IntKind.wrap; simp [IntKind.signed, IntKind.bits]; omega
 obtain ⟨h1, h2⟩ := h
 unfold r42_class clsW
 by_cases q : w.Letter = 71
 ·simp [q, r42_Group_eq]
 ·simp only [beq_iff_eq, q, if_false]
  rw [hw w.Letter h1 (by omega), hw _ (by omega) (by omega)]
theorem r42_whole_eq (w : ApiWord) : r42_whole w = some (wholeW w) := by
 unfold r42_whole wholeW
 by_cases q : w.Letter = 70
 ·simp [q]
 ·by_cases q2 : w.Letter = 84
  ·simp [q2]
  ·by_cases q3 : w.Letter = 72 <;> simp [q, q2, q3]
def goodW : List Int → List ApiWord → Bool | _, [] => true | seen, w :: r => clsW w != 0 && wholeW w && !(seen.contains (clsW w)) && goodW (clsW w :: seen) r
def mapsOk (seen : List Int) (lm gm : List (Int × Bool)) : Prop :=
 (∀ c, 0 ≤ c → c ≠ 71 → (mget lm c).getD false = seen.contains (10 + c)) ∧ ∀ k, 1 ≤ k → k ≤ 5 → (mget gm k).getD false = seen.contains k
theorem clsW_letter {w : ApiWord} (h : w.Letter ≠ 71) : clsW w = 10 + w.Letter := by simp [clsW, h]
theorem clsW_g {w : ApiWord} (h : w.Letter = 71) : clsW w = grp w.Value := by simp [clsW, h]
theorem mapsOk_letter {seen : List Int} {lm gm : List (Int × Bool)} (h : mapsOk seen lm gm) {c : Int} (h0 : 0 ≤ c) : mapsOk ((10 + c) :: seen) (mput lm c true) gm := by
 refine ⟨fun k hk h1 => ?_, fun k h1 h2 => ?_⟩
 ·rw [mget_put, List.contains_cons]
  by_cases e : k = c
  ·subst e; simp
  ·have : (k == c) = false := by simpa using e
   have e2 : (10 + k == 10 + c) = false := by simp; omega
   simp only [this, e2, Bool.false_eq_true, if_false, Bool.false_or]
   exact h.1 k hk h1
 ·rw [List.contains_cons, h.2 k h1 h2]
  have : (k == 10 + c) = false := by simp; omega
  simp [this]
theorem mapsOk_group {seen : List Int} {lm gm : List (Int × Bool)} (h : mapsOk seen lm gm) {g : Int} (h0 : 1 ≤ g) (h5 : g ≤ 5) : mapsOk (g :: seen) lm (mput gm g true) := by
 refine ⟨fun k hk h1 => ?_, fun k h1 h2 => ?_⟩
 ·rw [List.contains_cons, h.1 k hk h1]
  have : (10 + k == g) = false := by simp; omega
  simp [this]
 ·rw [mget_put, List.contains_cons]
  by_cases e : k = g
  ·subst e; simp
  ·have : (k == g) = false := by simpa using e
   simp only [this, Bool.false_eq_true, if_false, Bool.false_or]
   exact h.2 k h1 h2
abbrev MB := List (Int × Bool)
def nextOk (seen : List Int) (w : ApiWord) : Bool := clsW w != 0 && wholeW w && !(seen.contains (clsW w))
theorem chk_loop {f : Nat → ApiWord → MB × MB → Option (Ex (Ex Int (MB × MB)) (MB × MB))} {d : MB × MB → Option (Ex Int (MB × MB))} (hd : ∀ v, d v = some (.go v))
  (hf : ∀ i w seen lm gm, u8W w → mapsOk seen lm gm → (nextOk seen w = true → ∃ lm' gm', f i w (lm, gm) = some (.go (lm', gm')) ∧ mapsOk (clsW w :: seen) lm' gm') ∧ (nextOk seen w = false → f i w (lm, gm) = some (.ret (.ret 1)))) :
  ∀ (l : List ApiWord) (i : Nat) (seen : List Int) (lm gm : MB), (∀ w ∈ l, u8W w) → mapsOk seen lm gm → (goodW seen l = true → ∃ v, rangeX f d l i (lm, gm) = some (.go v)) ∧ (goodW seen l = false → rangeX f d l i (lm, gm) = some (.ret 1))
 | [], i, seen, lm, gm, _, _ => ⟨fun _ => ⟨_, hd _⟩, fun h => by simp [goodW] at h⟩
 | w :: l, i, seen, lm, gm, hu, hm => by
  have h := hf i w seen lm gm (hu w (by simp)) hm
  have hg : goodW seen (w :: l) = (nextOk seen w && goodW (clsW w :: seen) l) := rfl
  cases hn : nextOk seen w with
  | true =>
   obtain ⟨lm', gm', h1, h2⟩ := h.1 hn
   rw [hg, hn, Bool.true_and]
   simp only [rangeX, h1]
   exact chk_loop hd hf l (i + 1) _ lm' gm' (fun w hw => hu w (by simp [hw])) h2
  | false =>
   rw [hg, hn, Bool.false_and]
   refine ⟨fun q => by simp at q, fun _ => ?_⟩
   simp only [rangeX, h.2 hn]
theorem chk_fin {f : Nat → ApiWord → MB × MB → Option (Ex (Ex Int (MB × MB)) (MB × MB))} {d : MB × MB → Option (Ex Int (MB × MB))} {l : List ApiWord} (hu : ∀ w ∈ l, u8W w) (hd : ∀ v, d v = some (.go v))
  (hf : ∀ i w seen lm gm, u8W w → mapsOk seen lm gm → (nextOk seen w = true → ∃ lm' gm', f i w (lm, gm) = some (.go (lm', gm')) ∧ mapsOk (clsW w :: seen) lm' gm') ∧ (nextOk seen w = false → f i w (lm, gm) = some (.ret (.ret 1)))) :
  bindX (rangeX f d l 0 ([], [])) (fun _ => some 0) = some (if goodW [] l = true then 0 else 1) := by
 have h := chk_loop hd hf l 0 [] [] [] hu ⟨fun c _ _ => by simp [mget], fun k _ _ => by simp [mget]⟩
 cases hg : goodW [] l with
 | true => obtain ⟨v, hv⟩ := h.1 hg; rw [hv]; rfl
 | false => rw [h.2 hg]; rfl
theorem md_Check_eq (b : ApiBlock) (hu : ∀ w ∈ b.Words, u8W w) (hl : b.Words.length ≤ 9223372036854775807) : md_Check b = some (if goodW [] b.Words = true then 0 else 1) := by
 unfold md_Check
 rw [okIdx_of hl, guardO_t]
 refine chk_fin hu (fun _ => rfl) ?_
 intro i w seen lm gm hw hm
 by_cases h1 : w.Letter = 71
 ·have hc := clsW_g h1
  have hwh : wholeW w = true := by simp [wholeW, h1]
  rcases grp_in w.Value with q | q
  ·refine ⟨fun h => by simp [nextOk, hc, q] at h, fun _ => ?_⟩
   simp [h1, md_Group_eq, q]
  ·have hg := hm.2 (grp w.Value) (by omega) (by omega)
   have hg0 : grp w.Value ≠ 0 := by omega
   constructor
   ·intro h
    have hs : grp w.Value ∉ seen := by simp [nextOk, hc, hwh] at h; exact h.2
    refine ⟨lm, mput gm (grp w.Value) true, ?_, by rw [hc]; exact mapsOk_group hm (by omega) (by omega)⟩
    simp [h1, md_Group_eq, hg0, hg, hs]
   ·intro h
    have hs : grp w.Value ∈ seen := by simp [nextOk, hc, hwh] at h; exact h hg0
    simp [h1, md_Group_eq, hg0, hg, hs]
 ·have hc := clsW_letter h1
  have hl := hm.1 w.Letter hw.1 h1
  have hne : (clsW w == 0) = false := by rw [hc]; simp; have := hw.1; omega
  have hn : nextOk seen w = (wholeW w && !(seen.contains (10 + w.Letter))) := by
   have : (clsW w != 0) = true := by simpa using hne
   rw [nextOk, this, hc]; simp
  rw [hn]
  cases hs : seen.contains (10 + w.Letter) with
  | true =>
   rw [hs] at hl
   refine ⟨fun h => by simp at h, fun _ => ?_⟩
   by_cases h2 : w.Letter = 70
   ·rw [h2] at hl
    by_cases hv : w.Value < 0 <;> simp [h2, hv, hl]
   ·by_cases h3 : w.Letter = 84 ∨ w.Letter = 72
    ·by_cases hv : w.Value < 0
     ·rcases h3 with h3 | h3 <;> (rw [h3] at hl; simp [h3, hv])
     ·by_cases hq : Int.tmod w.Value 1000 = 0
      ·rcases h3 with h3 | h3 <;> (rw [h3] at hl; simp [h3, hv, hq, hl])
      ·rcases h3 with h3 | h3 <;> (rw [h3] at hl; simp [h3, hv, hq])
    ·have h4 : w.Letter ≠ 84 := fun e => h3 (.inl e)
     have h5 : w.Letter ≠ 72 := fun e => h3 (.inr e)
     simp [h1, h2, h4, h5, hl]
  | false =>
   rw [hs] at hl
   have hg : mapsOk (clsW w :: seen) (mput lm w.Letter true) gm := by rw [hc]; exact mapsOk_letter hm hw.1
   refine ⟨fun h => ⟨mput lm w.Letter true, gm, ?_, hg⟩, fun h => ?_⟩
   ·have hwh : wholeW w = true := by simpa using h
    unfold wholeW at hwh
    by_cases h2 : w.Letter = 70
    ·rw [h2] at hl
     have hv : ¬ w.Value < 0 := by simp [h2] at hwh; omega
     simp [h2, hv, hl]
    ·by_cases h3 : w.Letter = 84 ∨ w.Letter = 72
     ·simp [h2, h3] at hwh
      have hv : ¬ w.Value < 0 := by omega
      rcases h3 with h3 | h3 <;> (rw [h3] at hl; simp [h3, hv, hwh.2, hl])
     ·have h4 : w.Letter ≠ 84 := fun e => h3 (.inl e)
      have h5 : w.Letter ≠ 72 := fun e => h3 (.inr e)
      simp [h1, h2, h4, h5, hl]
   ·have hwh : wholeW w = false := by simpa using h
    unfold wholeW at hwh
    by_cases h2 : w.Letter = 70
    ·have hv : w.Value < 0 := by simp [h2] at hwh; omega
     simp [h2, hv]
    ·by_cases h3 : w.Letter = 84 ∨ w.Letter = 72
     ·simp [h2, h3] at hwh
      by_cases hv : w.Value < 0
      ·rcases h3 with h3 | h3 <;> simp [h3, hv]
      ·have hq : ¬ Int.tmod w.Value 1000 = 0 := hwh (by omega)
       rcases h3 with h3 | h3 <;> simp [h3, hv, hq]
     ·simp [h2, h3] at hwh
def anyUp (p : Nat → Bool) : Nat → Nat → Bool
 | _, 0 => false
 | k, m + 1 => p k || anyUp p (k + 1) m
theorem anyUp_iff (p : Nat → Bool) : ∀ (m k : Nat), anyUp p k m = true ↔ ∃ j, k ≤ j ∧ j < k + m ∧ p j = true
 | 0, k => by simp [anyUp]; intro j h1 h2; omega
 | m + 1, k => by
  simp only [anyUp, Bool.or_eq_true, anyUp_iff p m (k + 1)]
  constructor
  ·rintro (h | ⟨j, h1, h2, h3⟩)
   ·exact ⟨k, by omega, by omega, h⟩
   ·exact ⟨j, by omega, by omega, h3⟩
  ·rintro ⟨j, h1, h2, h3⟩
   rcases Nat.eq_or_lt_of_le h1 with e | e
   ·subst e; exact .inl h3
   ·exact .inr ⟨j, by omega, by omega, h3⟩
theorem loopX_up {ε : Type} {f : Int → Option (Ex ε Int)} {n : Nat} (p : Nat → Bool) (eb ee : ε) (hf : ∀ k : Nat, k < n → f (k : Int) = if p k = true then some (.ret eb) else some (.go ((k : Int) + 1))) (he : f (n : Int) = some (.ret ee)) :
  ∀ (fu k : Nat), k ≤ n → n - k < fu → loopX f fu (k : Int) = some (if anyUp p k (n - k) = true then eb else ee)
 | 0, k, _, h => by omega
 | fu + 1, k, hk, h => by
  rcases Nat.eq_or_lt_of_le hk with e | e
  ·subst e
   simp only [loopX, he, Nat.sub_self, anyUp, Bool.false_eq_true, if_false]
  ·rw [show n - k = (n - (k + 1)) + 1 by omega]
   simp only [loopX, hf k e, anyUp]
   by_cases hp : p k = true
   ·simp [hp]
   ·have hp' : p k = false := by simpa using hp
    have := loopX_up p eb ee hf he fu (k + 1) e (by omega)
    simp only [hp', Bool.false_eq_true, if_false, Bool.false_or]
    exact this
theorem goodW_congr : ∀ (l : List ApiWord) (s t : List Int), (∀ c, s.contains c = t.contains c) → goodW s l = goodW t l
 | [], _, _, _ => rfl
 | w :: l, s, t, h => by
  simp only [goodW, h (clsW w)]
  rw [goodW_congr l (clsW w :: s) (clsW w :: t) fun c => by simp only [List.contains_cons, h c]]
theorem r42_Check_eq (b : ApiBlock) (hu : ∀ w ∈ b.Words, u8W w) (hl : b.Words.length ≤ 9223372036854775806) : r42_Check b = some (if goodW [] b.Words = true then 0 else 1) := by
  have key : ∀ (f : Nat → ApiWord → Unit → Option (Ex (Ex Int Unit) Unit)), (∀ (i : Nat) w, b.Words[i]? = some w → f i w () = if (clsW w != 0 && wholeW w && !(anyUp (fun k => match b.Words[k]? with | some x => clsW x == clsW w | none => false) 0 i)) = true then some (.go ()) else some (.ret (.ret 1))) →
      ∀ (l : List ApiWord) (i : Nat), b.Words.drop i = l → i ≤ b.Words.length → rangeX f (fun (_ : Unit) => some (.go ())) l i () = some (if goodW ((b.Words.take i).map clsW) l = true then .go () else .ret 1) := by
    intro f hf l
    induction l with
    | nil => intro i _ _; rfl
    | cons w l ih =>
      intro i hd hi
      have hx : b.Words[i]? = some w := by
        have : (b.Words.drop i)[0]? = some w := by rw [hd]; rfl
        simpa using this
      have hlt := getElem_lt hx
      have hrest : b.Words.drop (i + 1) = l := by rw [← List.drop_drop, hd]; rfl
      have hany : anyUp (fun k => match b.Words[k]? with | some x => clsW x == clsW w | none => false) 0 i = ((b.Words.take i).map clsW).contains (clsW w) := by
        rw [Bool.eq_iff_iff, anyUp_iff, List.contains_iff_mem, List.mem_map]
        constructor
        · rintro ⟨j, _, h2, h3⟩
          cases hq : b.Words[j]? with
          | none => rw [hq] at h3; simp at h3
          | some x =>
            rw [hq] at h3
            exact ⟨x, List.mem_iff_getElem?.2 ⟨j, by rw [List.getElem?_take, if_pos (by omega)]; exact hq⟩, by simpa using h3⟩
        · rintro ⟨x, h1, h2⟩
          obtain ⟨j, hj⟩ := List.mem_iff_getElem?.1 h1
          have hji : j < i := by have := getElem_lt hj; simp at this; omega
          rw [List.getElem?_take, if_pos hji] at hj
          exact ⟨j, by omega, by omega, by rw [hj]; simpa using h2⟩
      have ht : b.Words.take (i + 1) = b.Words.take i ++ [w] := by rw [List.take_add_one, hx]; rfl
      have hgo : goodW ((b.Words.take i).map clsW) (w :: l) = ((clsW w != 0 && wholeW w && !((b.Words.take i).map clsW).contains (clsW w)) && goodW ((b.Words.take (i + 1)).map clsW) l) := by
        rw [ht]
        simp only [goodW]
        congr 1
        refine goodW_congr l _ _ fun c => ?_
        simp only [List.map_append, List.map_cons, List.map_nil]
        rw [Bool.eq_iff_iff]
        simp [or_comm]
      simp only [rangeX, hf i w hx, hany, hgo]
      cases (clsW w != 0 && wholeW w && !((b.Words.take i).map clsW).contains (clsW w)) with
      | false => simp
      | true =>
        simp only [if_true, Bool.true_and]
        exact ih (i + 1) hrest hlt
  unfold r42_Check
  rw [okIdx_of (by omega), guardO_t, key _ ?_ b.Words 0 rfl (by omega)]
  · simp only [List.take_zero, List.map_nil]
    cases goodW [] b.Words <;> rfl
  · intro i w hw
    have hlt := getElem_lt hw
    rw [r42_class_eq w (hu w (List.mem_of_getElem? hw))]
    simp only [bindO_s]
    cases h0 : (clsW w == 0) with
    | true => simp [h0, bne]
    | false =>
      simp only [Bool.false_eq_true, if_false, r42_whole_eq, bindO_s, bne, h0, Bool.not_false, Bool.true_and]
      cases hq : wholeW w with
      | false => simp
      | true =>
        simp only [Bool.not_true, Bool.false_eq_true, if_false, Bool.true_and]
        have hlp := loopX_up (ε := Ex (Ex (Ex Int Unit) Unit) Unit) (f := fun (v397 : Int) =>
                if (decide (v397 < (i : Int))) = true then
                  bindO (gt b.Words v397) fun (e400 : ApiWord) =>
                  bindO (r42_class e400) fun (y401 : Int) =>
                  if (y401 == clsW w) = true then
                    some (.ret (.ret (.ret (.ret 1))))
                  else
                    some (.go (IntKind.i64.wrap (v397 + 1)))
                else
                  some (.ret (.go ()))) (n := i) (fun k => match b.Words[k]? with | some x => clsW x == clsW w | none => false) (.ret (.ret (.ret (1 : Int)))) (.go ()) ?_ (by simp) fuel 0 (by omega) (fuel_gt (by omega))
        · have hlp' := hlp
          simp only [Int.natCast_zero, Nat.sub_zero] at hlp'
          rw [show ((0 : Nat) : Int) = 0 from rfl] at hlp
          simp only [Nat.sub_zero] at hlp
          rw [hlp]
          cases anyUp (fun k => match b.Words[k]? with | some x => clsW x == clsW w | none => false) 0 i <;> simp
        · intro k hk
          obtain ⟨x, hx⟩ : ∃ x, b.Words[k]? = some x := ⟨_, List.getElem?_eq_getElem (by omega)⟩
          have : decide ((k : Int) < (i : Int)) = true := by simp; omega
          simp only [this, if_true, gt_k hx, bindO_s, r42_class_eq x (hu x (List.mem_of_getElem? hx)), hx]
          rw [wrap_i64 (by omega) (by omega)]
def okB (b : ApiBlock) : Prop := (∀ w ∈ b.Words, u8W w) ∧ b.Words.length ≤ 9223372036854775806
theorem goodW_ne : ∀ (l : List ApiWord) (s : List Int), goodW s l = true → ∀ w ∈ l, clsW w ≠ 0
 | [], _, _, w, hw => by simp at hw
 | x :: l, s, h, w, hw => by
  simp only [goodW, Bool.and_eq_true, bne_iff_ne] at h
  rcases List.mem_cons.1 hw with e | e
  ·subst e; exact h.1.1.1
  ·exact goodW_ne l _ h.2 w e
theorem cls_put {w : ApiWord} (h : clsW w ≠ 0) : w.Letter = 71 → grp w.Value ≠ 0 := fun e => by rwa [clsW_g e] at h
def zS : ModalState := ⟨0, 0, 0, 0, 0, 0, 0, 0⟩
theorem md_Apply_eq (s : ModalState) (b : ApiBlock) (h : okB b) : md_Apply s b = some (if goodW [] b.Words = true then (b.Words.foldl putW s, 0) else (zS, 1)) := by
 unfold md_Apply
 rw [md_Check_eq b h.1 (by have := h.2; omega), bindO_s]
 cases hg : goodW [] b.Words with
 | false => simp [zS]
 | true =>
  simp only [if_true]
  rw [okIdx_of (by have := h.2; omega), guardO_t, rangeX_go putW b.Words 0 s ?_]
  ·simp
  ·intro i x v hx
   rw [md_put_eq v x (cls_put (goodW_ne _ _ hg x hx)), bindO_s]
theorem r42_Apply_eq (s : ModalState) (b : ApiBlock) (h : okB b) : r42_Apply (backS s) b = some (if goodW [] b.Words = true then (backS (b.Words.foldl putW s), 0) else (backS zS, 1)) := by
 unfold r42_Apply
 rw [r42_Check_eq b h.1 h.2, bindO_s]
 cases hg : goodW [] b.Words with
 | false => simp [zS, backS]
 | true =>
  simp only [if_true]
  have key : ∀ (f : Nat → ApiWord → R42State → Option (Ex R42State R42State)) (l : List ApiWord) (i : Nat) (s : ModalState), (∀ i w s, w ∈ l → f i w (backS s) = some (.go (backS (putW s w)))) → rangeX f (fun v => some v) l i (backS s) = some (backS (l.foldl putW s)) := by
   intro f l
   induction l with
   | nil => intro i s _; rfl
   | cons x l ih =>
    intro i s hf
    simp only [rangeX, hf i x s (by simp), List.foldl_cons]
    exact ih (i + 1) (putW s x) fun i w s hw => hf i w s (by simp [hw])
  rw [okIdx_of (by have := h.2; omega), guardO_t, key _ b.Words 0 s ?_]
  ·simp
  ·intro i x v hx
   rw [r42_one_eq v x (cls_put (goodW_ne _ _ hg x hx)), bindO_s]
def allW : ModalState → Nat → List ApiBlock → ModalState × Int × Int | s, _, [] => (s, 0, 0) | s, i, b :: l => if goodW [] b.Words = true then allW (b.Words.foldl putW s) (i + 1) l else (zS, (i : Int), 1)
theorem r42_All_eq (s : ModalState) (l : List ApiBlock) (h : ∀ b ∈ l, okB b) (hl : l.length ≤ 9223372036854775807) : r42_All (backS s) l = some (backS (allW s 0 l).1, (allW s 0 l).2.1, (allW s 0 l).2.2) := by
 unfold r42_All
 rw [okIdx_of hl, guardO_t]
 have key : ∀ (f : Nat → ApiBlock → R42State → Option (Ex (Ex (R42State × Int × Int) R42State) R42State)) (l : List ApiBlock) (i : Nat) (s : ModalState),
   (∀ (i : Nat) (b : ApiBlock) (s : ModalState), b ∈ l → f i b (backS s) = if goodW [] b.Words = true then some (.go (backS (b.Words.foldl putW s))) else some (.ret (.ret (backS zS, (i : Int), 1)))) →
   bindX (rangeX f (fun v => some (.go v)) l i (backS s)) (fun v => some (v, 0, 0)) = some (backS (allW s i l).1, (allW s i l).2.1, (allW s i l).2.2) := by
  intro f l
  induction l with
  | nil => intro i s _; rfl
  | cons b l ih =>
   intro i s hf
   simp only [rangeX, hf i b s (by simp), allW]
   cases hg : goodW [] b.Words with
   | false => simp
   | true => exact ih (i + 1) _ fun i b s hb => hf i b s (by simp [hb])
 refine key _ l 0 s fun i b s hb => ?_
 rw [r42_Apply_eq s b (h b hb), bindO_s]
 cases goodW [] b.Words <;> simp [zS, backS]
end Go.Proofs.YtejknolljjpodaaGreatDoor
