/-
  Ik, Il in one text.
-/
import Derived.Test.YthljcnchaopncaaGreatDoorIxq
import Derived.Test.YthljcnchaopncaaGreatDoorMQ
import Derived.Test.YthljcnchaopncaaGreatDoorMB
import Derived.Test.YthljcnchaopncaaGreatDoorGo
namespace Go.Proofs.YthljcnchaopncaaGreatDoor
open Go.RowKit
set_option linter.unusedVariables false
set_option linter.unusedSimpArgs false
def ofQ (q : Rat) : ApiRat := ⟨ofI q.num,ofI (q.den : Int)⟩
def BQ (n : Nat) (q : Rat) : Prop := Bd n q.num ∧ Bd n (q.den : Int)
theorem BQ.mono {n m : Nat} {q : Rat} (h : BQ n q) (hm : n ≤ m) : BQ m q := ⟨h.1.mono hm,h.2.mono hm⟩
theorem divInt_BQ {m : Nat} {n d : Int} (h : Bd m n) (h2 : Bd m d) (h0 : d ≠ 0) : BQ m (Rat.divInt n d) := by
 have key : ∀ n d : Int,Bd m n → Bd m d → 0 < d → BQ m (Rat.divInt n d) := by
  intro n d h h2 h0
  obtain ⟨e1,e2⟩ := divInt_parts (n := n) h0
  have hg := gcd_dvd_div (n := n) (d := d) (by omega)
  exact ⟨by rw [e1]; exact h.ediv hg,by rw [e2]; exact h2.ediv hg⟩
 rcases Int.lt_or_le d 0 with z | z
 ·rw [← divInt_neg2]
  exact key _ _ h.neg h2.neg (by omega)
 ·exact key _ _ h h2 (by omega)
theorem BQ.add {n m : Nat} {a b : Rat} (ha : BQ n a) (hb : BQ m b) : BQ (n + m + 1) (a + b) := by
 rw [← add_divInt]
 have h1 := (ha.1.mul hb.2).add (hb.1.mul ha.2)
 have h2 := ha.2.mul hb.2
 exact divInt_BQ (h1.mono (by omega)) (h2.mono (by omega)) (Int.ne_of_gt (Int.mul_pos (den_pos a) (den_pos b)))
theorem BQ.mul {n m : Nat} {a b : Rat} (ha : BQ n a) (hb : BQ m b) : BQ (n + m) (a * b) := by
 rw [← mul_divInt]
 exact divInt_BQ (ha.1.mul hb.1) (ha.2.mul hb.2) (Int.ne_of_gt (Int.mul_pos (den_pos a) (den_pos b)))
theorem BQ.neg {n : Nat} {a : Rat} (ha : BQ n a) : BQ n (-a) := ⟨ha.1.neg,ha.2⟩
theorem BQ.int {n : Nat} {z : Int} (h : Bd n z) (hn : 1 ≤ n) : BQ n (z : Rat) := ⟨h,(Bd.mono (n := 1) (by unfold Bd; simp [pw]) hn)⟩
theorem sg_lt {z : Int} : (decide (sg z < 0)) = decide (z < 0) := sg_dec
theorem sg_eq0 {z : Int} : (sg z == 0) = decide (z = 0) := by
 unfold sg
 split
 ·rw [decide_eq_false (by omega)]; rfl
 ·split
  ·rw [decide_eq_false (by omega)]; rfl
  ·rw [decide_eq_true (by omega)]; rfl
theorem r02_unit_eq : r02_unit = some (ofI 1) := by
 unfold r02_unit; rw [r01_FromInt64_eq (by omega) (by omega)]; rfl
theorem r02_Of_eq {n d : Int} {m : Nat} (hn : Bd m n) (hd : Bd m d) (hm : m ≤ 100000) (h0 : d ≠ 0) : r02_Of (ofI n) (ofI d) = some (ofQ (Rat.divInt n d)) := by
 apply Tot.get
 unfold r02_Of
 rw [r01_Sign_eq,bindO_s,sg_lt]
 refine Tot.bind (E := fun v=>∃ a b : Int,v = (ofI a,ofI b) ∧ 0 < b ∧ Bd m a ∧ Bd m b ∧ Rat.divInt a b = Rat.divInt n d) (Tot.ite (fun q=>?_) (fun q=>.ok ⟨n,d,rfl,by simp at q; omega,hn,hd,rfl⟩)) (fun v hv=>?_)
 ·rw [r01_Neg_eq hn (by omega),bindO_s,r01_Neg_eq hd (by omega),bindO_s]
  exact .ok ⟨-n,-d,rfl,by simp at q; omega,hn.neg,hd.neg,divInt_neg2 n d⟩
 ·obtain ⟨a,b,rfl,hb0,ha,hb,he⟩ := hv
  dsimp only
  have hg := gcd_dvd_div (n := a) (d := b) (by omega)
  have hgb : Bd m ((Int.gcd a b : Nat) : Int) := hb.gcd (by omega)
  obtain ⟨e1,e2⟩ := divInt_parts (n := a) hb0
  rw [he] at e1 e2
  rw [r01_GCD_eq ha hb (by omega),bindO_s,r01_DivMod_eq ha hgb (by omega) (by omega) hg,bindO_s,r01_DivMod_eq hb hgb (by omega) (by omega) hg,bindO_s]
  refine .ok ?_
  unfold ofQ
  rw [e1,e2]
theorem r02_Make_eq {n d : Int} {m : Nat} (hn : Bd m n) (hd : Bd m d) (hm : m ≤ 100000) (h0 : d ≠ 0) : r02_Make (ofI n) (ofI d) = some (ofQ (Rat.divInt n d),0) := by
 unfold r02_Make
 rw [r01_Sign_eq,bindO_s,sg_eq0,decide_eq_false h0,r02_Of_eq hn hd hm h0]
 rfl
theorem r02_Frac_eq {n d : Int} (h1 : -9223372036854775808 ≤ n) (h2 : n ≤ 9223372036854775807) (h3 : -9223372036854775808 ≤ d) (h4 : d ≤ 9223372036854775807) (h0 : d ≠ 0) : r02_Frac n d = some (ofQ (Rat.divInt n d)) := by
 unfold r02_Frac
 rw [show (d == 0) = false from beq_eq_false_iff_ne.2 h0]
 simp only [Bool.false_eq_true,if_false,bindO_s]
 rw [r01_FromInt64_eq h1 h2,bindO_s,r01_FromInt64_eq h3 h4,bindO_s,r02_Of_eq (Bd.i64 h1 h2) (Bd.i64 h3 h4) (by omega) h0]
 rfl
theorem r02_Mul_eq {a b : Rat} {n m : Nat} (ha : BQ n a) (hb : BQ m b) (hn : n + m ≤ 90000) : r02_Mul (ofQ a) (ofQ b) = some (ofQ (a * b)) := by
 unfold r02_Mul
 show bindO (r01_Mul (ofI a.num) (ofI b.num)) (fun y1=>bindO (r01_Mul (ofI (a.den : Int)) (ofI (b.den : Int))) fun y2=>bindO (r02_Of y1 y2) fun y3=>some y3) = _
 rw [r01_Mul_eq ha.1 hb.1 (by omega) (by omega),bindO_s,r01_Mul_eq ha.2 hb.2 (by omega) (by omega),bindO_s,r02_Of_eq (ha.1.mul hb.1) (ha.2.mul hb.2) (by omega) (Int.ne_of_gt (Int.mul_pos (den_pos a) (den_pos b))),bindO_s,mul_divInt]
theorem r02_Floor_eq {a : Rat} {n : Nat} (ha : BQ n a) (hn : n ≤ 100000) : r02_Floor (ofQ a) = some (ofI a.floor) := by
 unfold r02_Floor
 show bindO (r01_DivMod (ofI a.num) (ofI (a.den : Int))) _ = _
 rw [r01_DivMod_eq ha.1 ha.2 (by omega) (by omega) (den_pos a),Rat.floor_def]; rfl
theorem ofQ_int (z : Int) : ofQ (z : Rat) = ⟨ofI z,ofI 1⟩ := rfl
theorem r02_FromInt_eq (z : Int) : r02_FromInt (ofI z) = some (ofQ (z : Rat)) := by
 unfold r02_FromInt; rw [r02_unit_eq,bindO_s,ofQ_int]
theorem r02_FromInt64_eq {z : Int} (h1 : -9223372036854775808 ≤ z) (h2 : z ≤ 9223372036854775807) : r02_FromInt64 z = some (ofQ (z : Rat)) := by
 unfold r02_FromInt64; rw [r01_FromInt64_eq h1 h2,bindO_s,r02_unit_eq,bindO_s,ofQ_int]
end Go.Proofs.YthljcnchaopncaaGreatDoor
namespace Go.Proofs.YthljcnchaopncaaGreatDoor
open Go.RowKit
set_option linter.unusedVariables false
set_option linter.unusedSimpArgs false
theorem BQ_frac {n d : Int} (h1 : -9223372036854775808 ≤ n) (h2 : n ≤ 9223372036854775807) (h3 : -9223372036854775808 ≤ d) (h4 : d ≤ 9223372036854775807) (h0 : d ≠ 0) : BQ 3 (Rat.divInt n d) := divInt_BQ (Bd.i64 h1 h2) (Bd.i64 h3 h4) h0
end Go.Proofs.YthljcnchaopncaaGreatDoor
