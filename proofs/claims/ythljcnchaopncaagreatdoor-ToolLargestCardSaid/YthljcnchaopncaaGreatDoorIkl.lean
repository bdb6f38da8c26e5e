/-
  Ik, Il in one text.
-/
import Derived.Test.YthljcnchaopncaaGreatDoorIxq
import Derived.Test.YthljcnchaopncaaGreatDoorMQ
import Derived.Test.YthljcnchaopncaaGreatDoorMB
import Derived.Test.YthljcnchaopncaaGreatDoorGo
namespace Go.Proofs.YthljcnchaopncaaGreatDoor
open Go.RowKit
set_option linter.unusedVariables false
set_option linter.unusedSimpArgs false
def BQ (n : Nat) (q : Rat) : Prop := Bd n q.num ∧ Bd n (q.den : Int)
theorem BQ.mono {n m : Nat} {q : Rat} (h : BQ n q) (hm : n ≤ m) : BQ m q := ⟨h.1.mono hm,h.2.mono hm⟩
theorem divInt_BQ {m : Nat} {n d : Int} (h : Bd m n) (h2 : Bd m d) (h0 : d ≠ 0) : BQ m (Rat.divInt n d) := by
 have key : ∀ n d : Int,Bd m n → Bd m d → 0 < d → BQ m (Rat.divInt n d) := by
  intro n d h h2 h0
  obtain ⟨e1,e2⟩ := divInt_parts (n := n) h0
  have hg := gcd_dvd_div (n := n) (d := d) (by omega)
  exact ⟨by rw [e1]; exact h.ediv hg,by rw [e2]; exact h2.ediv hg⟩
 rcases Int.lt_or_le d 0 with z | z
 ·rw [← divInt_neg2]
  exact key _ _ h.neg h2.neg (by omega)
 ·exact key _ _ h h2 (by omega)
theorem BQ.add {n m : Nat} {a b : Rat} (ha : BQ n a) (hb : BQ m b) : BQ (n + m + 1) (a + b) := by
 rw [← add_divInt]
 have h1 := (ha.1.mul hb.2).add (hb.1.mul ha.2)
 have h2 := ha.2.mul hb.2
 exact divInt_BQ (h1.mono (by omega)) (h2.mono (by omega)) (Int.ne_of_gt (Int.mul_pos (den_pos a) (den_pos b)))
theorem BQ.mul {n m : Nat} {a b : Rat} (ha : BQ n a) (hb : BQ m b) : BQ (n + m) (a * b) := by
 rw [← mul_divInt]
 exact divInt_BQ (ha.1.mul hb.1) (ha.2.mul hb.2) (Int.ne_of_gt (Int.mul_pos (den_pos a) (den_pos b)))
theorem BQ.neg {n : Nat} {a : Rat} (ha : BQ n a) : BQ n (-a) := ⟨ha.1.neg,ha.2⟩
theorem BQ.int {n : Nat} {z : Int} (h : Bd n z) (hn : 1 ≤ n) : BQ n (z : Rat) := ⟨h,(Bd.mono (n := 1) (by unfold Bd; simp [pw]) hn)⟩
end Go.Proofs.YthljcnchaopncaaGreatDoor
namespace Go.Proofs.YthljcnchaopncaaGreatDoor
open Go.RowKit
set_option linter.unusedVariables false
set_option linter.unusedSimpArgs false
end Go.Proofs.YthljcnchaopncaaGreatDoor
