import Derived.Test.YtipefnighcdgnaaGreatDoorJz
import Derived.Test.YtipefnighcdgnaaGreatDoorMLExact
namespace Go.Proofs.YtipefnighcdgnaaGreatDoor
open Go.RowKit
def exK (q : Rat) : Nat → Nat → Option Nat
 | 0, _ => none
 | f + 1, k => if ten k % (q.den : Int) = 0 then some k else exK q f (k + 1)
def exT (q : Rat) (o : Option Nat) : List UInt8 × Bool := match o with
 | none => ([], false)
 | some k => if (ptxt (q * ((ten k : Int) : Rat)).num k).length > 1000 then ([], false) else (ptxt (q * ((ten k : Int) : Rat)).num k, true)
theorem exK_step {q : Rat} {f k : Nat} (h : ten k % (q.den : Int) ≠ 0) : exK q (f + 1) k = exK q f (k + 1) := by
 show (if _ then _ else _) = _
 rw [if_neg h]
theorem exK_hit {q : Rat} {f k : Nat} (h : ten k % (q.den : Int) = 0) : exK q (f + 1) k = some k := by
 show (if _ then _ else _) = _
 rw [if_pos h]
theorem exK_ok {q : Rat} : ∀ (f k j : Nat), exK q f k = some j → ten j % (q.den : Int) = 0 ∧ j < k + f
 | 0, _, _, h => by cases h
 | f + 1, k, j, h => by
  by_cases hh : ten k % (q.den : Int) = 0
  ·rw [exK_hit hh] at h
   injection h with h
   subst h
   exact ⟨hh, by omega⟩
  ·rw [exK_step hh] at h
   have := exK_ok f (k + 1) j h
   exact ⟨this.1, by omega⟩
theorem dc_Exact_eq {q : Rat} (hq : BQ 6 q) : dc_Exact (ofQ q) = some (exT q (exK q 31 0)) := by
 apply Tot.get
 unfold dc_Exact
 rw [it_FromInt64_eq (by omega) (by omega), bindO_s]
 refine Tot.bindX (E := fun _ => exT q (exK q 31 0) = ([], false)) (TotX.of (Tot.loop (fun m v => ∃ j : Nat, v = ((j : Int), ofI (ten j)) ∧ m + j = 31 ∧ exK q 31 0 = exK q m j) _ 31 (fuel_gt (by omega)) ⟨0, rfl, rfl, rfl⟩ (fun m v hv => ?_))) (fun v hv => .ok hv.symm)
 obtain ⟨j, rfl, hj, he⟩ := hv
 dsimp only
 cases m with
 | zero =>
  refine TotX.ite (fun y => absurd y (by simp; omega)) (fun _ => .ret ?_)
  rw [he]; rfl
 | succ m =>
  refine TotX.ite (fun _ => ?_) (fun y => absurd y (by simp; omega))
  show TotX (bindO (it_DivMod (ofI (ten j)) (ofI (q.den : Int))) _) _ _
  rw [it_DivMod_eq (Bd_ten j) hq.2 (by omega) (by omega) (den_pos q), bindO_s]
  dsimp only
  rw [it_Sign_eq, bindO_s, sg_eq0]
  refine TotX.ite (fun y => ?_) (fun y => ?_)
  ·have y' : ten j % (q.den : Int) = 0 := by simpa using y
   have hx := hq.mul (BQ_ten j)
   rw [exK_hit y'] at he
   rw [dc_times_eq hq (by omega) (by omega), bindO_s]
   show TotX (bindO (dc_pointed (ofI (q * ((ten j : Int) : Rat)).num) (j : Int)) _) _ _
   rw [dc_pointed_eq hx.1 (by omega) (by omega) (by omega), bindO_s]
   unfold dc_short
   have hE : exT q (exK q 31 0) = if (ptxt (q * ((ten j : Int) : Rat)).num j).length > 1000 then ([], false) else (ptxt (q * ((ten j : Int) : Rat)).num j, true) := by rw [he]; rfl
   by_cases z : (ptxt (q * ((ten j : Int) : Rat)).num j).length > 1000
   ·rw [if_pos z] at hE
    rw [decide_eq_true (show ((ptxt (q * ((ten j : Int) : Rat)).num j).length : Int) > 1000 by omega), if_pos rfl, bindO_s]
    exact .ret hE.symm
   ·rw [if_neg z] at hE
    rw [decide_eq_false (show ¬ ((ptxt (q * ((ten j : Int) : Rat)).num j).length : Int) > 1000 by omega), if_neg (by simp), bindO_s]
    exact .ret hE.symm
  ·have y' : ten j % (q.den : Int) ≠ 0 := by simpa using y
   rw [it_FromInt64_eq (by omega) (by omega), bindO_s, it_Mul_eq (Bd_ten j) (Bd.i64 (z := 10) (by omega) (by omega)) (by omega) (by omega), bindO_s, wI64 (by omega) (by omega), ← ten_succ]
   exact .go ⟨m, by omega, j + 1, rfl, by omega, by rw [he, exK_step y']⟩
theorem r06_Exact_eq {q : Rat} (hq : BQ 6 q) : r06_Exact (ofQ q) = some (exT q (exK q 31 0)) := by
 apply Tot.get
 unfold r06_Exact
 refine Tot.bindX (E := fun _ => exT q (exK q 31 0) = ([], false)) (TotX.of (Tot.loop (fun m v => ∃ j : Nat, v = (j : Int) ∧ m + j = 31 ∧ exK q 31 0 = exK q m j) _ 31 (fuel_gt (by omega)) ⟨0, rfl, rfl, rfl⟩ (fun m v hv => ?_))) (fun v hv => .ok hv.symm)
 obtain ⟨j, rfl, hj, he⟩ := hv
 cases m with
 | zero =>
  refine TotX.ite (fun y => absurd y (by simp; omega)) (fun _ => .ret ?_)
  rw [he]; rfl
 | succ m =>
  refine TotX.ite (fun _ => ?_) (fun y => absurd y (by simp; omega))
  have hx := hq.mul (BQ_ten j)
  rw [r06_Power_eq (by omega), bindO_s, r02_Mul_eq hq (BQ_ten j) (by omega), bindO_s, r01_FromInt64_eq (by omega) (by omega), bindO_s]
  show TotX (bindO (r01_Same (ofI ((q * ((ten j : Int) : Rat)).den : Int)) (ofI 1)) _) _ _
  rw [r01_Same_eq hx.2 (by omega), bindO_s]
  have hiff : ((q * ((ten j : Int) : Rat)).den : Int) = 1 ↔ ten j % (q.den : Int) = 0 := by
   have := den_one (q := q) (k := ten j)
   constructor
   ·intro h; exact Int.emod_eq_zero_of_dvd (this.1 (by omega))
   ·intro h; have := this.2 (Int.dvd_of_emod_eq_zero h); omega
  refine TotX.ite (fun y => ?_) (fun y => ?_)
  ·have y' : ten j % (q.den : Int) = 0 := hiff.1 (by simpa using y)
   rw [exK_hit y'] at he
   show TotX (bindO (r06_shown (ofI (q * ((ten j : Int) : Rat)).num) (j : Int)) _) _ _
   rw [r06_shown_eq hx.1 (by omega) (by omega) (by omega), bindO_s]
   have hE : exT q (exK q 31 0) = if (ptxt (q * ((ten j : Int) : Rat)).num j).length > 1000 then ([], false) else (ptxt (q * ((ten j : Int) : Rat)).num j, true) := by rw [he]; rfl
   by_cases z : (ptxt (q * ((ten j : Int) : Rat)).num j).length > 1000
   ·rw [if_pos z] at hE
    rw [decide_eq_true (show ((ptxt (q * ((ten j : Int) : Rat)).num j).length : Int) > 1000 by omega), if_pos rfl]
    exact .ret hE.symm
   ·rw [if_neg z] at hE
    rw [decide_eq_false (show ¬ ((ptxt (q * ((ten j : Int) : Rat)).num j).length : Int) > 1000 by omega), if_neg (by simp)]
    exact .ret hE.symm
  ·have y' : ten j % (q.den : Int) ≠ 0 := fun z => by
    have := hiff.2 z
    simp at y
    omega
   rw [wI64 (by omega) (by omega)]
   exact .go ⟨m, by omega, j + 1, rfl, by omega, by rw [he, exK_step y']⟩
theorem inQ_nn' {a : ApiRat} (h : inApiRat a) : (∀ x ∈ a.Num.Limbs, 0 ≤ x) ∧ (∀ x ∈ a.Den.Limbs, 0 ≤ x) := by
 have key : ∀ l : List Int, inList (inInt .u32) l → ∀ x ∈ l, 0 ≤ x := by
  intro l hl x hx
  have := hl.2 x hx
  simp [inInt, Lit.wf, IntKind.min, IntKind.max, IntKind.signed, IntKind.bits] at this
  omega
 obtain ⟨⟨_, h1⟩, ⟨_, h2⟩⟩ := h
 exact ⟨key _ h1, key _ h2⟩
theorem decimalExact_plain (a : ApiRat) (ha : inApiRat a) : l06_DecimalExact a = some true := by
 obtain ⟨n1, n2⟩ := inQ_nn' ha
 unfold l06_DecimalExact
 rw [awake06, bindO_s, if_pos rfl]
 rcases small_ok n1 n2 with ⟨e, q, rfl, hq⟩ | e
 ·rw [e, bindO_s, bindO_s]
  simp only [Bool.not_true, Bool.false_eq_true, if_false]
  rw [dc_Exact_eq hq, bindO_s, r06_Exact_eq hq, bindO_s]
  cases hk : exK q 31 0 with
  | none => rfl
  | some k =>
   obtain ⟨hd, hlt⟩ := exK_ok 31 0 k hk
   have hx := hq.mul (BQ_ten k)
   by_cases z : (ptxt (q * ((ten k : Int) : Rat)).num k).length > 1000
   ·have hE : exT q (some k) = ([], false) := by
     show (if _ then _ else _) = _
     rw [if_pos z]
    rw [hE]; rfl
   ·have hE : exT q (some k) = (ptxt (q * ((ten k : Int) : Rat)).num k, true) := by
     show (if _ then _ else _) = _
     rw [if_neg z]
    rw [hE]
    simp only [beq_self_eq_true, Bool.not_true, Bool.or_self, Bool.false_eq_true, if_false]
    rw [parse_ptxt hx.1 (by omega) (by omega) (by omega), bindO_s]
    simp only [beq_self_eq_true, if_true]
    have hden : (q * ((ten k : Int) : Rat)).den = 1 := den_one.2 (Int.dvd_of_emod_eq_zero hd)
    have hqv : Rat.divInt (q * ((ten k : Int) : Rat)).num (ten k) = q := by
     have h1 : (((q * ((ten k : Int) : Rat)).num : Int) : Rat) = q * ((ten k : Int) : Rat) := by
      have := mul_den (q * ((ten k : Int) : Rat))
      rw [hden] at this
      rw [← this]
      show _ * (1 : Rat) = _
      exact Rat.mul_one _
     have ht : ((ten k : Int) : Rat) ≠ 0 := fun z => by
      have := Rat.intCast_eq_zero_iff.1 z
      have := ten_pos k
      omega
     rw [Rat.divInt_eq_div, h1]
     exact Rat.mul_div_cancel ht
    rw [hqv, r02_Same_eq hq (by omega), decide_eq_true rfl]
    rfl
 ·rw [e]; simp only [bindO_s, Bool.not_false, if_true]
end Go.Proofs.YtipefnighcdgnaaGreatDoor
