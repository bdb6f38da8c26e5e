import Derived.Test.YtipefnighcdgnaaGreatDoorJy
namespace Go.Proofs.YtipefnighcdgnaaGreatDoor
open Go.RowKit
set_option linter.unusedVariables false
set_option linter.unusedSimpArgs false
def txtZ (z : Int) : List UInt8 := (if z < 0 then [45] else []) ++ Lib.decDigits z.natAbs
theorem rep_zero {k : Nat} (h : k ≤ 64) : strings_Repeat [48] (k : Int) = some (zer k) := by
 have key : ∀ k, k < 65 → strings_Repeat [48] ((k : Nat) : Int) = some (zer k) := of_decide_eq_true (by kernel_rfl)
 exact key k (by omega)
theorem dd_lenB {n j : Nat} (h : n < 10 ^ j) (hj : 1 ≤ j) : (Lib.decDigits n).length ≤ j := by
 rcases Nat.eq_zero_or_pos n with z | z
 ·subst z; rw [dd_small (by omega)]; exact hj
 ·have h1 := num_pos (dd_dig n) (dd_ne n) (dd_head (by omega))
  rw [dd_num] at h1
  rcases Nat.lt_or_ge j (Lib.decDigits n).length with y | y
  ·exfalso
   have := Nat.pow_le_pow_right (n := 10) (by omega) (show j ≤ (Lib.decDigits n).length - 1 by omega)
   omega
  ·exact y
theorem zer_len (k : Nat) : (zer k).length = k := by simp [zer]
theorem num_zer : ∀ k, num (zer k) = 0
 | 0 => rfl
 | k + 1 => by
  have := num_zer k
  show num (zer (k + 1)) = 0
  have e : zer (k + 1) = zer k ++ [48] := by unfold zer; rw [List.replicate_succ']
  rw [e, num_snoc, this]; rfl
theorem lenS (neg : Bool) : (if neg = true then ([45] : List UInt8) else []).length ≤ 1 := by cases neg <;> simp
def dg (n : Nat) : UInt8 := UInt8.ofNat (48 + n % 10)
theorem dg_D (n : Nat) : isD (dg n) = true := isD_of (Nat.mod_lt _ (by omega))
theorem dg_v (n : Nat) : dv (dg n) = n % 10 := dv_of (Nat.mod_lt _ (by omega))
theorem q10 (n : Nat) (h : n < 4294967296) : IntKind.u32.wrap (Int.tdiv (n : Int) 10) = ((n / 10 : Nat) : Int) := by
 rw [tdv (by omega), wU32 (by omega) (by omega)]; omega
theorem d10 (n : Nat) : runeS (IntKind.i32.wrap (IntKind.u32.wrap (48 + (Int.tmod (n : Int) 10)))) = [dg n] := by
 have key : ∀ r, r < 10 → runeS (IntKind.i32.wrap (IntKind.u32.wrap (48 + ((r : Nat) : Int)))) = [UInt8.ofNat (48 + r)] := of_decide_eq_true (by kernel_rfl)
 have := key (n % 10) (Nat.mod_lt _ (by omega))
 rw [tmd (by omega)]
 exact this
def D9 (n : Nat) : List UInt8 := [dg (n / 10 / 10 / 10 / 10 / 10 / 10 / 10 / 10), dg (n / 10 / 10 / 10 / 10 / 10 / 10 / 10), dg (n / 10 / 10 / 10 / 10 / 10 / 10), dg (n / 10 / 10 / 10 / 10 / 10), dg (n / 10 / 10 / 10 / 10), dg (n / 10 / 10 / 10), dg (n / 10 / 10), dg (n / 10), dg n]
theorem D9_all (n : Nat) : (D9 n).all isD = true := by
 unfold D9
 simp only [List.all_cons, dg_D, List.all_nil, Bool.and_self]
theorem D9_num (n : Nat) (h : n < 1000000000) : num (D9 n) = n := by
 unfold D9 num
 simp only [numA_cons, numA_nil, dg_v]
 omega
theorem strip0 {out : List UInt8} (h : out.all isD = true) (h0 : num out ≠ 0) (hl : out.length ≤ 1000000) : loopX (fun (v4 : (List UInt8)) =>
          bindO (gt v4 0) fun (c1 : UInt8) =>
          if ((c1.toNat : Int) == 48) = true then
            bindO (cutF v4 1) fun (s1 : (List UInt8)) =>
            some (.go s1)
          else
            some (.ret v4)) fuel out = some (Lib.decDigits (num out)) := by
  apply Tot.get
  refine Tot.loop (fun m v => m = v.length ∧ v.all isD = true ∧ num v = num out) _ out.length (fuel_gt (by omega)) ⟨rfl, h, rfl⟩ (fun m v hv => ?_)
  obtain ⟨rfl, h1, h2⟩ := hv
  cases v with
  | nil => exact absurd h2.symm h0
  | cons c r =>
    have e0 : gt (c :: r) 0 = some c := rfl
    rw [e0, bindO_s, c48b]
    rw [List.all_cons, Bool.and_eq_true] at h1
    refine TotX.ite (fun q => ?_) (fun q => .ret ?_)
    · have hc : c = 48 := by simpa using q
      subst hc
      have : cutF (48 :: r) 1 = some r := by
        unfold cutF
        rw [if_neg (by simp; omega)]; rfl
      rw [this, bindO_s]
      refine .go ⟨r.length, by simp, rfl, h1.2, ?_⟩
      rw [← h2]
      show num r = numA 0 (48 :: r)
      rw [numA_cons]; rfl
    · have hc : c ≠ 48 := by simpa using q
      rw [← h2]
      exact (dd_uniq _ _ rfl ⟨by rw [List.all_cons, h1.1, h1.2]; rfl, by simp, fun _ => by simpa using hc⟩).symm
set_option maxHeartbeats 1000000 in
theorem r01_Format_eq {z : Int} {n : Nat} (hz : Bd n z) (hn : n ≤ 1000) : r01_Format (ofI z) = some (txtZ z) := by
 apply Tot.get
 unfold r01_Format
 have hl := hz.len
 refine Tot.ite (fun q => ?_) (fun q => ?_)
 ·have h0 : z = 0 := ofI_len0.1 (by simp only [beq_iff_eq] at q; omega)
  subst h0
  exact .ok (by unfold txtZ; rw [show (0 : Int).natAbs = 0 from rfl, dd_small (by omega)]; rfl)
 ·have hz0 : z ≠ 0 := fun y => by rw [y] at q; simp [ofI, toL_zero] at q
  have ho := ofI_okL z
  have hv := ofI_val z
  rw [ofI_negv]
  generalize (ofI z).Limbs = l at *
  refine Tot.bind (E := fun v => v.all isD = true ∧ num v = z.natAbs ∧ v.length ≤ 9 * l.length) (Tot.guard (okIdx_of (by omega)) (Tot.range (fun i v => v.all isD = true ∧ v.length = 9 * i ∧ (num v : Int) = val (l.take i)) _ ⟨rfl, rfl, rfl⟩ (fun i e out hx hr => ?_) (fun out hr => .ok ?_))) (fun out hr => ?_)
  ·obtain ⟨r1, r2, r3⟩ := hr
   have hil := getElem_lt hx
   have he := okL_get ho hx
   obtain ⟨m, rfl⟩ := Int.eq_ofNat_of_zero_le he.1
   have hm : m < 1000000000 := by omega
   rw [q10 m (by omega), q10 (m / 10) (by omega), q10 (m / 10 / 10) (by omega), q10 (m / 10 / 10 / 10) (by omega), q10 (m / 10 / 10 / 10 / 10) (by omega), q10 (m / 10 / 10 / 10 / 10 / 10) (by omega), q10 (m / 10 / 10 / 10 / 10 / 10 / 10) (by omega), q10 (m / 10 / 10 / 10 / 10 / 10 / 10 / 10) (by omega)]
   simp only [d10]
   refine TotX.bind (E := fun _ => True) ?_ (fun _ _ => .go ?_)
   ·refine Tot.guard (okStr_of (by simp; omega)) (Tot.guard (okStr_of (by simp; omega)) (Tot.guard (okStr_of (by simp; omega)) (Tot.guard (okStr_of (by simp; omega)) (Tot.guard (okStr_of (by simp; omega)) (Tot.guard (okStr_of (by simp; omega)) (Tot.guard (okStr_of (by simp; omega)) (Tot.guard (okStr_of (by simp; omega)) (Tot.guard (okStr_of (by simp; omega)) (.ok trivial)))))))))
   ·show (D9 m ++ out).all isD = true ∧ (D9 m ++ out).length = 9 * (i + 1) ∧ ((num (D9 m ++ out) : Nat) : Int) = val (l.take (i + 1))
    refine ⟨by rw [List.all_append, D9_all, r1]; rfl, by rw [List.length_append, r2]; show 9 + 9 * i = _; omega, ?_⟩
    rw [num_app, D9_num m hm, r2, val_take_one hx, ← r3, pw_ten, Int.natCast_add, Int.natCast_mul]
    omega
  ·obtain ⟨r1, r2, r3⟩ := hr
   rw [List.take_of_length_le (Nat.le_refl _), hv] at r3
   exact ⟨r1, by omega, by omega⟩
  ·obtain ⟨r1, r2, r3⟩ := hr
   rw [strip0 r1 (by omega) (by omega), bindO_s, r2]
   have hdl : (Lib.decDigits z.natAbs).length ≤ 9 * l.length + 1 := by
    have h1 := num_lt out r1
    rw [r2] at h1
    exact dd_lenB (Nat.lt_of_lt_of_le h1 (Nat.pow_le_pow_right (by omega) (by omega))) (by omega)
   refine Tot.bind (E := fun v => v = txtZ z) (Tot.ite (fun y => ?_) (fun y => .ok ?_)) (fun v hv' => .ok hv')
   ·refine Tot.guard (okStr_of (by simp; omega)) (.ok ?_)
    unfold txtZ
    rw [if_pos (by simpa using y)]
   ·unfold txtZ
    rw [if_neg (by simpa using y)]; rfl
end Go.Proofs.YtipefnighcdgnaaGreatDoor
