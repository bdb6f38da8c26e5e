/-
  Jf, Jh in one text.
-/
import Derived.Test.YthljcnchaopncaaGreatDoorJy
import Derived.Test.YthljcnchaopncaaGreatDoorMX
namespace Go.Proofs.YthljcnchaopncaaGreatDoor
open Go.RowKit
set_option linter.unusedVariables false
set_option linter.unusedSimpArgs false
def txtZ (z : Int) : List UInt8 := (if z < 0 then [45] else []) ++ Lib.decDigits z.natAbs
theorem rep_zero {k : Nat} (h : k ≤ 64) : strings_Repeat [48] (k : Int) = some (zer k) := by
 have key : ∀ k,k < 65 → strings_Repeat [48] ((k : Nat) : Int) = some (zer k) := of_decide_eq_true (by kernel_rfl)
 exact key k (by omega)
theorem dd_lenB {n j : Nat} (h : n < 10 ^ j) (hj : 1 ≤ j) : (Lib.decDigits n).length ≤ j := by
 rcases Nat.eq_zero_or_pos n with z | z
 ·subst z; rw [dd_small (by omega)]; exact hj
 ·have h1 := num_pos (dd_dig n) (dd_ne n) (dd_head (by omega))
  rw [dd_num] at h1
  rcases Nat.lt_or_ge j (Lib.decDigits n).length with y | y
  ·exfalso
   have := Nat.pow_le_pow_right (n := 10) (by omega) (show j ≤ (Lib.decDigits n).length - 1 by omega)
   omega
  ·exact y
theorem zer_len (k : Nat) : (zer k).length = k := by simp [zer]
theorem num_zer : ∀ k,num (zer k) = 0
 | 0=>rfl
 | k + 1=>by
  have := num_zer k
  show num (zer (k + 1)) = 0
  have e : zer (k + 1) = zer k ++ [48] := by unfold zer; rw [List.replicate_succ']
  rw [e,num_snoc,this]; rfl
theorem lenS (neg : Bool) : (if neg = true then ([45] : List UInt8) else []).length ≤ 1 := by cases neg <;> simp
def dg (n : Nat) : UInt8 := UInt8.ofNat (48 + n % 10)
theorem dg_D (n : Nat) : isD (dg n) = true := isD_of (Nat.mod_lt _ (by omega))
theorem dg_v (n : Nat) : dv (dg n) = n % 10 := dv_of (Nat.mod_lt _ (by omega))
theorem q10 (n : Nat) (h : n < 4294967296) : IntKind.u32.wrap (Int.tdiv (n : Int) 10) = ((n / 10 : Nat) : Int) := by
 rw [tdv (by omega),wU32 (by omega) (by omega)]; omega
theorem d10 (n : Nat) : runeS (IntKind.i32.wrap (IntKind.u32.wrap (48 + (Int.tmod (n : Int) 10)))) = [dg n] := by
 have key : ∀ r,r < 10 → runeS (IntKind.i32.wrap (IntKind.u32.wrap (48 + ((r : Nat) : Int)))) = [UInt8.ofNat (48 + r)] := of_decide_eq_true (by kernel_rfl)
 have := key (n % 10) (Nat.mod_lt _ (by omega))
 rw [tmd (by omega)]
 exact this
def D9 (n : Nat) : List UInt8 := [dg (n / 10 / 10 / 10 / 10 / 10 / 10 / 10 / 10),dg (n / 10 / 10 / 10 / 10 / 10 / 10 / 10),dg (n / 10 / 10 / 10 / 10 / 10 / 10),dg (n / 10 / 10 / 10 / 10 / 10),dg (n / 10 / 10 / 10 / 10),dg (n / 10 / 10 / 10),dg (n / 10 / 10),dg (n / 10),dg n]
theorem D9_all (n : Nat) : (D9 n).all isD = true := by
 unfold D9
 simp only [List.all_cons,dg_D,List.all_nil,Bool.and_self]
theorem D9_num (n : Nat) (h : n < 1000000000) : num (D9 n) = n := by
 unfold D9 num
 simp only [numA_cons,numA_nil,dg_v]
 omega
theorem strip0 {out : List UInt8} (h : out.all isD = true) (h0 : num out ≠ 0) (hl : out.length ≤ 1000000) : loopX (fun (v4 : (List UInt8)) =>
          bindO (gt v4 0) fun (c1 : UInt8) =>
          if ((c1.toNat : Int) == 48) = true then
            bindO (cutF v4 1) fun (s1 : (List UInt8)) =>
            some (.go s1)
          else
            some (.ret v4)) fuel out = some (Lib.decDigits (num out)) := by
  apply Tot.get
  refine Tot.loop (fun m v=>m = v.length ∧ v.all isD = true ∧ num v = num out) _ out.length (fuel_gt (by omega)) ⟨rfl,h,rfl⟩ (fun m v hv=>?_)
  obtain ⟨rfl,h1,h2⟩ := hv
  cases v with
  | nil=>exact absurd h2.symm h0
  | cons c r =>
    have e0 : gt (c :: r) 0 = some c := rfl
    rw [e0,bindO_s,c48b]
    rw [List.all_cons,Bool.and_eq_true] at h1
    refine TotX.ite (fun q=>?_) (fun q=>.ret ?_)
    · have hc : c = 48 := by simpa using q
      subst hc
      have : cutF (48 :: r) 1 = some r := by
        unfold cutF
        rw [if_neg (by simp; omega)]; rfl
      rw [this,bindO_s]
      refine .go ⟨r.length,by simp,rfl,h1.2,?_⟩
      rw [← h2]
      show num r = numA 0 (48 :: r)
      rw [numA_cons]; rfl
    · have hc : c ≠ 48 := by simpa using q
      rw [← h2]
      exact (dd_uniq _ _ rfl ⟨by rw [List.all_cons,h1.1,h1.2]; rfl,by simp,fun _=>by simpa using hc⟩).symm
set_option maxHeartbeats 1000000 in
theorem r01_Format_eq {z : Int} {n : Nat} (hz : Bd n z) (hn : n ≤ 1000) : r01_Format (ofI z) = some (txtZ z) := by
 apply Tot.get
 unfold r01_Format
 have hl := hz.len
 refine Tot.ite (fun q=>?_) (fun q=>?_)
 ·have h0 : z = 0 := ofI_len0.1 (by simp only [beq_iff_eq] at q; omega)
  subst h0
  exact .ok (by unfold txtZ; rw [show (0 : Int).natAbs = 0 from rfl,dd_small (by omega)]; rfl)
 ·have hz0 : z ≠ 0 := fun y=>by rw [y] at q; simp [ofI,toL_zero] at q
  have ho := ofI_okL z
  have hv := ofI_val z
  rw [ofI_negv]
  generalize (ofI z).Limbs = l at *
  refine Tot.bind (E := fun v=>v.all isD = true ∧ num v = z.natAbs ∧ v.length ≤ 9 * l.length) (Tot.guard (okIdx_of (by omega)) (Tot.range (fun i v=>v.all isD = true ∧ v.length = 9 * i ∧ (num v : Int) = val (l.take i)) _ ⟨rfl,rfl,rfl⟩ (fun i e out hx hr=>?_) (fun out hr=>.ok ?_))) (fun out hr=>?_)
  ·obtain ⟨r1,r2,r3⟩ := hr
   have hil := getElem_lt hx
   have he := okL_get ho hx
   obtain ⟨m,rfl⟩ := Int.eq_ofNat_of_zero_le he.1
   have hm : m < 1000000000 := by omega
   rw [q10 m (by omega),q10 (m / 10) (by omega),q10 (m / 10 / 10) (by omega),q10 (m / 10 / 10 / 10) (by omega),q10 (m / 10 / 10 / 10 / 10) (by omega),q10 (m / 10 / 10 / 10 / 10 / 10) (by omega),q10 (m / 10 / 10 / 10 / 10 / 10 / 10) (by omega),q10 (m / 10 / 10 / 10 / 10 / 10 / 10 / 10) (by omega)]
   simp only [d10]
   refine TotX.bind (E := fun _=>True) ?_ (fun _ _=>.go ?_)
   ·refine Tot.guard (okStr_of (by simp; omega)) (Tot.guard (okStr_of (by simp; omega)) (Tot.guard (okStr_of (by simp; omega)) (Tot.guard (okStr_of (by simp; omega)) (Tot.guard (okStr_of (by simp; omega)) (Tot.guard (okStr_of (by simp; omega)) (Tot.guard (okStr_of (by simp; omega)) (Tot.guard (okStr_of (by simp; omega)) (Tot.guard (okStr_of (by simp; omega)) (.ok trivial)))))))))
   ·show (D9 m ++ out).all isD = true ∧ (D9 m ++ out).length = 9 * (i + 1) ∧ ((num (D9 m ++ out) : Nat) : Int) = val (l.take (i + 1))
    refine ⟨by rw [List.all_append,D9_all,r1]; rfl,by rw [List.length_append,r2]; show 9 + 9 * i = _; omega,?_⟩
    rw [num_app,D9_num m hm,r2,val_take_one hx,← r3,pw_ten,Int.natCast_add,Int.natCast_mul]
    omega
  ·obtain ⟨r1,r2,r3⟩ := hr
   rw [List.take_of_length_le (Nat.le_refl _),hv] at r3
   exact ⟨r1,by omega,by omega⟩
  ·obtain ⟨r1,r2,r3⟩ := hr
   rw [strip0 r1 (by omega) (by omega),bindO_s,r2]
   have hdl : (Lib.decDigits z.natAbs).length ≤ 9 * l.length + 1 := by
    have h1 := num_lt out r1
    rw [r2] at h1
    exact dd_lenB (Nat.lt_of_lt_of_le h1 (Nat.pow_le_pow_right (by omega) (by omega))) (by omega)
   refine Tot.bind (E := fun v=>v = txtZ z) (Tot.ite (fun y=>?_) (fun y=>.ok ?_)) (fun v hv'=>.ok hv')
   ·refine Tot.guard (okStr_of (by simp; omega)) (.ok ?_)
    unfold txtZ
    rw [if_pos (by simpa using y)]
   ·unfold txtZ
    rw [if_neg (by simpa using y)]; rfl
end Go.Proofs.YthljcnchaopncaaGreatDoor
namespace Go.Proofs.YthljcnchaopncaaGreatDoor
open Go.RowKit
set_option linter.unusedVariables false
set_option linter.unusedSimpArgs false
theorem parseU_eq : ∀ (l : List UInt8) (a : Nat),l.all isD = true → a ≤ 18446744073709551615 → Lib.parseUintM 18446744073709551615 a l = if numA a l ≤ 18446744073709551615 then .ok (numA a l) else .range
 | [],a,_,h=>by
  show Lib.NumEnd.ok a = _
  rw [numA_nil,if_pos h]
 | c :: l,a,h,ha=>by
  simp only [List.all_cons,Bool.and_eq_true] at h
  have hc := isD_iff.1 h.1
  rw [numA_cons]
  have hge := numA_ge l (10 * a + dv c)
  have hd : dv c = c.toNat - 48 := rfl
  unfold Lib.parseUintM
  rw [if_pos hc]
  by_cases h1 : 1844674407370955162 ≤ a
  ·rw [if_pos h1,if_neg (by omega)]
  ·rw [if_neg h1]
   by_cases h2 : 18446744073709551615 < a * 10 + (c.toNat - 48)
   ·rw [if_pos h2,if_neg (by omega)]
   ·rw [if_neg h2,show a * 10 + (c.toNat - 48) = 10 * a + dv c by omega]
    exact parseU_eq l _ h.2 (by omega)
theorem parseB_eq {l : List UInt8} (h : l.all isD = true) (hne : l ≠ []) : Lib.parseUintB 64 l = if num l ≤ 18446744073709551615 then .ok (num l) else .range := by
 unfold Lib.parseUintB
 rw [if_neg hne,show (2 ^ 64 - 1 : Nat) = 18446744073709551615 by rfl]
 exact parseU_eq l 0 h (by omega)
theorem parseE {neg : Bool} {D : List UInt8} (h : D.all isD = true) (hne : D ≠ []) (hl : D.length ≤ 1000000) : ∃ r : Int × Bool,strconv_ParseIntE ((if neg = true then [45] else []) ++ D) 10 64 = some r ∧ (r.2 = true → r.1 = signI neg (num D) ∧ -9223372036854775808 ≤ signI neg (num D) ∧ signI neg (num D) ≤ 9223372036854775807) ∧ (r.2 = false → ¬ (-9223372036854775808 ≤ signI neg (num D) ∧ signI neg (num D) ≤ 9223372036854775807)) := by
 have hg : ((10 : Int) == 10 && ((64 : Int) == 64 && decide (((if neg = true then ([45] : List UInt8) else []) ++ D).length ≤ 281474976710656))) = true := by
  have := lenS neg
  simp; omega
 unfold strconv_ParseIntE
 rw [hg,guardO_t]
 have hB := parseB_eq h hne
 have e64 : (2 ^ (64 - 1) : Nat) = 9223372036854775808 := rfl
 cases neg with
 | true =>
  have hP : Lib.parseIntB 64 ((if true = true then ([45] : List UInt8) else []) ++ D) = Lib.signedC (2 ^ (64 - 1)) (Lib.parseUintB 64 D) := Lib.parseIntB_minus 64 D
  rw [hP,hB,e64]
  by_cases h1 : num D ≤ 18446744073709551615
  ·rw [if_pos h1]
   by_cases h2 : 9223372036854775808 < num D
   ·have : Lib.signedC 9223372036854775808 (.ok (num D)) = .range := by show (if _ then _ else _) = _; rw [if_pos h2]
    rw [this]
    refine ⟨_,rfl,(fun z=>by cases z),fun _ z=>?_⟩
    unfold signI at z
    simp at z; omega
   ·have : Lib.signedC 9223372036854775808 (.ok (num D)) = .ok (-(num D : Int)) := by show (if _ then _ else _) = _; rw [if_neg h2]
    rw [this]
    refine ⟨_,rfl,fun _=>?_,(fun z=>by cases z)⟩
    unfold signI
    simp; omega
  ·rw [if_neg h1]
   refine ⟨_,rfl,(fun z=>by cases z),fun _ z=>?_⟩
   unfold signI at z
   simp at z; omega
 | false =>
  have hP : Lib.parseIntB 64 ((if false = true then ([45] : List UInt8) else []) ++ D) = Lib.signlessC (2 ^ (64 - 1)) (Lib.parseUintB 64 D) := by
   cases D with
   | nil=>exact absurd rfl hne
   | cons c r =>
    have hc := isD_iff.1 (List.all_eq_true.1 h c (by simp))
    exact Lib.parseIntB_plain 64 c r (by omega) (by omega)
  rw [hP,hB,e64]
  by_cases h1 : num D ≤ 18446744073709551615
  ·rw [if_pos h1]
   by_cases h2 : 9223372036854775808 ≤ num D
   ·have : Lib.signlessC 9223372036854775808 (.ok (num D)) = .range := by show (if _ then _ else _) = _; rw [if_pos h2]
    rw [this]
    refine ⟨_,rfl,(fun z=>by cases z),fun _ z=>?_⟩
    unfold signI at z
    simp at z; omega
   ·have : Lib.signlessC 9223372036854775808 (.ok (num D)) = .ok (num D : Int) := by show (if _ then _ else _) = _; rw [if_neg h2]
    rw [this]
    refine ⟨_,rfl,fun _=>?_,(fun z=>by cases z)⟩
    unfold signI
    simp; omega
  ·rw [if_neg h1]
   refine ⟨_,rfl,(fun z=>by cases z),fun _ z=>?_⟩
   unfold signI at z
   simp at z; omega
theorem zer_num (l : List UInt8) (k : Nat) : num (l ++ zer k) = num l * 10 ^ k := by rw [num_app,num_zer,zer_len]; omega
def mmL (neg : Bool) (w p : List UInt8) : Int := signI neg (num (w ++ p)) * ten (3 - p.length)
def mmRes (neg : Bool) (w p : List UInt8) (pt : Bool) : Int × Int := if (okD neg w p pt && decide (p.length ≤ 3)) = true then (if mmL neg w p > 10000000 ∨ mmL neg w p < -10000000 then (0,11) else (mmL neg w p,0)) else (0,2)
theorem sign_mul (neg : Bool) (n k : Nat) : signI neg (n * 10 ^ k) = signI neg n * ten k := by
 unfold signI ten
 cases neg with
 | true=>simp only [if_true]; rw [Int.natCast_mul,Int.neg_mul]
 | false=>simp only [Bool.false_eq_true,if_false]; rw [Int.natCast_mul]
theorem dc_FromMillimetres_eq {s : List UInt8} {neg : Bool} {b w p : List UInt8} {pt : Bool} (hs : strip s = (neg,b)) (hc : cutV b = (w,p,pt)) (hl : s.length ≤ 20000) : dc_FromMillimetres s = some (mmRes neg w p pt) := by
 have hbl : b.length ≤ s.length := by have := strip_len s; rw [hs] at this; exact this
 obtain ⟨hbw,hpt⟩ := cutV_len hc
 have hwl : w.length + p.length ≤ b.length := by
  rw [hbw]
  cases pt with
  | true=>simp <;> omega
  | false=>rw [hpt rfl]; simp
 unfold dc_FromMillimetres
 rw [dc_digits_eq hs hc (by omega),bindO_s]
 unfold mmRes okD
 cases hg : goodB w p pt with
 | false=>rfl
 | true =>
  obtain ⟨g1,g2,g3,g4,g5⟩ := good_all hg hpt
  have hall : (w ++ p).all isD = true := by rw [List.all_append,g1,g3]; rfl
  have hll := (tw_len (· == 48) (w ++ p)).2
  rw [List.length_append] at hll
  have hll' : (lz (w ++ p)).length ≤ w.length + p.length := hll
  -- the digits that are read
  have key : ∀ D : List UInt8,D.all isD = true → D ≠ [] → num D = num (w ++ p) → D.length ≤ 20001 → p.length ≤ 3 →
    (bindO (strings_Repeat [48] (IntKind.i64.wrap (3 - (p.length : Int)))) fun (y2 : (List UInt8)) =>
  guardO (okStr ((if neg = true then [45] else []) ++ D) y2) (
  bindO (strconv_ParseIntE (((if neg = true then [45] else []) ++ D) ++ y2) 10 64) fun (y3 : Int × Bool) =>
  if (!y3.2 || ((decide (y3.1 > 10000000)) || (decide (y3.1 < (-10000000))))) = true then
   some ((0,11) : Int × Int)
  else
   some (y3.1,0))) = some (if mmL neg w p > 10000000 ∨ mmL neg w p < -10000000 then (0,11) else (mmL neg w p,0)) := by
   intro D h1 h2 h3 h4 h5
   have e3 : IntKind.i64.wrap (3 - (p.length : Int)) = ((3 - p.length : Nat) : Int) := by rw [wI64 (by omega) (by omega)]; omega
   have hsl := lenS neg
   rw [e3,rep_zero (by omega),bindO_s,okStr_of (by rw [zer_len,List.length_append]; omega),guardO_t,List.append_assoc]
   have hD : (D ++ zer (3 - p.length)).all isD = true := by rw [List.all_append,h1,zer_dig]; rfl
   obtain ⟨r,r1,r2,r3⟩ := parseE (neg := neg) hD (by simp [h2]) (by rw [List.length_append,zer_len]; omega)
   have hV : signI neg (num (D ++ zer (3 - p.length))) = mmL neg w p := by rw [zer_num,h3,sign_mul]; rfl
   rw [hV] at r2 r3
   rw [r1,bindO_s]
   cases hr : r.2 with
   | true =>
    obtain ⟨r4,_⟩ := r2 hr
    rw [r4]
    simp only [Bool.not_true,Bool.false_or]
    by_cases z : mmL neg w p > 10000000 ∨ mmL neg w p < -10000000
    ·rw [if_pos z,if_pos (by simpa using z)]
    ·rw [if_neg z,if_neg (by simpa using z)]
   | false =>
    have := r3 hr
    rw [if_pos (by simp),if_pos (by omega)]
  by_cases hz : lz (w ++ p) = []
  ·rw [if_pos rfl,if_pos hz]
   have hn0 : num (w ++ p) = 0 := by rw [← num_lz,hz]; rfl
   cases neg with
   | true=>simp [hz]
   | false =>
    simp only [Bool.not_false,Bool.not_true,Bool.false_or,Bool.true_or,Bool.and_true,Bool.true_and]
    by_cases h3 : p.length ≤ 3
    ·rw [decide_eq_false (show ¬ (p.length : Int) > 3 by omega),decide_eq_true h3,if_neg (by simp),if_pos rfl]
     exact key [48] rfl (by simp) (by rw [hn0]; rfl) (by simp) h3
    ·rw [decide_eq_true (show (p.length : Int) > 3 by omega),decide_eq_false h3,if_pos rfl,if_neg (by simp)]
  ·rw [if_pos rfl,if_neg hz]
   have hne : (!(lz (w ++ p)).isEmpty) = true := by
    cases hq : lz (w ++ p) with
    | nil=>exact absurd hq hz
    | cons c r=>rfl
   rw [hne,Bool.or_true,Bool.and_true]
   dsimp only
   simp only [Bool.not_true,Bool.false_or,Bool.true_and]
   by_cases h3 : p.length ≤ 3
   ·rw [decide_eq_false (show ¬ (p.length : Int) > 3 by omega),decide_eq_true h3,if_neg (by simp),if_pos rfl]
    exact key (lz (w ++ p)) (lz_all hall) hz (num_lz _) (by omega) h3
   ·rw [decide_eq_true (show (p.length : Int) > 3 by omega),decide_eq_false h3,if_pos rfl,if_neg (by simp)]
theorem r01_Int64_eq {z : Int} {n : Nat} (hz : Bd n z) (hn : n ≤ 90000) : r01_Int64 (ofI z) = some (if -9223372036854775808 ≤ z ∧ z ≤ 9223372036854775807 then (z,true) else (0,false)) := by
 have hl := hz.len
 have h1 : Bd 3 (-9223372036854775808) := Bd.i64 (by omega) (by omega)
 have h2 : Bd 3 (9223372036854775807) := Bd.i64 (by omega) (by omega)
 apply Tot.get
 unfold r01_Int64
 rw [r01_FromInt64_eq (by omega) (by omega),bindO_s,r01_FromInt64_eq (by omega) (by omega),bindO_s]
 refine Tot.bind (E := fun v=>v = !decide (-9223372036854775808 ≤ z ∧ z ≤ 9223372036854775807)) ?_ (fun v hv=>?_)
 ·rw [r01_Cmp_eq hz h1 (by omega) (by omega),bindO_s,sg_dec,r01_Cmp_eq hz h2 (by omega) (by omega),bindO_s,sg_decP]
  refine Tot.ite (fun q=>.ok ?_) (fun q=>.ok ?_)
  ·simp only [decide_eq_true_eq] at q
   rw [decide_eq_false (by omega)]; rfl
  ·simp only [decide_eq_false_iff_not] at q
   by_cases y : z ≤ 9223372036854775807
   ·rw [decide_eq_false (show ¬ z - 9223372036854775807 > 0 by omega),decide_eq_true (by omega)]; rfl
   ·rw [decide_eq_true (show z - 9223372036854775807 > 0 by omega),decide_eq_false (by omega)]; rfl
 ·subst hv
  by_cases y : -9223372036854775808 ≤ z ∧ z ≤ 9223372036854775807
  ·rw [decide_eq_true y,if_pos y]
   refine Tot.ite (fun q=>by cases q) (fun _=>?_)
   rw [r01_short_eq (ofI_okL z) (by omega) (by rw [ofI_val]; omega),bindO_s,ofI_val,ofI_negv]
   refine Tot.ite (fun q=>.ok ?_) (fun q=>.ok ?_)
   ·have q' : z < 0 := by simpa using q
    congr 1
    unfold IntKind.wrap
    simp [IntKind.signed,IntKind.bits]
    omega
   ·have q' : ¬ z < 0 := by simpa using q
    rw [wI64 (by omega) (by omega)]
    congr 1
    omega
  ·rw [decide_eq_false y,if_neg y]
   exact .ok rfl
theorem r06_within_eq {z : Int} {n : Nat} (hz : Bd n z) (hn : n ≤ 90000) : r06_within (ofI z) = some (if -9223372036854775808 ≤ z ∧ z ≤ 9223372036854775807 then z else 0,decide (-10000000 ≤ z ∧ z ≤ 10000000)) := by
 unfold r06_within
 rw [r01_Int64_eq hz hn,bindO_s]
 by_cases y : -9223372036854775808 ≤ z ∧ z ≤ 9223372036854775807
 ·rw [if_pos y,if_pos y]
  congr 2
  dsimp only
  rw [Bool.true_and]
  by_cases t : -10000000 ≤ z ∧ z ≤ 10000000
  ·rw [decide_eq_true t,decide_eq_true (show z ≥ -10000000 by omega),decide_eq_true (show z ≤ 10000000 by omega)]; rfl
  ·rw [decide_eq_false t]
   by_cases u : z ≥ -10000000
   ·rw [decide_eq_true u,decide_eq_false (by omega)]; rfl
   ·rw [decide_eq_false u]; rfl
 ·rw [if_neg y,if_neg y]
  congr 2
  rw [show decide (-10000000 ≤ z ∧ z ≤ 10000000) = false from decide_eq_false (by omega)]; rfl
theorem r06_FromMillimetres_eq {s : List UInt8} {neg : Bool} {b w p : List UInt8} {pt : Bool} (hs : strip s = (neg,b)) (hc : cutV b = (w,p,pt)) (hl : s.length ≤ 20000) : r06_FromMillimetres s = some (mmRes neg w p pt) := by
 have hbl : b.length ≤ s.length := by have := strip_len s; rw [hs] at this; exact this
 obtain ⟨hbw,hpt⟩ := cutV_len hc
 have hwl : w.length + p.length ≤ b.length := by
  rw [hbw]
  cases pt with
  | true=>simp <;> omega
  | false=>rw [hpt rfl]; simp
 unfold r06_FromMillimetres
 rw [r06_Places_eq hs hc (by omega),bindO_s,r06_Parse_eq hs hc (by omega)]
 unfold mmRes
 cases ho : okD neg w p pt with
 | false=>rfl
 | true =>
  have ho' := ho
  unfold okD at ho'
  rw [Bool.and_eq_true] at ho'
  obtain ⟨g1,g2,g3,g4,g5⟩ := good_all ho'.1 hpt
  have hall : (w ++ p).all isD = true := by rw [List.all_append,g1,g3]; rfl
  simp only [if_true,Bool.true_and]
  rw [decide_eq_false (show ¬ (p.length : Int) < 0 by omega)]
  by_cases h3 : p.length ≤ 3
  ·rw [decide_eq_false (show ¬ (p.length : Int) > 3 by omega),decide_eq_true h3,if_neg (by simp),if_pos rfl,bindO_s]
   dsimp only
   have hbn := Bd_num hall
   rw [List.length_append] at hbn
   have hQ : BQ (w.length + p.length + 1) (decQ neg w p) := divInt_BQ (Bd_sign hbn) ((Bd_ten _).mono (by omega)) (Int.ne_of_gt (ten_pos _))
   have hM := hQ.mul (BQ_ten 3)
   have hval : decQ neg w p * ((ten 3 : Int) : Rat) = ((mmL neg w p : Int) : Rat) := by
    have ht : ((ten p.length : Int) : Rat) ≠ 0 := fun z=>by
     have := Rat.intCast_eq_zero_iff.1 z
     have := ten_pos p.length
     omega
    have h33 : ten 3 = ten (3 - p.length) * ten p.length := by
     unfold ten
     rw [← Int.natCast_mul,← Nat.pow_add,show 3 - p.length + p.length = 3 by omega]
    unfold decQ mmL
    rw [Rat.divInt_eq_div,h33,Rat.intCast_mul,Rat.intCast_mul]
    have h1 := Rat.div_mul_cancel (a := ((signI neg (num (w ++ p)) : Int) : Rat)) ht
    generalize ((signI neg (num (w ++ p)) : Int) : Rat) / ((ten p.length : Int) : Rat) = X at *
    rw [← h1]; grind
   rw [show r06_Power 3 = some (ofQ ((ten 3 : Int) : Rat)) from r06_Power_eq (n := 3) (by omega),bindO_s,r02_Mul_eq hQ (BQ_ten 3) (by omega),bindO_s,r02_Floor_eq hM (by omega),bindO_s,hval,Rat.floor_intCast]
   have hVb : Bd (w.length + p.length + 1 + (3 + 1)) (mmL neg w p) := by
    have := hM.1
    rw [hval] at this
    exact this
   rw [r06_within_eq hVb (by omega),bindO_s]
   dsimp only
   by_cases y : -10000000 ≤ mmL neg w p ∧ mmL neg w p ≤ 10000000
   ·rw [decide_eq_true y,if_neg (by simp),if_pos (by omega),if_neg (by omega)]
   ·rw [decide_eq_false y,if_pos (by rfl),if_pos (by omega)]
  ·rw [decide_eq_true (show (p.length : Int) > 3 by omega),decide_eq_false h3,if_pos (by simp),if_neg (by simp)]
end Go.Proofs.YthljcnchaopncaaGreatDoor
