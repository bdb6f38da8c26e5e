/-
  Jhf, Jg, Ji, Jj in one text.
-/
import Derived.Test.YtjamgiobipdfhaaGreatDoorJy
import Derived.Test.YtjamgiobipdfhaaGreatDoorMX
open List renaming length_append → zC,all_append → zD,append_assoc → zF,all_cons → zG
open Bool renaming and_eq_true → zE,true_and → zI,not_true → zM,false_or → zN,and_true → zP
open Int renaming natCast_mul → zH,natAbs_natCast → zO
open Nat renaming mod_lt → zJ,pow_le_pow_right → zK,mul_le_mul_right → zL
open Go.IntKind renaming i64 → zQ,u64 → zR
namespace Go.Proofs.YtjamgiobipdfhaaGreatDoor
open Go.RowKit
set_option linter.unusedVariables false
set_option linter.unusedSimpArgs false
def txtZ (z : Int) : List UInt8 := (if z < 0 then [45] else []) ++ Lib.decDigits z.natAbs
theorem rep_zero {k : Nat} (h : k ≤ 64) : strings_Repeat [48] (k : Int) = some (zer k) := by
 have key : ∀ k,k < 65 → strings_Repeat [48] ((k : Nat) : Int) = some (zer k) := of_decide_eq_true (by kernel_rfl)
 exact key k (by omega)
theorem dd_lenB {n j : Nat} (h : n < 10 ^ j) (hj : 1 ≤ j) : (Lib.decDigits n).length ≤ j := by
 rcases Nat.eq_zero_or_pos n with z | z
 ·subst z; rw [dd_small (by omega)]; exact hj
 ·have h1 := num_pos (dd_dig n) (dd_ne n) (dd_head (by omega))
  rw [dd_num] at h1
  rcases Nat.lt_or_ge j (Lib.decDigits n).length with y | y
  ·exfalso
   have := zK (n := 10) (by omega) (show j ≤ (Lib.decDigits n).length - 1 by omega)
   omega
  ·exact y
theorem zer_len (k : Nat) : (zer k).length = k := by simp [zer]
theorem num_zer : ∀ k,num (zer k) = 0
 | 0=>rfl
 | k + 1=>by
  have := num_zer k
  show num (zer (k + 1)) = 0
  have e : zer (k + 1) = zer k ++ [48] := by unfold zer; rw [List.replicate_succ']
  rw [e,num_snoc,this]; rfl
theorem lenS (neg : Bool) : (if neg = true then ([45] : List UInt8) else []).length ≤ 1 := by cases neg <;> simp
def dg (n : Nat) : UInt8 := UInt8.ofNat (48 + n % 10)
theorem dg_D (n : Nat) : isD (dg n) = true := isD_of (zJ _ (by omega))
theorem dg_v (n : Nat) : dv (dg n) = n % 10 := dv_of (zJ _ (by omega))
theorem q10 (n : Nat) (h : n < 4294967296) : IntKind.u32.wrap (Int.tdiv (n : Int) 10) = ((n / 10 : Nat) : Int) := by
 rw [tdv (by omega),wU32 (by omega) (by omega)]; omega
theorem d10 (n : Nat) : runeS (IntKind.i32.wrap (IntKind.u32.wrap (48 + (Int.tmod (n : Int) 10)))) = [dg n] := by
 have key : ∀ r,r < 10 → runeS (IntKind.i32.wrap (IntKind.u32.wrap (48 + ((r : Nat) : Int)))) = [UInt8.ofNat (48 + r)] := of_decide_eq_true (by kernel_rfl)
 have := key (n % 10) (zJ _ (by omega))
 rw [tmd (by omega)]
 exact this
def D9 (n : Nat) : List UInt8 := [dg (n / 10 / 10 / 10 / 10 / 10 / 10 / 10 / 10),dg (n / 10 / 10 / 10 / 10 / 10 / 10 / 10),dg (n / 10 / 10 / 10 / 10 / 10 / 10),dg (n / 10 / 10 / 10 / 10 / 10),dg (n / 10 / 10 / 10 / 10),dg (n / 10 / 10 / 10),dg (n / 10 / 10),dg (n / 10),dg n]
theorem D9_all (n : Nat) : (D9 n).all isD = true := by
 unfold D9
 simp only [zG,dg_D,List.all_nil,Bool.and_self]
theorem D9_num (n : Nat) (h : n < 1000000000) : num (D9 n) = n := by
 unfold D9 num
 simp only [numA_cons,numA_nil,dg_v]
 omega
theorem strip0 {out : List UInt8} (h : out.all isD = true) (h0 : num out ≠ 0) (hl : out.length ≤ 1000000) : loopX (λ(v4 : (List UInt8)) =>
          bindO (gt v4 0) λ(c1 : UInt8) =>
          if ((c1.toNat : Int) == 48) = true then
            bindO (cutF v4 1) λ(s1 : (List UInt8)) =>
            some (.go s1)
          else
            some (.ret v4)) fuel out = some (Lib.decDigits (num out)) := by
  apply Tot.get
  refine Tot.loop (λm v=>m = v.length ∧ v.all isD = true ∧ num v = num out) _ out.length (fuel_gt (by omega)) ⟨rfl,h,rfl⟩ (λm v hv=>?_)
  obtain ⟨rfl,h1,h2⟩ := hv
  cases v with
  | nil=>exact absurd h2.symm h0
  | cons c r =>
    have e0 : gt (c :: r) 0 = some c := rfl
    rw [e0,bindO_s,c48b]
    rw [zG,zE] at h1
    refine TotX.ite (λq=>?_) (λq=>.ret ?_)
    · have hc : c = 48 := by simpa using q
      subst hc
      have : cutF (48 :: r) 1 = some r := by
        unfold cutF
        rw [if_neg (by simp; omega)]; rfl
      rw [this,bindO_s]
      refine .go ⟨r.length,by simp,rfl,h1.2,?_⟩
      rw [← h2]
      show num r = numA 0 (48 :: r)
      rw [numA_cons]; rfl
    · have hc : c ≠ 48 := by simpa using q
      rw [← h2]
      exact (dd_uniq _ _ rfl ⟨by rw [zG,h1.1,h1.2]; rfl,by simp,λ_=>by simpa using hc⟩).symm
set_option maxHeartbeats 1000000 in
theorem r01_Format_eq {z : Int} {n : Nat} (hz : Bd n z) (hn : n ≤ 1000) : r01_Format (ofI z) = some (txtZ z) := by
 apply Tot.get
 unfold r01_Format
 have hl := hz.len
 refine Tot.ite (λq=>?_) (λq=>?_)
 ·have h0 : z = 0 := ofI_len0.1 (by simp only [beq_iff_eq] at q; omega)
  subst h0
  exact .ok (by unfold txtZ; rw [show (0 : Int).natAbs = 0 from rfl,dd_small (by omega)]; rfl)
 ·have hz0 : z ≠ 0 := λy=>by rw [y] at q; simp [ofI,toL_zero] at q
  have ho := ofI_okL z
  have hv := ofI_val z
  rw [ofI_negv]
  generalize (ofI z).Limbs = l at *
  refine Tot.bind (E := λv=>v.all isD = true ∧ num v = z.natAbs ∧ v.length ≤ 9 * l.length) (Tot.guard (okIdx_of (by omega)) (Tot.range (λi v=>v.all isD = true ∧ v.length = 9 * i ∧ (num v : Int) = val (l.take i)) _ ⟨rfl,rfl,rfl⟩ (λi e out hx hr=>?_) (λout hr=>.ok ?_))) (λout hr=>?_)
  ·obtain ⟨r1,r2,r3⟩ := hr
   have hil := getElem_lt hx
   have he := okL_get ho hx
   obtain ⟨m,rfl⟩ := Int.eq_ofNat_of_zero_le he.1
   have hm : m < 1000000000 := by omega
   rw [q10 m (by omega),q10 (m / 10) (by omega),q10 (m / 10 / 10) (by omega),q10 (m / 10 / 10 / 10) (by omega),q10 (m / 10 / 10 / 10 / 10) (by omega),q10 (m / 10 / 10 / 10 / 10 / 10) (by omega),q10 (m / 10 / 10 / 10 / 10 / 10 / 10) (by omega),q10 (m / 10 / 10 / 10 / 10 / 10 / 10 / 10) (by omega)]
   simp only [d10]
   refine TotX.bind (E := λ_=>True) ?_ (λ_ _=>.go ?_)
   ·refine Tot.guard (okStr_of (by simp; omega)) (Tot.guard (okStr_of (by simp; omega)) (Tot.guard (okStr_of (by simp; omega)) (Tot.guard (okStr_of (by simp; omega)) (Tot.guard (okStr_of (by simp; omega)) (Tot.guard (okStr_of (by simp; omega)) (Tot.guard (okStr_of (by simp; omega)) (Tot.guard (okStr_of (by simp; omega)) (Tot.guard (okStr_of (by simp; omega)) (.ok trivial)))))))))
   ·show (D9 m ++ out).all isD = true ∧ (D9 m ++ out).length = 9 * (i + 1) ∧ ((num (D9 m ++ out) : Nat) : Int) = val (l.take (i + 1))
    refine ⟨by rw [zD,D9_all,r1]; rfl,by rw [zC,r2]; show 9 + 9 * i = _; omega,?_⟩
    rw [num_app,D9_num m hm,r2,val_take_one hx,← r3,pw_ten,Int.natCast_add,zH]
    omega
  ·obtain ⟨r1,r2,r3⟩ := hr
   rw [List.take_of_length_le (Nat.le_refl _),hv] at r3
   exact ⟨r1,by omega,by omega⟩
  ·obtain ⟨r1,r2,r3⟩ := hr
   rw [strip0 r1 (by omega) (by omega),bindO_s,r2]
   have hdl : (Lib.decDigits z.natAbs).length ≤ 9 * l.length + 1 := by
    have h1 := num_lt out r1
    rw [r2] at h1
    exact dd_lenB (Nat.lt_of_lt_of_le h1 (zK (by omega) (by omega))) (by omega)
   refine Tot.bind (E := λv=>v = txtZ z) (Tot.ite (λy=>?_) (λy=>.ok ?_)) (λv hv'=>.ok hv')
   ·refine Tot.guard (okStr_of (by simp; omega)) (.ok ?_)
    unfold txtZ
    rw [if_pos (by simpa using y)]
   ·unfold txtZ
    rw [if_neg (by simpa using y)]; rfl
end Go.Proofs.YtjamgiobipdfhaaGreatDoor
namespace Go.Proofs.YtjamgiobipdfhaaGreatDoor
open Go.RowKit
set_option linter.unusedVariables false
set_option linter.unusedSimpArgs false
theorem parseU_eq : ∀ (l : List UInt8) (a : Nat),l.all isD = true → a ≤ 18446744073709551615 → Lib.parseUintM 18446744073709551615 a l = if numA a l ≤ 18446744073709551615 then .ok (numA a l) else .range
 | [],a,_,h=>by
  show Lib.NumEnd.ok a = _
  rw [numA_nil,if_pos h]
 | c :: l,a,h,ha=>by
  simp only [zG,zE] at h
  have hc := isD_iff.1 h.1
  rw [numA_cons]
  have hge := numA_ge l (10 * a + dv c)
  have hd : dv c = c.toNat - 48 := rfl
  unfold Lib.parseUintM
  rw [if_pos hc]
  by_cases h1 : 1844674407370955162 ≤ a
  ·rw [if_pos h1,if_neg (by omega)]
  ·rw [if_neg h1]
   by_cases h2 : 18446744073709551615 < a * 10 + (c.toNat - 48)
   ·rw [if_pos h2,if_neg (by omega)]
   ·rw [if_neg h2,show a * 10 + (c.toNat - 48) = 10 * a + dv c by omega]
    exact parseU_eq l _ h.2 (by omega)
theorem parseB_eq {l : List UInt8} (h : l.all isD = true) (hne : l ≠ []) : Lib.parseUintB 64 l = if num l ≤ 18446744073709551615 then .ok (num l) else .range := by
 unfold Lib.parseUintB
 rw [if_neg hne,show (2 ^ 64 - 1 : Nat) = 18446744073709551615 by rfl]
 exact parseU_eq l 0 h (by omega)
theorem parseE {neg : Bool} {D : List UInt8} (h : D.all isD = true) (hne : D ≠ []) (hl : D.length ≤ 1000000) : ∃ r : Int × Bool,strconv_ParseIntE ((if neg = true then [45] else []) ++ D) 10 64 = some r ∧ (r.2 = true → r.1 = signI neg (num D) ∧ -9223372036854775808 ≤ signI neg (num D) ∧ signI neg (num D) ≤ 9223372036854775807) ∧ (r.2 = false → ¬ (-9223372036854775808 ≤ signI neg (num D) ∧ signI neg (num D) ≤ 9223372036854775807)) := by
 have hg : ((10 : Int) == 10 && ((64 : Int) == 64 && decide (((if neg = true then ([45] : List UInt8) else []) ++ D).length ≤ 281474976710656))) = true := by
  have := lenS neg
  simp; omega
 unfold strconv_ParseIntE
 rw [hg,guardO_t]
 have hB := parseB_eq h hne
 have e64 : (2 ^ (64 - 1) : Nat) = 9223372036854775808 := rfl
 cases neg with
 | true =>
  have hP : Lib.parseIntB 64 ((if true = true then ([45] : List UInt8) else []) ++ D) = Lib.signedC (2 ^ (64 - 1)) (Lib.parseUintB 64 D) := Lib.parseIntB_minus 64 D
  rw [hP,hB,e64]
  by_cases h1 : num D ≤ 18446744073709551615
  ·rw [if_pos h1]
   by_cases h2 : 9223372036854775808 < num D
   ·have : Lib.signedC 9223372036854775808 (.ok (num D)) = .range := by show (if _ then _ else _) = _; rw [if_pos h2]
    rw [this]
    refine ⟨_,rfl,(λz=>by cases z),λ_ z=>?_⟩
    unfold signI at z
    simp at z; omega
   ·have : Lib.signedC 9223372036854775808 (.ok (num D)) = .ok (-(num D : Int)) := by show (if _ then _ else _) = _; rw [if_neg h2]
    rw [this]
    refine ⟨_,rfl,λ_=>?_,(λz=>by cases z)⟩
    unfold signI
    simp; omega
  ·rw [if_neg h1]
   refine ⟨_,rfl,(λz=>by cases z),λ_ z=>?_⟩
   unfold signI at z
   simp at z; omega
 | false =>
  have hP : Lib.parseIntB 64 ((if false = true then ([45] : List UInt8) else []) ++ D) = Lib.signlessC (2 ^ (64 - 1)) (Lib.parseUintB 64 D) := by
   cases D with
   | nil=>exact absurd rfl hne
   | cons c r =>
    have hc := isD_iff.1 (List.all_eq_true.1 h c (by simp))
    exact Lib.parseIntB_plain 64 c r (by omega) (by omega)
  rw [hP,hB,e64]
  by_cases h1 : num D ≤ 18446744073709551615
  ·rw [if_pos h1]
   by_cases h2 : 9223372036854775808 ≤ num D
   ·have : Lib.signlessC 9223372036854775808 (.ok (num D)) = .range := by show (if _ then _ else _) = _; rw [if_pos h2]
    rw [this]
    refine ⟨_,rfl,(λz=>by cases z),λ_ z=>?_⟩
    unfold signI at z
    simp at z; omega
   ·have : Lib.signlessC 9223372036854775808 (.ok (num D)) = .ok (num D : Int) := by show (if _ then _ else _) = _; rw [if_neg h2]
    rw [this]
    refine ⟨_,rfl,λ_=>?_,(λz=>by cases z)⟩
    unfold signI
    simp; omega
  ·rw [if_neg h1]
   refine ⟨_,rfl,(λz=>by cases z),λ_ z=>?_⟩
   unfold signI at z
   simp at z; omega
theorem zer_num (l : List UInt8) (k : Nat) : num (l ++ zer k) = num l * 10 ^ k := by rw [num_app,num_zer,zer_len]; omega
def mmL (neg : Bool) (w p : List UInt8) : Int := signI neg (num (w ++ p)) * ten (3 - p.length)
def mmRes (neg : Bool) (w p : List UInt8) (pt : Bool) : Int × Int := if (okD neg w p pt && decide (p.length ≤ 3)) = true then (if mmL neg w p > 10000000 ∨ mmL neg w p < -10000000 then (0,11) else (mmL neg w p,0)) else (0,2)
theorem sign_mul (neg : Bool) (n k : Nat) : signI neg (n * 10 ^ k) = signI neg n * ten k := by
 unfold signI ten
 cases neg with
 | true=>simp only [if_true]; rw [zH,Int.neg_mul]
 | false=>simp only [Bool.false_eq_true,if_false]; rw [zH]
theorem dc_FromMillimetres_eq {s : List UInt8} {neg : Bool} {b w p : List UInt8} {pt : Bool} (hs : strip s = (neg,b)) (hc : cutV b = (w,p,pt)) (hl : s.length ≤ 20000) : dc_FromMillimetres s = some (mmRes neg w p pt) := by
 have hbl : b.length ≤ s.length := by have := strip_len s; rw [hs] at this; exact this
 obtain ⟨hbw,hpt⟩ := cutV_len hc
 have hwl : w.length + p.length ≤ b.length := by
  rw [hbw]
  cases pt with
  | true=>simp <;> omega
  | false=>rw [hpt rfl]; simp
 unfold dc_FromMillimetres
 rw [dc_digits_eq hs hc (by omega),bindO_s]
 unfold mmRes okD
 cases hg : goodB w p pt with
 | false=>rfl
 | true =>
  obtain ⟨g1,g2,g3,g4,g5⟩ := good_all hg hpt
  have hall : (w ++ p).all isD = true := by rw [zD,g1,g3]; rfl
  have hll := (tw_len (· == 48) (w ++ p)).2
  rw [zC] at hll
  have hll' : (lz (w ++ p)).length ≤ w.length + p.length := hll
  -- the digits that are read
  have key : ∀ D : List UInt8,D.all isD = true → D ≠ [] → num D = num (w ++ p) → D.length ≤ 20001 → p.length ≤ 3 →
    (bindO (strings_Repeat [48] (zQ.wrap (3 - (p.length : Int)))) λ(y2 : (List UInt8)) =>
  guardO (okStr ((if neg = true then [45] else []) ++ D) y2) (
  bindO (strconv_ParseIntE (((if neg = true then [45] else []) ++ D) ++ y2) 10 64) λ(y3 : Int × Bool) =>
  if (!y3.2 || ((decide (y3.1 > 10000000)) || (decide (y3.1 < (-10000000))))) = true then
   some ((0,11) : Int × Int)
  else
   some (y3.1,0))) = some (if mmL neg w p > 10000000 ∨ mmL neg w p < -10000000 then (0,11) else (mmL neg w p,0)) := by
   intro D h1 h2 h3 h4 h5
   have e3 : zQ.wrap (3 - (p.length : Int)) = ((3 - p.length : Nat) : Int) := by rw [wI64 (by omega) (by omega)]; omega
   have hsl := lenS neg
   rw [e3,rep_zero (by omega),bindO_s,okStr_of (by rw [zer_len,zC]; omega),guardO_t,zF]
   have hD : (D ++ zer (3 - p.length)).all isD = true := by rw [zD,h1,zer_dig]; rfl
   obtain ⟨r,r1,r2,r3⟩ := parseE (neg := neg) hD (by simp [h2]) (by rw [zC,zer_len]; omega)
   have hV : signI neg (num (D ++ zer (3 - p.length))) = mmL neg w p := by rw [zer_num,h3,sign_mul]; rfl
   rw [hV] at r2 r3
   rw [r1,bindO_s]
   cases hr : r.2 with
   | true =>
    obtain ⟨r4,_⟩ := r2 hr
    rw [r4]
    simp only [zM,zN]
    by_cases z : mmL neg w p > 10000000 ∨ mmL neg w p < -10000000
    ·rw [if_pos z,if_pos (by simpa using z)]
    ·rw [if_neg z,if_neg (by simpa using z)]
   | false =>
    have := r3 hr
    rw [if_pos (by simp),if_pos (by omega)]
  by_cases hz : lz (w ++ p) = []
  ·rw [if_pos rfl,if_pos hz]
   have hn0 : num (w ++ p) = 0 := by rw [← num_lz,hz]; rfl
   cases neg with
   | true=>simp [hz]
   | false =>
    simp only [Bool.not_false,zM,zN,Bool.true_or,zP,zI]
    by_cases h3 : p.length ≤ 3
    ·rw [decide_eq_false (show ¬ (p.length : Int) > 3 by omega),decide_eq_true h3,if_neg (by simp),if_pos rfl]
     exact key [48] rfl (by simp) (by rw [hn0]; rfl) (by simp) h3
    ·rw [decide_eq_true (show (p.length : Int) > 3 by omega),decide_eq_false h3,if_pos rfl,if_neg (by simp)]
  ·rw [if_pos rfl,if_neg hz]
   have hne : (!(lz (w ++ p)).isEmpty) = true := by
    cases hq : lz (w ++ p) with
    | nil=>exact absurd hq hz
    | cons c r=>rfl
   rw [hne,Bool.or_true,zP]
   dsimp only
   simp only [zM,zN,zI]
   by_cases h3 : p.length ≤ 3
   ·rw [decide_eq_false (show ¬ (p.length : Int) > 3 by omega),decide_eq_true h3,if_neg (by simp),if_pos rfl]
    exact key (lz (w ++ p)) (lz_all hall) hz (num_lz _) (by omega) h3
   ·rw [decide_eq_true (show (p.length : Int) > 3 by omega),decide_eq_false h3,if_pos rfl,if_neg (by simp)]
theorem r01_Int64_eq {z : Int} {n : Nat} (hz : Bd n z) (hn : n ≤ 1000) : r01_Int64 (ofI z) = some (if -9223372036854775808 ≤ z ∧ z ≤ 9223372036854775807 then (z,true) else (0,false)) := by
 have hl := hz.len
 have h1 : Bd 3 (-9223372036854775808) := Bd.i64 (by omega) (by omega)
 have h2 : Bd 3 (9223372036854775807) := Bd.i64 (by omega) (by omega)
 apply Tot.get
 unfold r01_Int64
 rw [r01_FromInt64_eq (by omega) (by omega),bindO_s,r01_FromInt64_eq (by omega) (by omega),bindO_s]
 refine Tot.bind (E := λv=>v = !decide (-9223372036854775808 ≤ z ∧ z ≤ 9223372036854775807)) ?_ (λv hv=>?_)
 ·rw [r01_Cmp_eq hz h1 (by omega) (by omega),bindO_s,sg_dec,r01_Cmp_eq hz h2 (by omega) (by omega),bindO_s,sg_decP]
  refine Tot.ite (λq=>.ok ?_) (λq=>.ok ?_)
  ·simp only [decide_eq_true_eq] at q
   rw [decide_eq_false (by omega)]; rfl
  ·simp only [decide_eq_false_iff_not] at q
   by_cases y : z ≤ 9223372036854775807
   ·rw [decide_eq_false (show ¬ z - 9223372036854775807 > 0 by omega),decide_eq_true (by omega)]; rfl
   ·rw [decide_eq_true (show z - 9223372036854775807 > 0 by omega),decide_eq_false (by omega)]; rfl
 ·subst hv
  by_cases y : -9223372036854775808 ≤ z ∧ z ≤ 9223372036854775807
  ·rw [decide_eq_true y,if_pos y]
   refine Tot.ite (λq=>by cases q) (λ_=>?_)
   rw [r01_short_eq (ofI_okL z) (by omega) (by rw [ofI_val]; omega),bindO_s,ofI_val,ofI_negv]
   refine Tot.ite (λq=>.ok ?_) (λq=>.ok ?_)
   ·have q' : z < 0 := by simpa using q
    congr 1
    unfold IntKind.wrap
    simp [IntKind.signed,IntKind.bits]
    omega
   ·have q' : ¬ z < 0 := by simpa using q
    rw [wI64 (by omega) (by omega)]
    congr 1
    omega
  ·rw [decide_eq_false y,if_neg y]
   exact .ok rfl
theorem r06_within_eq {z : Int} {n : Nat} (hz : Bd n z) (hn : n ≤ 1000) : r06_within (ofI z) = some (if -9223372036854775808 ≤ z ∧ z ≤ 9223372036854775807 then z else 0,decide (-10000000 ≤ z ∧ z ≤ 10000000)) := by
 unfold r06_within
 rw [r01_Int64_eq hz hn,bindO_s]
 by_cases y : -9223372036854775808 ≤ z ∧ z ≤ 9223372036854775807
 ·rw [if_pos y,if_pos y]
  congr 2
  dsimp only
  rw [zI]
  by_cases t : -10000000 ≤ z ∧ z ≤ 10000000
  ·rw [decide_eq_true t,decide_eq_true (show z ≥ -10000000 by omega),decide_eq_true (show z ≤ 10000000 by omega)]; rfl
  ·rw [decide_eq_false t]
   by_cases u : z ≥ -10000000
   ·rw [decide_eq_true u,decide_eq_false (by omega)]; rfl
   ·rw [decide_eq_false u]; rfl
 ·rw [if_neg y,if_neg y]
  congr 2
  rw [show decide (-10000000 ≤ z ∧ z ≤ 10000000) = false from decide_eq_false (by omega)]; rfl
theorem r06_FromMillimetres_eq {s : List UInt8} {neg : Bool} {b w p : List UInt8} {pt : Bool} (hs : strip s = (neg,b)) (hc : cutV b = (w,p,pt)) (hl : s.length ≤ 800) : r06_FromMillimetres s = some (mmRes neg w p pt) := by
 have hbl : b.length ≤ s.length := by have := strip_len s; rw [hs] at this; exact this
 obtain ⟨hbw,hpt⟩ := cutV_len hc
 have hwl : w.length + p.length ≤ b.length := by
  rw [hbw]
  cases pt with
  | true=>simp <;> omega
  | false=>rw [hpt rfl]; simp
 unfold r06_FromMillimetres
 rw [r06_Places_eq hs hc (by omega),bindO_s,r06_Parse_eq hs hc (by omega)]
 unfold mmRes
 cases ho : okD neg w p pt with
 | false=>rfl
 | true =>
  have ho' := ho
  unfold okD at ho'
  rw [zE] at ho'
  obtain ⟨g1,g2,g3,g4,g5⟩ := good_all ho'.1 hpt
  have hall : (w ++ p).all isD = true := by rw [zD,g1,g3]; rfl
  simp only [if_true,zI]
  rw [decide_eq_false (show ¬ (p.length : Int) < 0 by omega)]
  by_cases h3 : p.length ≤ 3
  ·rw [decide_eq_false (show ¬ (p.length : Int) > 3 by omega),decide_eq_true h3,if_neg (by simp),if_pos rfl,bindO_s]
   dsimp only
   have hbn := Bd_num hall
   rw [zC] at hbn
   have hQ : BQ (w.length + p.length + 1) (decQ neg w p) := divInt_BQ (Bd_sign hbn) ((Bd_ten _).mono (by omega)) (Int.ne_of_gt (ten_pos _))
   have hM := hQ.mul (BQ_ten 3)
   have hval : decQ neg w p * ((ten 3 : Int) : Rat) = ((mmL neg w p : Int) : Rat) := by
    have ht : ((ten p.length : Int) : Rat) ≠ 0 := λz=>by
     have := Rat.intCast_eq_zero_iff.1 z
     have := ten_pos p.length
     omega
    have h33 : ten 3 = ten (3 - p.length) * ten p.length := by
     unfold ten
     rw [← zH,← Nat.pow_add,show 3 - p.length + p.length = 3 by omega]
    unfold decQ mmL
    rw [Rat.divInt_eq_div,h33,Rat.intCast_mul,Rat.intCast_mul]
    have h1 := Rat.div_mul_cancel (a := ((signI neg (num (w ++ p)) : Int) : Rat)) ht
    generalize ((signI neg (num (w ++ p)) : Int) : Rat) / ((ten p.length : Int) : Rat) = X at *
    rw [← h1]; grind
   rw [show r06_Power 3 = some (ofQ ((ten 3 : Int) : Rat)) from r06_Power_eq (n := 3) (by omega),bindO_s,r02_Mul_eq hQ (BQ_ten 3) (by omega),bindO_s,r02_Floor_eq hM (by omega),bindO_s,hval,Rat.floor_intCast]
   have hVb : Bd (w.length + p.length + 1 + (3 + 1)) (mmL neg w p) := by
    have := hM.1
    rw [hval] at this
    exact this
   rw [r06_within_eq hVb (by omega),bindO_s]
   dsimp only
   by_cases y : -10000000 ≤ mmL neg w p ∧ mmL neg w p ≤ 10000000
   ·rw [decide_eq_true y,if_neg (by simp),if_pos (by omega),if_neg (by omega)]
   ·rw [decide_eq_false y,if_pos (by rfl),if_pos (by omega)]
  ·rw [decide_eq_true (show (p.length : Int) > 3 by omega),decide_eq_false h3,if_pos (by simp),if_neg (by simp)]
end Go.Proofs.YtjamgiobipdfhaaGreatDoor
namespace Go.Proofs.YtjamgiobipdfhaaGreatDoor
open Go.RowKit
set_option linter.unusedVariables false
set_option linter.unusedSimpArgs false
def padT (d : List UInt8) (k : Nat) : List UInt8 := zer (k + 1 - d.length) ++ d
def intP (d : List UInt8) (k : Nat) : List UInt8 := (padT d k).take ((padT d k).length - k)
def frcP (d : List UInt8) (k : Nat) : List UInt8 := (padT d k).drop ((padT d k).length - k)
def ptxt (z : Int) (k : Nat) : List UInt8 := (if z < 0 then [45] else []) ++ (if k = 0 then Lib.decDigits z.natAbs else intP (Lib.decDigits z.natAbs) k ++ [46] ++ frcP (Lib.decDigits z.natAbs) k)
theorem padT_len (d : List UInt8) (k : Nat) : (padT d k).length = max d.length (k + 1) := by
 unfold padT; rw [zC,zer_len]; omega
theorem txtZ_len {z : Int} {n : Nat} (hz : Bd n z) (hn : 1 ≤ n) : (Lib.decDigits z.natAbs).length ≤ 9 * n := by
 unfold Bd at hz
 rw [pw_ten] at hz
 exact dd_lenB (by omega) (by omega)
theorem cut_point {sg' v : List UInt8} {k : Nat} (hv : k ≤ v.length) (hs : sg'.length ≤ 1) (hl : v.length ≤ 10000) : Tot (bindO (cutT v (zQ.wrap ((v.length : Int) - (k : Int)))) λ(s2 : (List UInt8)) =>
  guardO (okStr sg' s2) (
  guardO (okStr (sg' ++ s2) [46]) (
  bindO (cutF v (zQ.wrap ((v.length : Int) - (k : Int)))) λ(s3 : (List UInt8)) =>
  guardO (okStr ((sg' ++ s2) ++ [46]) s3) (
  some (((sg' ++ s2) ++ [46]) ++ s3))))) (λe=>e = sg' ++ (v.take (v.length - k) ++ [46] ++ v.drop (v.length - k))) := by
 have e : zQ.wrap ((v.length : Int) - (k : Int)) = ((v.length - k : Nat) : Int) := by rw [wI64 (by omega) (by omega)]; omega
 rw [e,cutT_k (by omega),bindO_s]
 have hc : cutF v ((v.length - k : Nat) : Int) = some (v.drop (v.length - k)) := by
  unfold cutF
  rw [if_neg (by omega),Int.toNat_natCast]
 refine Tot.guard (okStr_of (by simp; omega)) (Tot.guard (okStr_of (by simp; omega)) ?_)
 rw [hc,bindO_s]
 refine Tot.guard (okStr_of (by simp; omega)) (.ok (by simp only [zF]))
theorem cut1 {l : List UInt8} : cutF (45 :: l) 1 = some l := by
 unfold cutF
 rw [if_neg (by simp; omega)]; rfl
theorem r06_shown_eq {z : Int} {n k : Nat} (hz : Bd n z) (hn : n ≤ 900) (hn1 : 1 ≤ n) (hk : k ≤ 30) : r06_shown (ofI z) (k : Int) = some (ptxt z k) := by
 have hdl := txtZ_len hz hn1
 have hdn : 1 ≤ (Lib.decDigits z.natAbs).length := List.length_pos_iff.2 (dd_ne _)
 apply Tot.get
 unfold r06_shown
 rw [r01_Format_eq hz (by omega),bindO_s]
 have hc : ∃ c,gt (txtZ z) 0 = some c ∧ (c == 45) = decide (z < 0) := by
  unfold txtZ
  by_cases h : z < 0
  ·rw [if_pos h,decide_eq_true h]; exact ⟨45,rfl,rfl⟩
  ·rw [if_neg h,decide_eq_false h]
   cases hd : Lib.decDigits z.natAbs with
   | nil=>exact absurd hd (dd_ne _)
   | cons c r =>
    refine ⟨c,rfl,?_⟩
    have := List.all_eq_true.1 (dd_dig z.natAbs) c (by rw [hd]; simp)
    exact beq_eq_false_iff_ne.2 (dig_ne this).2
 obtain ⟨c,hc1,hc2⟩ := hc
 rw [hc1,bindO_s,c45,hc2]
 refine Tot.bind (E := λv=>v = (Lib.decDigits z.natAbs,if z < 0 then [45] else [])) (Tot.ite (λq=>?_) (λq=>.ok ?_)) (λv hv=>?_)
 ·have q' : z < 0 := by simpa using q
  unfold txtZ
  rw [if_pos q']
  show Tot (bindO (cutF (45 :: Lib.decDigits z.natAbs) 1) _) _
  rw [cut1,bindO_s]
  exact .ok rfl
 ·have q' : ¬ z < 0 := by simpa using q
  unfold txtZ
  rw [if_neg q']; rfl
 ·subst hv
  dsimp only
  have hsl : (if z < 0 then ([45] : List UInt8) else []).length ≤ 1 := by split <;> simp
  unfold ptxt
  generalize (if z < 0 then ([45] : List UInt8) else []) = sg' at *
  generalize Lib.decDigits z.natAbs = d at *
  refine Tot.bind (E := λv=>v = padT d k) (Tot.loop (λm v=>∃ j : Nat,v = zer j ++ d ∧ m + j = k + 1 - d.length) _ (k + 1 - d.length) (fuel_gt (by omega)) ⟨0,rfl,rfl⟩ (λm v hv=>?_)) (λv hv=>?_)
  ·obtain ⟨j,rfl,hj⟩ := hv
   have hlj : (zer j ++ d).length = j + d.length := by rw [zC,zer_len]
   rw [hlj]
   refine TotX.ite (λq=>?_) (λq=>.ret ?_)
   ·have q' : j + d.length ≤ k := by simp at q; omega
    refine TotX.guard (okStr_of (by rw [hlj]; simp; omega)) (.go ⟨m - 1,by omega,j + 1,?_,by omega⟩)
    show 48 :: (zer j ++ d) = zer (j + 1) ++ d
    unfold zer
    rw [List.replicate_succ]; rfl
   ·have q' : ¬ j + d.length ≤ k := by simp at q; omega
    unfold padT
    rw [show j = k + 1 - d.length by omega]
  ·subst hv
   have hp := padT_len d k
   refine Tot.ite (λq=>?_) (λq=>?_)
   ·have q' : k = 0 := by simpa using q
    rw [if_pos q']
    have : padT d k = d := by unfold padT; rw [show k + 1 - d.length = 0 by omega]; rfl
    rw [this]
    exact Tot.guard (okStr_of (by omega)) (.ok rfl)
   ·have q' : ¬ k = 0 := by simpa using q
    rw [if_neg q']
    exact cut_point (by omega) hsl (by omega)
end Go.Proofs.YtjamgiobipdfhaaGreatDoor
namespace Go.Proofs.YtjamgiobipdfhaaGreatDoor
open Go.RowKit
set_option linter.unusedVariables false
set_option linter.unusedSimpArgs false
def fr3 (a b c : UInt8) : List UInt8 := if c = 48 then (if b = 48 then (if a = 48 then [] else [a]) else [a,b]) else [a,b,c]
theorem trim3 (a b c : UInt8) : Lib.trimRightB [a,b,c] 48 = fr3 a b c := by
 unfold Lib.trimRightB fr3
 by_cases hc : c = 48
 ·by_cases hb : b = 48
  ·by_cases ha : a = 48
   ·simp [hc,hb,ha]
   ·simp [hc,hb,ha]
  ·simp [hc,hb]
 ·simp [hc]
def d3 (r : Nat) : UInt8 × UInt8 × UInt8 := (UInt8.ofNat (48 + r / 100),UInt8.ofNat (48 + r / 10 % 10),UInt8.ofNat (48 + r % 10))
theorem dd_1000 {r : Nat} (h : r < 1000) : (Lib.decDigits (1000 + r)).drop 1 = [(d3 r).1,(d3 r).2.1,(d3 r).2.2] := by
 rw [dd_big (by omega),dd_big (by omega),dd_big (by omega),dd_small (by omega)]
 simp only [zF,List.cons_append,List.nil_append,List.drop_succ_cons,List.drop_zero,d3]
 rw [show (1000 + r) / 10 / 10 % 10 = r / 100 by omega,show (1000 + r) / 10 % 10 = r / 10 % 10 by omega,show (1000 + r) % 10 = r % 10 by omega]
def frac (r : Nat) : List UInt8 := fr3 (d3 r).1 (d3 r).2.1 (d3 r).2.2
def txtU (u : Nat) : List UInt8 := Lib.decDigits (u / 1000) ++ (if u % 1000 = 0 then [] else 46 :: frac (u % 1000))
def txtV (n : Int) : List UInt8 := (if n < 0 then [45] else []) ++ txtU n.natAbs
theorem trimR (s : List UInt8) (h : s.length ≤ 9223372036854775807) : strings_TrimRight s [48] = some (Lib.trimRightB s 48) := by
 show guardO (decide ((48 : UInt8).toNat < 128) && decide (s.length ≤ 9223372036854775807)) _ = _
 rw [show (decide ((48 : UInt8).toNat < 128) && decide (s.length ≤ 9223372036854775807)) = true by simp; omega,guardO_t]
theorem fr3_len (a b c : UInt8) : (fr3 a b c).length ≤ 3 := by
 unfold fr3; split
 ·split
  ·split <;> simp
  ·simp
 ·simp
theorem abs_wrap (n : Int) (h1 : -9223372036854775808 ≤ n) (h2 : n ≤ 9223372036854775807) : (if (decide (n < 0)) = true then
        some (([45] : List UInt8),zR.wrap (0 - (zR.wrap n)))
      else
        some ([],zR.wrap n)) = some (if n < 0 then [45] else [],(n.natAbs : Int)) := by
  by_cases hn : n < 0
  · rw [decide_eq_true hn,if_pos rfl,if_pos hn,wrap_u64,wrap_u64]
    congr 2
    omega
  · rw [decide_eq_false hn,if_neg (by simp),if_neg hn,wrap_u64]
    congr 2
    omega
theorem dc_Millimetres_eq (n : Int) (h1 : -9223372036854775808 ≤ n) (h2 : n ≤ 9223372036854775807) : dc_Millimetres n = some (txtV n) := by
 unfold dc_Millimetres
 rw [abs_wrap n h1 h2,bindO_s]
 obtain ⟨u,hu⟩ : ∃ u,u = n.natAbs := ⟨_,rfl⟩
 obtain ⟨sg,hsg⟩ : ∃ sg : List UInt8,sg = if n < 0 then [45] else [] := ⟨_,rfl⟩
 have hu2 : u ≤ 9223372036854775808 := by omega
 have hsl : sg.length ≤ 1 := by rw [hsg]; split <;> simp
 unfold txtV txtU
 rw [← hu,← hsg]
 simp only
 have e1 : zR.wrap (Int.tdiv (u : Int) 1000) = ((u / 1000 : Nat) : Int) := by
  rw [wrap_u64,Int.tdiv_eq_ediv_of_nonneg (by omega)]; omega
 have e2 : Int.tmod (u : Int) 1000 = ((u % 1000 : Nat) : Int) := by
  rw [Int.tmod_eq_emod_of_nonneg (by omega)]; omega
 have hl := dd_len (u / 1000) (by omega)
 rw [e1,fmtU (u / 1000) (by omega),bindO_s,okStr_of (by omega),guardO_t,e2]
 by_cases hr : u % 1000 = 0
 ·rw [hr]; simp
 ·rw [show (((u % 1000 : Nat) : Int) != 0) = true from bne_iff_ne.2 (by omega),if_pos rfl,if_neg hr]
  have e3 : zR.wrap (1000 + ((u % 1000 : Nat) : Int)) = ((1000 + u % 1000 : Nat) : Int) := by rw [wrap_u64]; omega
  have hr2 : u % 1000 < 1000 := zJ _ (by omega)
  have hd := dd_1000 hr2
  have hl2 := dd_len (1000 + u % 1000) (by omega)
  rw [e3,fmtU _ (by omega),bindO_s]
  have hc : cutF (Lib.decDigits (1000 + u % 1000)) 1 = some ((Lib.decDigits (1000 + u % 1000)).drop 1) := by
   unfold cutF
   rw [if_neg]
   ·rfl
   ·have := List.length_pos_iff.2 (dd_ne (1000 + u % 1000))
    omega
  have hf := fr3_len (d3 (u % 1000)).1 (d3 (u % 1000)).2.1 (d3 (u % 1000)).2.2
  rw [hc,bindO_s,trimR _ (by simp; omega),bindO_s,hd,trim3,okStr_of (by simp; omega),guardO_t,okStr_of (by simp; omega),guardO_t]
  simp [frac]
theorem fr3_dig (a b c : UInt8) (ha : isD a = true) (hb : isD b = true) (hc : isD c = true) : (fr3 a b c).all isD = true := by
 unfold fr3
 split
 ·split
  ·split <;> simp [ha]
  ·simp [ha,hb]
 ·simp [ha,hb,hc]
theorem d3_dig {r : Nat} (h : r < 1000) : isD (d3 r).1 = true ∧ isD (d3 r).2.1 = true ∧ isD (d3 r).2.2 = true := ⟨isD_of (by omega),isD_of (by omega),isD_of (by omega)⟩
theorem txtU_form (u : Nat) : txtU u = Lib.decDigits (u / 1000) ++ (if (decide (u % 1000 ≠ 0)) = true then 46 :: (if u % 1000 = 0 then [] else frac (u % 1000)) else []) := by
 unfold txtU
 by_cases h : u % 1000 = 0
 ·rw [if_pos h,if_neg (by simp [h])]
 ·rw [if_neg h,if_pos (by simpa using h),if_neg h]
theorem num_cons (c : UInt8) (l : List UInt8) : num (c :: l) = dv c * 10 ^ l.length + num l := by
 show numA 0 (c :: l) = _
 rw [numA_cons,numA_eq]; simp
theorem digs_eq : ∀ (l m : List UInt8),l.length = m.length → l.all isD = true → m.all isD = true → num l = num m → l = m
 | [],[],_,_,_,_=>rfl
 | [],_ :: _,h,_,_,_=>by simp at h
 | _ :: _,[],h,_,_,_=>by simp at h
 | c :: l,d :: m,h,h1,h2,h3=>by
  have hl : l.length = m.length := by simpa using h
  rw [zG,zE] at h1 h2
  rw [num_cons,num_cons,hl] at h3
  have b1 := num_lt l h1.2
  have b2 := num_lt m h2.2
  rw [hl] at b1
  have hp := pow10_pos m.length
  have e1 : dv c = dv d := by
   rcases Nat.lt_trichotomy (dv c) (dv d) with z | z | z
   ·have := zL (10 ^ m.length) (show dv c + 1 ≤ dv d from z)
    rw [Nat.add_mul] at this; omega
   ·exact z
   ·have := zL (10 ^ m.length) (show dv d + 1 ≤ dv c from z)
    rw [Nat.add_mul] at this; omega
  rw [e1] at h3
  have e2 := digs_eq l m hl h1.2 h2.2 (by omega)
  rw [e2,← of_dv h1.1,← of_dv h2.1,e1]
theorem ptxt_form {z : Int} {k : Nat} (hk : k ≠ 0) {P : List UInt8} (hP : P.all isD = true) (hl : P.length = k) (hn : num P = z.natAbs % 10 ^ k) : ptxt z k = (if z < 0 then [45] else []) ++ (Lib.decDigits (z.natAbs / 10 ^ k) ++ 46 :: P) := by
 unfold ptxt
 rw [if_neg hk]
 have hdD := dd_dig z.natAbs
 have hdN := dd_num z.natAbs
 have hdc := dd_can z.natAbs
 have hdn : 1 ≤ (Lib.decDigits z.natAbs).length := List.length_pos_iff.2 (dd_ne _)
 generalize Lib.decDigits z.natAbs = d at *
 have hp := padT_len d k
 have hpD : (padT d k).all isD = true := by unfold padT; rw [zD,zer_dig,hdD]; rfl
 have hpN : num (padT d k) = z.natAbs := by unfold padT; rw [num_app,num_zer,hdN]; omega
 have hcat : intP d k ++ frcP d k = padT d k := List.take_append_drop _ _
 have hwl : (intP d k).length = (padT d k).length - k := by unfold intP; simp
 have hpl : (frcP d k).length = k := by unfold frcP; simp; omega
 have hall : (intP d k ++ frcP d k).all isD = true := by rw [hcat]; exact hpD
 rw [zD,zE] at hall
 have hnum : num (intP d k) * 10 ^ k + num (frcP d k) = z.natAbs := by rw [← hpN,← hcat,num_app,hpl]
 have hfl := num_lt _ hall.2
 rw [hpl] at hfl
 have hpp := pow10_pos k
 have hdm := Nat.div_add_mod z.natAbs (10 ^ k)
 have hml := zJ z.natAbs (show 0 < 10 ^ k by omega)
 have hi : num (intP d k) = z.natAbs / 10 ^ k := by
  rw [← hnum,Nat.mul_comm,Nat.mul_add_div (by omega),Nat.div_eq_of_lt hfl,Nat.add_zero]
 have hf : num (frcP d k) = z.natAbs % 10 ^ k := by
  rw [← hnum,Nat.mul_comm,Nat.mul_add_mod,Nat.mod_eq_of_lt hfl]
 have e1 : frcP d k = P := digs_eq _ _ (by rw [hpl,hl]) hall.2 hP (by rw [hf,hn])
 have e2 : intP d k = Lib.decDigits (z.natAbs / 10 ^ k) := by
  rw [← hi]
  refine (dd_uniq _ _ rfl ⟨hall.1,λy=>by rw [y] at hwl; simp at hwl; omega,λy=>?_⟩).symm
  have hno : padT d k = d := by unfold padT; rw [show k + 1 - d.length = 0 by omega]; rfl
  have hhd : (intP d k).head? = d.head? := by
   unfold intP
   rw [hno]
   cases hd : d with
   | nil=>rw [hd] at hdn; simp at hdn
   | cons c r =>
    rw [hno,hd] at hwl
    have : (c :: r).length - k ≠ 0 := by rw [hno,hd] at hp; omega
    obtain ⟨t,ht⟩ := Nat.exists_eq_succ_of_ne_zero this
    rw [ht]; rfl
  rw [hhd]
  exact hdc.2.2 (by rw [hno] at hwl; omega)
 rw [e1,e2,zF]; rfl
theorem frac_facts {r : Nat} (h : r < 1000) (h0 : r ≠ 0) : (frac r).all isD = true ∧ ((r % 10 ≠ 0 ∧ (frac r).length = 3 ∧ num (frac r) = r) ∨ (r % 10 = 0 ∧ r % 100 ≠ 0 ∧ (frac r).length = 2 ∧ num (frac r) = r / 10) ∨ (r % 100 = 0 ∧ (frac r).length = 1 ∧ num (frac r) = r / 100)) := by
 obtain ⟨a1,a2,a3⟩ := d3_dig h
 refine ⟨fr3_dig _ _ _ a1 a2 a3,?_⟩
 have hz : ∀ m,m < 10 → (UInt8.ofNat (48 + m) = 48 ↔ m = 0) := by
  intro m hm
  constructor
  ·intro e
   have := congrArg UInt8.toNat e
   rw [ofNat_toNat (by omega)] at this
   have e48 : (48 : UInt8).toNat = 48 := rfl
   omega
  ·rintro rfl; rfl
 have z1 := hz (r / 100) (by omega)
 have z2 := hz (r / 10 % 10) (by omega)
 have z3 := hz (r % 10) (by omega)
 have v1 := dv_of (show r / 100 < 10 by omega)
 have v2 := dv_of (show r / 10 % 10 < 10 by omega)
 have v3 := dv_of (show r % 10 < 10 by omega)
 unfold frac d3
 dsimp only
 unfold fr3
 by_cases c0 : r % 10 = 0
 ·rw [if_pos (z3.2 c0)]
  by_cases b0 : r / 10 % 10 = 0
  ·rw [if_pos (z2.2 b0),if_neg (λy=>by have := z1.1 y; omega)]
   right; right
   refine ⟨by omega,rfl,?_⟩
   unfold num; rw [numA_cons,numA_nil,v1]; omega
  ·rw [if_neg (λy=>b0 (z2.1 y))]
   right; left
   refine ⟨c0,by omega,rfl,?_⟩
   unfold num; rw [numA_cons,numA_cons,numA_nil,v1,v2]; omega
 ·rw [if_neg (λy=>c0 (z3.1 y))]
  left
  refine ⟨c0,rfl,?_⟩
  unfold num; rw [numA_cons,numA_cons,numA_cons,numA_nil,v1,v2,v3]; omega
theorem mm_den {n k : Int} : ((Rat.divInt n 1000).den : Int) ∣ k ↔ (1000 : Int) ∣ n * k := by
 have hq : Rat.divInt n 1000 = (n : Rat) / ((1000 : Int) : Rat) := Rat.divInt_eq_div n 1000
 have hd := den_pos (Rat.divInt n 1000)
 have hc := (Rat.divInt n 1000).reduced
 have h1 := mul_den (Rat.divInt n 1000)
 have h2 : Rat.divInt n 1000 * ((1000 : Int) : Rat) = (n : Rat) := by
  rw [hq]; exact Rat.div_mul_cancel (λz=>by have := Rat.intCast_eq_zero_iff.1 z; omega)
 generalize Rat.divInt n 1000 = q at *
 have h3 : n * q.den = q.num * 1000 := by
  have : ((n * q.den : Int) : Rat) = ((q.num * 1000 : Int) : Rat) := by
   rw [Rat.intCast_mul,Rat.intCast_mul,← h1,← h2]; grind
  exact Rat.intCast_inj.1 this
 constructor
 ·rintro ⟨c,rfl⟩
  exact ⟨q.num * c,by rw [← Int.mul_assoc,h3]; grind⟩
 ·rintro ⟨c,h4⟩
  have h5 : q.num * k = c * q.den := by
   have : 1000 * (q.num * k) = 1000 * (c * q.den) := by
    have e1 : 1000 * (q.num * k) = q.num * 1000 * k := by grind
    have e2 : 1000 * (c * (q.den : Int)) = 1000 * c * q.den := by grind
    rw [e1,e2,← h3,← h4]; grind
   omega
  have h6 : (q.den : Int) ∣ q.num * k := ⟨c,by rw [h5,Int.mul_comm]⟩
  have h7 : q.den ∣ q.num.natAbs * k.natAbs := by
   have := Int.natAbs_dvd_natAbs.2 h6
   rwa [zO,Int.natAbs_mul] at this
  have h8 := Nat.Coprime.dvd_of_dvd_mul_left (Nat.Coprime.symm hc) h7
  exact Int.natAbs_dvd_natAbs.1 (by rwa [zO])
theorem mm_num {n k m : Int} (h : n * k = 1000 * m) : (Rat.divInt n 1000 * ((k : Int) : Rat)).num = m := by
 have hq : Rat.divInt n 1000 = (n : Rat) / ((1000 : Int) : Rat) := Rat.divInt_eq_div n 1000
 have h0 : ((1000 : Int) : Rat) ≠ 0 := λz=>by have := Rat.intCast_eq_zero_iff.1 z; omega
 have h2 : Rat.divInt n 1000 * ((1000 : Int) : Rat) = (n : Rat) := by rw [hq]; exact Rat.div_mul_cancel h0
 have h3 : Rat.divInt n 1000 * (k : Rat) = (m : Rat) := by
  have h4 : ((n * k : Int) : Rat) = ((1000 * m : Int) : Rat) := by rw [h]
  rw [Rat.intCast_mul,Rat.intCast_mul,← h2] at h4
  generalize Rat.divInt n 1000 = q at *
  generalize (k : Rat) = a at *
  generalize (m : Rat) = b at *
  have h5 : ((1000 : Int) : Rat) * (q * a) = ((1000 : Int) : Rat) * b := by rw [← h4]; grind
  have h6 : q * a = ((1000 : Int) : Rat) * (q * a) / ((1000 : Int) : Rat) := by
   rw [Rat.mul_comm ((1000 : Int) : Rat) (q * a)]; exact (Rat.mul_div_cancel h0).symm
  rw [h6,h5,Rat.mul_comm ((1000 : Int) : Rat) b]; exact Rat.mul_div_cancel h0
 rw [h3]; rfl
end Go.Proofs.YtjamgiobipdfhaaGreatDoor
namespace Go.Proofs.YtjamgiobipdfhaaGreatDoor
open Go.RowKit
def exK (q : Rat) : Nat → Nat → Option Nat
 | 0,_=>none
 | f + 1,k=>if ten k % (q.den : Int) = 0 then some k else exK q f (k + 1)
def exT (q : Rat) (o : Option Nat) : List UInt8 × Bool := match o with
 | none=>([],false)
 | some k=>if (ptxt (q * ((ten k : Int) : Rat)).num k).length > 1000 then ([],false) else (ptxt (q * ((ten k : Int) : Rat)).num k,true)
theorem exK_step {q : Rat} {f k : Nat} (h : ten k % (q.den : Int) ≠ 0) : exK q (f + 1) k = exK q f (k + 1) := by
 show (if _ then _ else _) = _
 rw [if_neg h]
theorem exK_hit {q : Rat} {f k : Nat} (h : ten k % (q.den : Int) = 0) : exK q (f + 1) k = some k := by
 show (if _ then _ else _) = _
 rw [if_pos h]
theorem r06_Exact_eq {q : Rat} (hq : BQ 6 q) : r06_Exact (ofQ q) = some (exT q (exK q 31 0)) := by
 apply Tot.get
 unfold r06_Exact
 refine Tot.bindX (E := λ_=>exT q (exK q 31 0) = ([],false)) (TotX.of (Tot.loop (λm v=>∃ j : Nat,v = (j : Int) ∧ m + j = 31 ∧ exK q 31 0 = exK q m j) _ 31 (fuel_gt (by omega)) ⟨0,rfl,rfl,rfl⟩ (λm v hv=>?_))) (λv hv=>.ok hv.symm)
 obtain ⟨j,rfl,hj,he⟩ := hv
 cases m with
 | zero =>
  refine TotX.ite (λy=>absurd y (by simp; omega)) (λ_=>.ret ?_)
  rw [he]; rfl
 | succ m =>
  refine TotX.ite (λ_=>?_) (λy=>absurd y (by simp; omega))
  have hx := hq.mul (BQ_ten j)
  rw [r06_Power_eq (by omega),bindO_s,r02_Mul_eq hq (BQ_ten j) (by omega),bindO_s,r01_FromInt64_eq (by omega) (by omega),bindO_s]
  show TotX (bindO (r01_Same (ofI ((q * ((ten j : Int) : Rat)).den : Int)) (ofI 1)) _) _ _
  rw [r01_Same_eq hx.2 (by omega),bindO_s]
  have hiff : ((q * ((ten j : Int) : Rat)).den : Int) = 1 ↔ ten j % (q.den : Int) = 0 := by
   have := den_one (q := q) (k := ten j)
   constructor
   ·intro h; exact Int.emod_eq_zero_of_dvd (this.1 (by omega))
   ·intro h; have := this.2 (Int.dvd_of_emod_eq_zero h); omega
  refine TotX.ite (λy=>?_) (λy=>?_)
  ·have y' : ten j % (q.den : Int) = 0 := hiff.1 (by simpa using y)
   rw [exK_hit y'] at he
   show TotX (bindO (r06_shown (ofI (q * ((ten j : Int) : Rat)).num) (j : Int)) _) _ _
   rw [r06_shown_eq hx.1 (by omega) (by omega) (by omega),bindO_s]
   have hE : exT q (exK q 31 0) = if (ptxt (q * ((ten j : Int) : Rat)).num j).length > 1000 then ([],false) else (ptxt (q * ((ten j : Int) : Rat)).num j,true) := by rw [he]; rfl
   by_cases z : (ptxt (q * ((ten j : Int) : Rat)).num j).length > 1000
   ·rw [if_pos z] at hE
    rw [decide_eq_true (show ((ptxt (q * ((ten j : Int) : Rat)).num j).length : Int) > 1000 by omega),if_pos rfl]
    exact .ret hE.symm
   ·rw [if_neg z] at hE
    rw [decide_eq_false (show ¬ ((ptxt (q * ((ten j : Int) : Rat)).num j).length : Int) > 1000 by omega),if_neg (by simp)]
    exact .ret hE.symm
  ·have y' : ten j % (q.den : Int) ≠ 0 := λz=>by
    have := hiff.2 z
    simp at y
    omega
   rw [wI64 (by omega) (by omega)]
   exact .go ⟨m,by omega,j + 1,rfl,by omega,by rw [he,exK_step y']⟩
end Go.Proofs.YtjamgiobipdfhaaGreatDoor
