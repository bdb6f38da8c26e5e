/-
  Jf, Jg in one text.
-/
import Derived.Test.YtipefnighcdgnaaGreatDoorJy
namespace Go.Proofs.YtipefnighcdgnaaGreatDoor
open Go.RowKit
set_option linter.unusedVariables false
set_option linter.unusedSimpArgs false
def txtZ (z : Int) : List UInt8 := (if z < 0 then [45] else []) ++ Lib.decDigits z.natAbs
theorem rep_zero {k : Nat} (h : k ≤ 64) : strings_Repeat [48] (k : Int) = some (zer k) := by
 have key : ∀ k, k < 65 → strings_Repeat [48] ((k : Nat) : Int) = some (zer k) := of_decide_eq_true (by kernel_rfl)
 exact key k (by omega)
theorem dd_lenB {n j : Nat} (h : n < 10 ^ j) (hj : 1 ≤ j) : (Lib.decDigits n).length ≤ j := by
 rcases Nat.eq_zero_or_pos n with z | z
 ·subst z; rw [dd_small (by omega)]; exact hj
 ·have h1 := num_pos (dd_dig n) (dd_ne n) (dd_head (by omega))
  rw [dd_num] at h1
  rcases Nat.lt_or_ge j (Lib.decDigits n).length with y | y
  ·exfalso
   have := Nat.pow_le_pow_right (n := 10) (by omega) (show j ≤ (Lib.decDigits n).length - 1 by omega)
   omega
  ·exact y
theorem zer_len (k : Nat) : (zer k).length = k := by simp [zer]
theorem num_zer : ∀ k, num (zer k) = 0
 | 0 => rfl
 | k + 1 => by
  have := num_zer k
  show num (zer (k + 1)) = 0
  have e : zer (k + 1) = zer k ++ [48] := by unfold zer; rw [List.replicate_succ']
  rw [e, num_snoc, this]; rfl
theorem canW_app {a q : List UInt8} (ha : a.all isD = true) (hq : q.all isD = true) (hne : a ≠ []) (hh : a.head? ≠ some 48) : canW (a ++ q) := by
 refine ⟨by rw [List.all_append, ha, hq]; rfl, by simp [hne], fun _ => ?_⟩
 cases a with
 | nil => exact absurd rfl hne
 | cons c r => simpa using hh
theorem dd_pad {Y e : Nat} (hY : Y ≠ 0) (he : e < 1000000000) : Lib.decDigits (e + 1000000000 * Y) = Lib.decDigits Y ++ (zer (9 - (Lib.decDigits e).length) ++ Lib.decDigits e) := by
 have hl : (Lib.decDigits e).length ≤ 9 := dd_lenB (by rw [show (10 : Nat) ^ 9 = 1000000000 from rfl]; exact he) (by omega)
 have hq : (zer (9 - (Lib.decDigits e).length) ++ Lib.decDigits e).all isD = true := by rw [List.all_append, zer_dig, dd_dig]; rfl
 have hc := canW_app (dd_dig Y) hq (dd_ne Y) (dd_head hY)
 have h := dd_uniq _ _ rfl hc
 rw [num_app, num_app, num_zer, dd_num, dd_num, List.length_append, zer_len, show 9 - (Lib.decDigits e).length + (Lib.decDigits e).length = 9 by omega, show (10 : Nat) ^ 9 = 1000000000 from rfl] at h
 rw [← h]
 congr 1
 omega
theorem lenS (neg : Bool) : (if neg = true then ([45] : List UInt8) else []).length ≤ 1 := by cases neg <;> simp
theorem val_drop_pos {l : List Int} (ho : okL l) (ht : trm l = l) {m : Nat} (hm : m < l.length) : 1 ≤ val (l.drop m) := by
 obtain ⟨k, hk⟩ : ∃ k, l.length = k + 1 := ⟨l.length - 1, by omega⟩
 have h1 := top_pos ho ht hk
 rcases Nat.lt_or_ge m k with z | z
 ·have h2 := val_take_drop (l.drop m) (k - m) (by simp; omega)
  rw [List.drop_drop, show m + (k - m) = k by omega] at h2
  have h3 := val_drop_lb l k
  have h4 := (val_bound (okL_drop (k + 1) ho)).1
  have h5 := (val_bound (okL_take (k - m) (okL_drop m ho))).1
  have h6 := Int.mul_le_mul_of_nonneg_left (show 1 ≤ val (l.drop k) by omega) (Int.le_of_lt (pw_pos (k - m)))
  have h7 := pw_pos (k - m)
  omega
 ·have : m = k := by omega
  subst this
  have h3 := val_drop_lb l m
  have h4 := (val_bound (okL_drop (m + 1) ho)).1
  omega
theorem it_Format_eq {z : Int} {n : Nat} (hz : Bd n z) (hn : n ≤ 1000) : it_Format (ofI z) = some (txtZ z) := by
 apply Tot.get
 unfold it_Format
 have hl := hz.len
 refine Tot.ite (fun q => ?_) (fun q => ?_)
 ·have h0 : z = 0 := ofI_len0.1 (by simp only [beq_iff_eq] at q; omega)
  subst h0
  exact .ok (by unfold txtZ; rw [show (0 : Int).natAbs = 0 from rfl, dd_small (by omega)]; rfl)
 ·have hne : (ofI z).Limbs.length ≠ 0 := fun y => by rw [y] at q; simp at q
  obtain ⟨k, hk⟩ : ∃ k, (ofI z).Limbs.length = k + 1 := ⟨(ofI z).Limbs.length - 1, by omega⟩
  have ho := ofI_okL z
  have ht := ofI_trm z
  have hv := ofI_val z
  rw [ofI_negv]
  generalize (ofI z).Limbs = l at *
  have eK : IntKind.i64.wrap ((l.length : Int) - 1) = (k : Int) := by rw [wI64 (by omega) (by omega)]; omega
  have eK2 : IntKind.i64.wrap ((l.length : Int) - 2) = (k : Int) - 1 := by rw [wI64 (by omega) (by omega)]; omega
  rw [eK, eK2]
  refine Tot.bind (E := fun v => v = (if decide (z < 0) = true then [45] else [])) (Tot.ite (fun y => by rw [y]; exact Tot.guard (okLen_of (by omega)) (.ok rfl)) (fun y => .ok (by rw [y]; rfl))) (fun sg' hsg => ?_)
  have hsl : sg'.length ≤ 1 := by rw [hsg]; exact lenS _
  have hx := lb_ok ho k
  rw [gt_l (show k < l.length by omega), bindO_s, wU64 (n := lb l k) (by omega) (by omega)]
  have hfu : ∀ m, 0 ≤ lb l m ∧ lb l m < 1000000000 → strconv_FormatUint (lb l m) 10 = some (Lib.decDigits (lb l m).toNat) := by
   intro m hm
   have := fmtU (lb l m).toNat (by omega)
   rw [Int.toNat_of_nonneg hm.1] at this
   exact this
  rw [hfu k hx, bindO_s]
  have hdl : ∀ m, m < l.length → (Lib.decDigits (val (l.drop m)).toNat).length ≤ 9 * (k + 1) := by
   intro m hm
   have h1 := val_bound (okL_drop m ho)
   have h2 : pw (l.drop m).length ≤ pw (k + 1) := pw_mono (by simp; omega)
   rw [pw_ten (k + 1)] at h2
   exact dd_lenB (by omega) (by omega)
  have hk0 : val (l.drop k) = lb l k := by
   rw [val_drop_lb, List.drop_of_length_le (show l.length ≤ k + 1 by omega), val_nil]; omega
  have hd0 := hdl k (by omega)
  rw [hk0] at hd0
  refine Tot.guard (okLen_of (by omega)) ?_
  refine Tot.bind (E := fun v => v = sg' ++ Lib.decDigits (val l).toNat) (Tot.loop (fun m v => m ≤ k ∧ v.1 = (m : Int) - 1 ∧ v.2 = sg' ++ Lib.decDigits (val (l.drop m)).toNat) _ k (fuel_gt (by omega)) ⟨Nat.le_refl _, rfl, by rw [hk0]⟩ (fun m v hv' => ?_)) (fun v hv' => ?_)
  ·obtain ⟨i, out⟩ := v
   obtain ⟨h1, h2, h3⟩ := hv'
   dsimp only at h2 h3 ⊢
   subst h2 h3
   cases m with
   | zero => exact TotX.ite (fun y => absurd y (by simp)) (fun _ => .ret (by simp))
   | succ m =>
    have e1 : ((m + 1 : Nat) : Int) - 1 = (m : Int) := by omega
    rw [e1]
    refine TotX.ite (fun _ => ?_) (fun y => absurd y (by simp))
    have hy := lb_ok ho m
    rw [gt_l (show m < l.length by omega), bindO_s, wU64 (n := lb l m) (by omega) (by omega), hfu m hy, bindO_s]
    have hl9 : (Lib.decDigits (lb l m).toNat).length ≤ 9 := dd_lenB (by rw [show (10 : Nat) ^ 9 = 1000000000 from rfl]; omega) (by omega)
    have e9 : IntKind.i64.wrap (9 - ((Lib.decDigits (lb l m).toNat).length : Int)) = ((9 - (Lib.decDigits (lb l m).toNat).length : Nat) : Int) := by rw [wI64 (by omega) (by omega)]; omega
    rw [e9, rep_zero (by omega), bindO_s]
    have hd1 := hdl (m + 1) (by omega)
    have hp := val_drop_pos ho ht (show m + 1 < l.length by omega)
    have hzl := zer_len (9 - (Lib.decDigits (lb l m).toNat).length)
    have hdd : Lib.decDigits (val (l.drop m)).toNat = Lib.decDigits (val (l.drop (m + 1))).toNat ++ (zer (9 - (Lib.decDigits (lb l m).toNat).length) ++ Lib.decDigits (lb l m).toNat) := by
     rw [← dd_pad (by omega) (by omega)]
     congr 1
     have := val_drop_lb l m
     omega
    refine TotX.guard (okLen_of (by rw [List.length_append]; omega)) (TotX.guard (okLen_of (by simp only [List.length_append]; omega)) ?_)
    rw [wI64 (by omega) (by omega)]
    refine .go ⟨m, by omega, by omega, rfl, ?_⟩
    dsimp only
    rw [hdd]; simp only [List.append_assoc]
  ·refine .ok ?_
   rw [hv', hv, hsg]
   unfold txtZ
   rw [Int.toNat_natCast]
   by_cases y : z < 0
   ·rw [decide_eq_true y, if_pos rfl, if_pos y]
   ·rw [decide_eq_false y, if_neg (by simp), if_neg y]
def dg (n : Nat) : UInt8 := UInt8.ofNat (48 + n % 10)
theorem dg_D (n : Nat) : isD (dg n) = true := isD_of (Nat.mod_lt _ (by omega))
theorem dg_v (n : Nat) : dv (dg n) = n % 10 := dv_of (Nat.mod_lt _ (by omega))
theorem q10 (n : Nat) (h : n < 4294967296) : IntKind.u32.wrap (Int.tdiv (n : Int) 10) = ((n / 10 : Nat) : Int) := by
 rw [tdv (by omega), wU32 (by omega) (by omega)]; omega
theorem d10 (n : Nat) : runeS (IntKind.i32.wrap (IntKind.u32.wrap (48 + (Int.tmod (n : Int) 10)))) = [dg n] := by
 have key : ∀ r, r < 10 → runeS (IntKind.i32.wrap (IntKind.u32.wrap (48 + ((r : Nat) : Int)))) = [UInt8.ofNat (48 + r)] := of_decide_eq_true (by kernel_rfl)
 have := key (n % 10) (Nat.mod_lt _ (by omega))
 rw [tmd (by omega)]
 exact this
def D9 (n : Nat) : List UInt8 := [dg (n / 10 / 10 / 10 / 10 / 10 / 10 / 10 / 10), dg (n / 10 / 10 / 10 / 10 / 10 / 10 / 10), dg (n / 10 / 10 / 10 / 10 / 10 / 10), dg (n / 10 / 10 / 10 / 10 / 10), dg (n / 10 / 10 / 10 / 10), dg (n / 10 / 10 / 10), dg (n / 10 / 10), dg (n / 10), dg n]
theorem D9_all (n : Nat) : (D9 n).all isD = true := by
 unfold D9
 simp only [List.all_cons, dg_D, List.all_nil, Bool.and_self]
theorem D9_num (n : Nat) (h : n < 1000000000) : num (D9 n) = n := by
 unfold D9 num
 simp only [numA_cons, numA_nil, dg_v]
 omega
theorem strip0 {out : List UInt8} (h : out.all isD = true) (h0 : num out ≠ 0) (hl : out.length ≤ 1000000) : loopX (fun (v4 : (List UInt8)) =>
          bindO (gt v4 0) fun (c1 : UInt8) =>
          if ((c1.toNat : Int) == 48) = true then
            bindO (cutF v4 1) fun (s1 : (List UInt8)) =>
            some (.go s1)
          else
            some (.ret v4)) fuel out = some (Lib.decDigits (num out)) := by
  apply Tot.get
  refine Tot.loop (fun m v => m = v.length ∧ v.all isD = true ∧ num v = num out) _ out.length (fuel_gt (by omega)) ⟨rfl, h, rfl⟩ (fun m v hv => ?_)
  obtain ⟨rfl, h1, h2⟩ := hv
  cases v with
  | nil => exact absurd h2.symm h0
  | cons c r =>
    have e0 : gt (c :: r) 0 = some c := rfl
    rw [e0, bindO_s, c48b]
    rw [List.all_cons, Bool.and_eq_true] at h1
    refine TotX.ite (fun q => ?_) (fun q => .ret ?_)
    · have hc : c = 48 := by simpa using q
      subst hc
      have : cutF (48 :: r) 1 = some r := by
        unfold cutF
        rw [if_neg (by simp; omega)]; rfl
      rw [this, bindO_s]
      refine .go ⟨r.length, by simp, rfl, h1.2, ?_⟩
      rw [← h2]
      show num r = numA 0 (48 :: r)
      rw [numA_cons]; rfl
    · have hc : c ≠ 48 := by simpa using q
      rw [← h2]
      exact (dd_uniq _ _ rfl ⟨by rw [List.all_cons, h1.1, h1.2]; rfl, by simp, fun _ => by simpa using hc⟩).symm
set_option maxHeartbeats 1000000 in
theorem r01_Format_eq {z : Int} {n : Nat} (hz : Bd n z) (hn : n ≤ 1000) : r01_Format (ofI z) = some (txtZ z) := by
 apply Tot.get
 unfold r01_Format
 have hl := hz.len
 refine Tot.ite (fun q => ?_) (fun q => ?_)
 ·have h0 : z = 0 := ofI_len0.1 (by simp only [beq_iff_eq] at q; omega)
  subst h0
  exact .ok (by unfold txtZ; rw [show (0 : Int).natAbs = 0 from rfl, dd_small (by omega)]; rfl)
 ·have hz0 : z ≠ 0 := fun y => by rw [y] at q; simp [ofI, toL_zero] at q
  have ho := ofI_okL z
  have hv := ofI_val z
  rw [ofI_negv]
  generalize (ofI z).Limbs = l at *
  refine Tot.bind (E := fun v => v.all isD = true ∧ num v = z.natAbs ∧ v.length ≤ 9 * l.length) (Tot.guard (okIdx_of (by omega)) (Tot.range (fun i v => v.all isD = true ∧ v.length = 9 * i ∧ (num v : Int) = val (l.take i)) _ ⟨rfl, rfl, rfl⟩ (fun i e out hx hr => ?_) (fun out hr => .ok ?_))) (fun out hr => ?_)
  ·obtain ⟨r1, r2, r3⟩ := hr
   have hil := getElem_lt hx
   have he := okL_get ho hx
   obtain ⟨m, rfl⟩ := Int.eq_ofNat_of_zero_le he.1
   have hm : m < 1000000000 := by omega
   rw [q10 m (by omega), q10 (m / 10) (by omega), q10 (m / 10 / 10) (by omega), q10 (m / 10 / 10 / 10) (by omega), q10 (m / 10 / 10 / 10 / 10) (by omega), q10 (m / 10 / 10 / 10 / 10 / 10) (by omega), q10 (m / 10 / 10 / 10 / 10 / 10 / 10) (by omega), q10 (m / 10 / 10 / 10 / 10 / 10 / 10 / 10) (by omega)]
   simp only [d10]
   refine TotX.bind (E := fun _ => True) ?_ (fun _ _ => .go ?_)
   ·refine Tot.guard (okStr_of (by simp; omega)) (Tot.guard (okStr_of (by simp; omega)) (Tot.guard (okStr_of (by simp; omega)) (Tot.guard (okStr_of (by simp; omega)) (Tot.guard (okStr_of (by simp; omega)) (Tot.guard (okStr_of (by simp; omega)) (Tot.guard (okStr_of (by simp; omega)) (Tot.guard (okStr_of (by simp; omega)) (Tot.guard (okStr_of (by simp; omega)) (.ok trivial)))))))))
   ·show (D9 m ++ out).all isD = true ∧ (D9 m ++ out).length = 9 * (i + 1) ∧ ((num (D9 m ++ out) : Nat) : Int) = val (l.take (i + 1))
    refine ⟨by rw [List.all_append, D9_all, r1]; rfl, by rw [List.length_append, r2]; show 9 + 9 * i = _; omega, ?_⟩
    rw [num_app, D9_num m hm, r2, val_take_one hx, ← r3, pw_ten, Int.natCast_add, Int.natCast_mul]
    omega
  ·obtain ⟨r1, r2, r3⟩ := hr
   rw [List.take_of_length_le (Nat.le_refl _), hv] at r3
   exact ⟨r1, by omega, by omega⟩
  ·obtain ⟨r1, r2, r3⟩ := hr
   rw [strip0 r1 (by omega) (by omega), bindO_s, r2]
   have hdl : (Lib.decDigits z.natAbs).length ≤ 9 * l.length + 1 := by
    have h1 := num_lt out r1
    rw [r2] at h1
    exact dd_lenB (Nat.lt_of_lt_of_le h1 (Nat.pow_le_pow_right (by omega) (by omega))) (by omega)
   refine Tot.bind (E := fun v => v = txtZ z) (Tot.ite (fun y => ?_) (fun y => .ok ?_)) (fun v hv' => .ok hv')
   ·refine Tot.guard (okStr_of (by simp; omega)) (.ok ?_)
    unfold txtZ
    rw [if_pos (by simpa using y)]
   ·unfold txtZ
    rw [if_neg (by simpa using y)]; rfl
end Go.Proofs.YtipefnighcdgnaaGreatDoor
namespace Go.Proofs.YtipefnighcdgnaaGreatDoor
open Go.RowKit
set_option linter.unusedVariables false
set_option linter.unusedSimpArgs false
def padT (d : List UInt8) (k : Nat) : List UInt8 := zer (k + 1 - d.length) ++ d
def intP (d : List UInt8) (k : Nat) : List UInt8 := (padT d k).take ((padT d k).length - k)
def frcP (d : List UInt8) (k : Nat) : List UInt8 := (padT d k).drop ((padT d k).length - k)
def ptxt (z : Int) (k : Nat) : List UInt8 := (if z < 0 then [45] else []) ++ (if k = 0 then Lib.decDigits z.natAbs else intP (Lib.decDigits z.natAbs) k ++ [46] ++ frcP (Lib.decDigits z.natAbs) k)
theorem padT_len (d : List UInt8) (k : Nat) : (padT d k).length = max d.length (k + 1) := by
 unfold padT; rw [List.length_append, zer_len]; omega
theorem txtZ_len {z : Int} {n : Nat} (hz : Bd n z) (hn : 1 ≤ n) : (Lib.decDigits z.natAbs).length ≤ 9 * n := by
 unfold Bd at hz
 rw [pw_ten] at hz
 exact dd_lenB (by omega) (by omega)
theorem padded {d : List UInt8} {k : Nat} (hk : k ≤ 30) (hd : 1 ≤ d.length) (hl : d.length ≤ 9000) : Tot (if (decide ((d.length : Int) ≤ (k : Int))) = true then
          bindO (strings_Repeat [48] (IntKind.i64.wrap ((IntKind.i64.wrap ((k : Int) + 1)) - (d.length : Int)))) fun (y3 : (List UInt8)) =>
          guardO (okStr y3 d) (
          some (y3 ++ d))
        else
          some d) (fun v => v = padT d k) := by
  refine Tot.ite (fun q => ?_) (fun q => .ok ?_)
  · have q' : d.length ≤ k := by simp at q; omega
    have e : IntKind.i64.wrap ((IntKind.i64.wrap ((k : Int) + 1)) - (d.length : Int)) = ((k + 1 - d.length : Nat) : Int) := by
      rw [wI64 (n := (k : Int) + 1) (by omega) (by omega), wI64 (by omega) (by omega)]; omega
    rw [e, rep_zero (by omega), bindO_s]
    exact Tot.guard (okStr_of (by rw [zer_len]; omega)) (.ok rfl)
  · have q' : ¬ d.length ≤ k := by simp at q; omega
    unfold padT
    rw [show k + 1 - d.length = 0 by omega]; rfl
theorem cut_point {sg' v : List UInt8} {k : Nat} (hv : k ≤ v.length) (hs : sg'.length ≤ 1) (hl : v.length ≤ 10000) : Tot (bindO (cutT v (IntKind.i64.wrap ((v.length : Int) - (k : Int)))) fun (s2 : (List UInt8)) =>
  guardO (okStr sg' s2) (
  guardO (okStr (sg' ++ s2) [46]) (
  bindO (cutF v (IntKind.i64.wrap ((v.length : Int) - (k : Int)))) fun (s3 : (List UInt8)) =>
  guardO (okStr ((sg' ++ s2) ++ [46]) s3) (
  some (((sg' ++ s2) ++ [46]) ++ s3))))) (fun e => e = sg' ++ (v.take (v.length - k) ++ [46] ++ v.drop (v.length - k))) := by
 have e : IntKind.i64.wrap ((v.length : Int) - (k : Int)) = ((v.length - k : Nat) : Int) := by rw [wI64 (by omega) (by omega)]; omega
 rw [e, cutT_k (by omega), bindO_s]
 have hc : cutF v ((v.length - k : Nat) : Int) = some (v.drop (v.length - k)) := by
  unfold cutF
  rw [if_neg (by omega), Int.toNat_natCast]
 refine Tot.guard (okStr_of (by simp; omega)) (Tot.guard (okStr_of (by simp; omega)) ?_)
 rw [hc, bindO_s]
 refine Tot.guard (okStr_of (by simp; omega)) (.ok (by simp only [List.append_assoc]))
theorem cut1 {l : List UInt8} : cutF (45 :: l) 1 = some l := by
 unfold cutF
 rw [if_neg (by simp; omega)]; rfl
theorem dc_pointed_eq {z : Int} {n k : Nat} (hz : Bd n z) (hn : n ≤ 900) (hn1 : 1 ≤ n) (hk : k ≤ 30) : dc_pointed (ofI z) (k : Int) = some (ptxt z k) := by
 have hdl := txtZ_len hz hn1
 have hdn : 1 ≤ (Lib.decDigits z.natAbs).length := List.length_pos_iff.2 (dd_ne _)
 apply Tot.get
 unfold dc_pointed
 rw [it_Format_eq hz (by omega), bindO_s, it_Sign_eq, bindO_s, sg_dec]
 refine Tot.bind (E := fun v => v = (Lib.decDigits z.natAbs, if z < 0 then [45] else [])) (Tot.ite (fun q => ?_) (fun q => .ok ?_)) (fun v hv => ?_)
 ·have q' : z < 0 := by simpa using q
  unfold txtZ
  rw [if_pos q']
  show Tot (bindO (cutF (45 :: Lib.decDigits z.natAbs) 1) _) _
  rw [cut1, bindO_s]
  exact .ok rfl
 ·have q' : ¬ z < 0 := by simpa using q
  unfold txtZ
  rw [if_neg q']; rfl
 ·subst hv
  dsimp only
  have hsl : (if z < 0 then ([45] : List UInt8) else []).length ≤ 1 := by split <;> simp
  unfold ptxt
  generalize (if z < 0 then ([45] : List UInt8) else []) = sg' at *
  generalize Lib.decDigits z.natAbs = d at *
  refine Tot.ite (fun q => ?_) (fun q => ?_)
  ·have q' : k = 0 := by simpa using q
   rw [if_pos q']
   exact Tot.guard (okStr_of (by omega)) (.ok rfl)
  ·have q' : ¬ k = 0 := by simpa using q
   rw [if_neg q']
   refine Tot.bind (padded hk hdn (by omega)) (fun v hv => ?_)
   subst hv
   have hp := padT_len d k
   exact cut_point (by omega) hsl (by omega)
theorem r06_shown_eq {z : Int} {n k : Nat} (hz : Bd n z) (hn : n ≤ 900) (hn1 : 1 ≤ n) (hk : k ≤ 30) : r06_shown (ofI z) (k : Int) = some (ptxt z k) := by
 have hdl := txtZ_len hz hn1
 have hdn : 1 ≤ (Lib.decDigits z.natAbs).length := List.length_pos_iff.2 (dd_ne _)
 apply Tot.get
 unfold r06_shown
 rw [r01_Format_eq hz (by omega), bindO_s]
 have hc : ∃ c, gt (txtZ z) 0 = some c ∧ (c == 45) = decide (z < 0) := by
  unfold txtZ
  by_cases h : z < 0
  ·rw [if_pos h, decide_eq_true h]; exact ⟨45, rfl, rfl⟩
  ·rw [if_neg h, decide_eq_false h]
   cases hd : Lib.decDigits z.natAbs with
   | nil => exact absurd hd (dd_ne _)
   | cons c r =>
    refine ⟨c, rfl, ?_⟩
    have := List.all_eq_true.1 (dd_dig z.natAbs) c (by rw [hd]; simp)
    exact beq_eq_false_iff_ne.2 (dig_ne this).2
 obtain ⟨c, hc1, hc2⟩ := hc
 rw [hc1, bindO_s, c45, hc2]
 refine Tot.bind (E := fun v => v = (Lib.decDigits z.natAbs, if z < 0 then [45] else [])) (Tot.ite (fun q => ?_) (fun q => .ok ?_)) (fun v hv => ?_)
 ·have q' : z < 0 := by simpa using q
  unfold txtZ
  rw [if_pos q']
  show Tot (bindO (cutF (45 :: Lib.decDigits z.natAbs) 1) _) _
  rw [cut1, bindO_s]
  exact .ok rfl
 ·have q' : ¬ z < 0 := by simpa using q
  unfold txtZ
  rw [if_neg q']; rfl
 ·subst hv
  dsimp only
  have hsl : (if z < 0 then ([45] : List UInt8) else []).length ≤ 1 := by split <;> simp
  unfold ptxt
  generalize (if z < 0 then ([45] : List UInt8) else []) = sg' at *
  generalize Lib.decDigits z.natAbs = d at *
  refine Tot.bind (E := fun v => v = padT d k) (Tot.loop (fun m v => ∃ j : Nat, v = zer j ++ d ∧ m + j = k + 1 - d.length) _ (k + 1 - d.length) (fuel_gt (by omega)) ⟨0, rfl, rfl⟩ (fun m v hv => ?_)) (fun v hv => ?_)
  ·obtain ⟨j, rfl, hj⟩ := hv
   have hlj : (zer j ++ d).length = j + d.length := by rw [List.length_append, zer_len]
   rw [hlj]
   refine TotX.ite (fun q => ?_) (fun q => .ret ?_)
   ·have q' : j + d.length ≤ k := by simp at q; omega
    refine TotX.guard (okStr_of (by rw [hlj]; simp; omega)) (.go ⟨m - 1, by omega, j + 1, ?_, by omega⟩)
    show 48 :: (zer j ++ d) = zer (j + 1) ++ d
    unfold zer
    rw [List.replicate_succ]; rfl
   ·have q' : ¬ j + d.length ≤ k := by simp at q; omega
    unfold padT
    rw [show j = k + 1 - d.length by omega]
  ·subst hv
   have hp := padT_len d k
   refine Tot.ite (fun q => ?_) (fun q => ?_)
   ·have q' : k = 0 := by simpa using q
    rw [if_pos q']
    have : padT d k = d := by unfold padT; rw [show k + 1 - d.length = 0 by omega]; rfl
    rw [this]
    exact Tot.guard (okStr_of (by omega)) (.ok rfl)
   ·have q' : ¬ k = 0 := by simpa using q
    rw [if_neg q']
    exact cut_point (by omega) hsl (by omega)
theorem parse_ptxt {z : Int} {n k : Nat} (hz : Bd n z) (hn : n ≤ 900) (hn1 : 1 ≤ n) (hk : k ≤ 30) : dc_Parse (ptxt z k) = some (ofQ (Rat.divInt z (ten k)), 0) := by
 have hdl := txtZ_len hz hn1
 have hdD := dd_dig z.natAbs
 have hdN := dd_num z.natAbs
 have hdc := dd_can z.natAbs
 have hdn : 1 ≤ (Lib.decDigits z.natAbs).length := List.length_pos_iff.2 (dd_ne _)
 have hsg : (if z < 0 then ([45] : List UInt8) else []) = if decide (z < 0) = true then [45] else [] := by
  by_cases h : z < 0
  ·rw [if_pos h, decide_eq_true h, if_pos rfl]
  ·rw [if_neg h, decide_eq_false h, if_neg (by simp)]
 unfold ptxt
 rw [hsg]
 generalize Lib.decDigits z.natAbs = d at *
 have hp := padT_len d k
 have hpD : (padT d k).all isD = true := by unfold padT; rw [List.all_append, zer_dig, hdD]; rfl
 have hpN : num (padT d k) = z.natAbs := by unfold padT; rw [num_app, num_zer, hdN]; omega
 -- the parts
 have key : ∃ (w p : List UInt8) (pt : Bool), (if k = 0 then d else intP d k ++ [46] ++ frcP d k) = w ++ (if pt = true then 46 :: p else []) ∧ w.all isD = true ∧ p.all isD = true ∧ w ≠ [] ∧ (1 < w.length → w.head? ≠ some 48) ∧ p.length = k ∧ (pt = false → p = []) ∧ (pt = true → p ≠ []) ∧ num (w ++ p) = z.natAbs ∧ w.length + p.length ≤ 9100 := by
  by_cases h0 : k = 0
  ·refine ⟨d, [], false, by rw [if_pos h0]; simp, hdD, rfl, hdc.2.1, hdc.2.2, by simp [h0], fun _ => rfl, (fun y => by cases y), by rw [List.append_nil]; exact hdN, by simp; omega⟩
  ·have hcat : intP d k ++ frcP d k = padT d k := List.take_append_drop _ _
   have hwl : (intP d k).length = (padT d k).length - k := by unfold intP; simp
   have hpl : (frcP d k).length = k := by unfold frcP; simp; omega
   have hall : (intP d k ++ frcP d k).all isD = true := by rw [hcat]; exact hpD
   rw [List.all_append, Bool.and_eq_true] at hall
   refine ⟨intP d k, frcP d k, true, by rw [if_neg h0]; simp, hall.1, hall.2, fun y => by rw [y] at hwl; simp at hwl; omega, fun y => ?_, hpl, (fun y => by cases y), fun _ y => by rw [y] at hpl; simp at hpl; omega, by rw [hcat]; exact hpN, by omega⟩
   have hno : padT d k = d := by unfold padT; rw [show k + 1 - d.length = 0 by omega]; rfl
   have hhd : (intP d k).head? = d.head? := by
    unfold intP
    rw [hno]
    cases hd : d with
    | nil => rw [hd] at hdn; simp at hdn
    | cons c r =>
     rw [hno, hd] at hwl
     have : (c :: r).length - k ≠ 0 := by rw [hno, hd] at hp; omega
     obtain ⟨t, ht⟩ := Nat.exists_eq_succ_of_ne_zero this
     rw [ht]; rfl
   rw [hhd]
   exact hdc.2.2 (by rw [hno] at hwl; omega)
 obtain ⟨w, p, pt, k1, k2, k3, k4, k5, k6, k7, k8, k9, k10⟩ := key
 rw [k1]
 have hcv := cutV_of w p pt k2 k7
 have hhead : (w ++ (if pt = true then 46 :: p else [])).head? ≠ some 45 := by
  cases hw : w with
  | nil => exact absurd hw k4
  | cons c r =>
   have := List.all_eq_true.1 k2 c (by rw [hw]; simp)
   have := (dig_ne this).2
   simpa using this
 have hst := strip_of (decide (z < 0)) _ hhead
 have hlen : ((if decide (z < 0) = true then [45] else []) ++ (w ++ (if pt = true then 46 :: p else []))).length ≤ 20000 := by
  have := lenS (decide (z < 0))
  generalize (if decide (z < 0) = true then ([45] : List UInt8) else []) = sg' at *
  simp only [List.length_append]
  cases pt with
  | true => simp; omega
  | false => simp; omega
 rw [dc_Parse_eq hst hcv hlen]
 have hgood : goodB w p pt = true := by
  unfold goodB
  rw [digB_of k2 k4]
  have h2 : (decide (1 < w.length) && w.head? == some 48) = false := by
   by_cases y : 1 < w.length
   ·have := k5 y
    rw [decide_eq_true y]
    simpa using this
   ·rw [decide_eq_false y]; rfl
  rw [h2]
  cases pt with
  | false => rfl
  | true => rw [digB_of k3 (k8 rfl), decide_eq_true (show p.length ≤ 30 by omega)]; rfl
 have hok : okD (decide (z < 0)) w p pt = true := by
  unfold okD
  rw [hgood]
  by_cases y : z < 0
  ·rw [decide_eq_true y]
   cases hl : lz (w ++ p) with
   | nil =>
    exfalso
    have := num_lz (w ++ p)
    rw [hl, k9] at this
    have e : num [] = 0 := rfl
    omega
   | cons c r => rfl
  ·rw [decide_eq_false y]; rfl
 rw [hok, if_pos rfl]
 unfold decQ signI
 rw [k9, k6]
 have hzz : (if decide (z < 0) = true then -(z.natAbs : Int) else (z.natAbs : Int)) = z := by
  by_cases y : z < 0
  ·rw [decide_eq_true y, if_pos rfl]; omega
  ·rw [decide_eq_false y, if_neg (by simp)]; omega
 rw [hzz]
theorem small_ok {a : ApiRat} (h1 : ∀ x ∈ a.Num.Limbs, 0 ≤ x) (h2 : ∀ x ∈ a.Den.Limbs, 0 ≤ x) : (r02_Small a 6 = some true ∧ ∃ q : Rat, a = ofQ q ∧ BQ 6 q) ∨ r02_Small a 6 = some false := by
 have key : Tot (r02_Small a 6) (fun t => t = true → ∃ q : Rat, a = ofQ q ∧ BQ 6 q) := by
  unfold r02_Small
  refine Tot.bind (E := fun t => t = true → ∃ q : Rat, a = ofQ q ∧ BQ 6 q) (Tot.ite (fun q1 => Tot.ite (fun q2 => ?_) (fun _ => .ok (fun z => by cases z))) (fun _ => .ok (fun z => by cases z))) (fun t ht => .ok ht)
  have l1 : a.Num.Limbs.length ≤ 6 := by simp at q1; omega
  have l2 : a.Den.Limbs.length ≤ 6 := by simp at q2; omega
  unfold r02_Valid
  obtain ⟨b1, e1, i1⟩ := r01_Valid_iff a.Num (by omega) h1
  obtain ⟨b2, e2, i2⟩ := r01_Valid_iff a.Den (by omega) h2
  have hbd : ∀ x : ApiInt, okI x → x.Limbs.length ≤ 6 → Bd 6 (vI x) := by
   intro x hx hl
   have h3 := val_bound hx.1
   have h4 := pw_mono hl
   unfold Bd vI
   split <;> omega
  refine Tot.bind (Tot.bind (E := fun t => t = false → okI a.Num ∧ okI a.Den ∧ 0 < vI a.Den) ?_ (fun t ht => Tot.ite (fun q => .ok (fun z => by cases z)) (fun q => ?_))) (fun t ht => .ok ht)
  ·rw [e1, bindO_s]
   refine Tot.ite (fun q => ?_) (fun q => .ok (fun z => by cases z))
   have v1 := i1.1 q
   rw [e2, bindO_s]
   refine Tot.ite (fun q => ?_) (fun q => .ok (fun z => by cases z))
   have v2 := i2.1 q
   have hD := ofI_of v2
   rw [hD, r01_Sign_eq, bindO_s]
   refine .ok (fun z => ⟨v1, ofI_ok _, ?_⟩)
   rw [vI_ofI]
   rcases Int.lt_trichotomy (vI a.Den) 0 with y | y | y
   ·rw [sg_neg y] at z; cases z
   ·rw [sg_zero y] at z; cases z
   ·exact y
  ·obtain ⟨v1, v2, v3⟩ := ht q
   have hN := ofI_of v1
   have hD := ofI_of v2
   have b1 := hbd _ v1 l1
   have b2 := hbd _ v2 l2
   rw [hN, hD, r01_GCD_eq b1 b2 (by omega), bindO_s, r02_unit_eq, bindO_s]
   have hg := b2.gcd (a := vI a.Num) (by omega)
   rw [r01_Same_eq hg (by omega), bindO_s]
   refine .ok (fun z => ?_)
   have hg1 : Int.gcd (vI a.Num) (vI a.Den) = 1 := by
    have : ((Int.gcd (vI a.Num) (vI a.Den) : Nat) : Int) = 1 := of_decide_eq_true z
    omega
   obtain ⟨q, q1, q2⟩ := rat_of v3 hg1
   refine ⟨q, ?_, ?_⟩
   ·unfold ofQ
    rw [q1, q2, ← hN, ← hD]
   ·unfold BQ
    rw [q1, q2]
    exact ⟨b1, b2⟩
 obtain ⟨t, h3, h4⟩ := key
 cases t with
 | true => exact .inl ⟨h3, h4 rfl⟩
 | false => exact .inr h3
theorem dc_times_eq {q : Rat} {n k : Nat} (hq : BQ n q) (hn : n ≤ 1000) (hk : k ≤ 1000) : dc_times (ofQ q) (k : Int) = some (ofQ (q * ((ten k : Int) : Rat))) := by
 unfold dc_times
 rw [dc_power_eq hk, bindO_s, it_FromInt64_eq (by omega) (by omega), bindO_s, ra_Make_eq (m := k + 3) ((Bd_ten k).mono (by omega)) ((Bd.i64 (z := 1) (by omega) (by omega)).mono (by omega)) (by omega) (by omega), bindO_s, whole_divInt]
 dsimp only
 rw [ra_Mul_eq hq (BQ_ten k) (by omega), bindO_s]
end Go.Proofs.YtipefnighcdgnaaGreatDoor
