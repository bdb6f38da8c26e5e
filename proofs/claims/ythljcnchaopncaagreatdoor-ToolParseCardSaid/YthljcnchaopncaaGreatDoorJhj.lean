/-
  Jg, Ji, Jj in one text.
-/
import Derived.Test.YthljcnchaopncaaGreatDoorJhf
namespace Go.Proofs.YthljcnchaopncaaGreatDoor
open Go.RowKit
set_option linter.unusedVariables false
set_option linter.unusedSimpArgs false
def padT (d : List UInt8) (k : Nat) : List UInt8 := zer (k + 1 - d.length) ++ d
def intP (d : List UInt8) (k : Nat) : List UInt8 := (padT d k).take ((padT d k).length - k)
def frcP (d : List UInt8) (k : Nat) : List UInt8 := (padT d k).drop ((padT d k).length - k)
def ptxt (z : Int) (k : Nat) : List UInt8 := (if z < 0 then [45] else []) ++ (if k = 0 then Lib.decDigits z.natAbs else intP (Lib.decDigits z.natAbs) k ++ [46] ++ frcP (Lib.decDigits z.natAbs) k)
theorem padT_len (d : List UInt8) (k : Nat) : (padT d k).length = max d.length (k + 1) := by
 unfold padT; rw [List.length_append,zer_len]; omega
theorem txtZ_len {z : Int} {n : Nat} (hz : Bd n z) (hn : 1 ≤ n) : (Lib.decDigits z.natAbs).length ≤ 9 * n := by
 unfold Bd at hz
 rw [pw_ten] at hz
 exact dd_lenB (by omega) (by omega)
theorem cut_point {sg' v : List UInt8} {k : Nat} (hv : k ≤ v.length) (hs : sg'.length ≤ 1) (hl : v.length ≤ 10000) : Tot (bindO (cutT v (IntKind.i64.wrap ((v.length : Int) - (k : Int)))) fun (s2 : (List UInt8)) =>
  guardO (okStr sg' s2) (
  guardO (okStr (sg' ++ s2) [46]) (
  bindO (cutF v (IntKind.i64.wrap ((v.length : Int) - (k : Int)))) fun (s3 : (List UInt8)) =>
  guardO (okStr ((sg' ++ s2) ++ [46]) s3) (
  some (((sg' ++ s2) ++ [46]) ++ s3))))) (fun e=>e = sg' ++ (v.take (v.length - k) ++ [46] ++ v.drop (v.length - k))) := by
 have e : IntKind.i64.wrap ((v.length : Int) - (k : Int)) = ((v.length - k : Nat) : Int) := by rw [wI64 (by omega) (by omega)]; omega
 rw [e,cutT_k (by omega),bindO_s]
 have hc : cutF v ((v.length - k : Nat) : Int) = some (v.drop (v.length - k)) := by
  unfold cutF
  rw [if_neg (by omega),Int.toNat_natCast]
 refine Tot.guard (okStr_of (by simp; omega)) (Tot.guard (okStr_of (by simp; omega)) ?_)
 rw [hc,bindO_s]
 refine Tot.guard (okStr_of (by simp; omega)) (.ok (by simp only [List.append_assoc]))
theorem cut1 {l : List UInt8} : cutF (45 :: l) 1 = some l := by
 unfold cutF
 rw [if_neg (by simp; omega)]; rfl
theorem r06_shown_eq {z : Int} {n k : Nat} (hz : Bd n z) (hn : n ≤ 900) (hn1 : 1 ≤ n) (hk : k ≤ 30) : r06_shown (ofI z) (k : Int) = some (ptxt z k) := by
 have hdl := txtZ_len hz hn1
 have hdn : 1 ≤ (Lib.decDigits z.natAbs).length := List.length_pos_iff.2 (dd_ne _)
 apply Tot.get
 unfold r06_shown
 rw [r01_Format_eq hz (by omega),bindO_s]
 have hc : ∃ c,gt (txtZ z) 0 = some c ∧ (c == 45) = decide (z < 0) := by
  unfold txtZ
  by_cases h : z < 0
  ·rw [if_pos h,decide_eq_true h]; exact ⟨45,rfl,rfl⟩
  ·rw [if_neg h,decide_eq_false h]
   cases hd : Lib.decDigits z.natAbs with
   | nil=>exact absurd hd (dd_ne _)
   | cons c r =>
    refine ⟨c,rfl,?_⟩
    have := List.all_eq_true.1 (dd_dig z.natAbs) c (by rw [hd]; simp)
    exact beq_eq_false_iff_ne.2 (dig_ne this).2
 obtain ⟨c,hc1,hc2⟩ := hc
 rw [hc1,bindO_s,c45,hc2]
 refine Tot.bind (E := fun v=>v = (Lib.decDigits z.natAbs,if z < 0 then [45] else [])) (Tot.ite (fun q=>?_) (fun q=>.ok ?_)) (fun v hv=>?_)
 ·have q' : z < 0 := by simpa using q
  unfold txtZ
  rw [if_pos q']
  show Tot (bindO (cutF (45 :: Lib.decDigits z.natAbs) 1) _) _
  rw [cut1,bindO_s]
  exact .ok rfl
 ·have q' : ¬ z < 0 := by simpa using q
  unfold txtZ
  rw [if_neg q']; rfl
 ·subst hv
  dsimp only
  have hsl : (if z < 0 then ([45] : List UInt8) else []).length ≤ 1 := by split <;> simp
  unfold ptxt
  generalize (if z < 0 then ([45] : List UInt8) else []) = sg' at *
  generalize Lib.decDigits z.natAbs = d at *
  refine Tot.bind (E := fun v=>v = padT d k) (Tot.loop (fun m v=>∃ j : Nat,v = zer j ++ d ∧ m + j = k + 1 - d.length) _ (k + 1 - d.length) (fuel_gt (by omega)) ⟨0,rfl,rfl⟩ (fun m v hv=>?_)) (fun v hv=>?_)
  ·obtain ⟨j,rfl,hj⟩ := hv
   have hlj : (zer j ++ d).length = j + d.length := by rw [List.length_append,zer_len]
   rw [hlj]
   refine TotX.ite (fun q=>?_) (fun q=>.ret ?_)
   ·have q' : j + d.length ≤ k := by simp at q; omega
    refine TotX.guard (okStr_of (by rw [hlj]; simp; omega)) (.go ⟨m - 1,by omega,j + 1,?_,by omega⟩)
    show 48 :: (zer j ++ d) = zer (j + 1) ++ d
    unfold zer
    rw [List.replicate_succ]; rfl
   ·have q' : ¬ j + d.length ≤ k := by simp at q; omega
    unfold padT
    rw [show j = k + 1 - d.length by omega]
  ·subst hv
   have hp := padT_len d k
   refine Tot.ite (fun q=>?_) (fun q=>?_)
   ·have q' : k = 0 := by simpa using q
    rw [if_pos q']
    have : padT d k = d := by unfold padT; rw [show k + 1 - d.length = 0 by omega]; rfl
    rw [this]
    exact Tot.guard (okStr_of (by omega)) (.ok rfl)
   ·have q' : ¬ k = 0 := by simpa using q
    rw [if_neg q']
    exact cut_point (by omega) hsl (by omega)
end Go.Proofs.YthljcnchaopncaaGreatDoor
namespace Go.Proofs.YthljcnchaopncaaGreatDoor
open Go.RowKit
set_option linter.unusedVariables false
set_option linter.unusedSimpArgs false
def fr3 (a b c : UInt8) : List UInt8 := if c = 48 then (if b = 48 then (if a = 48 then [] else [a]) else [a,b]) else [a,b,c]
theorem trim3 (a b c : UInt8) : Lib.trimRightB [a,b,c] 48 = fr3 a b c := by
 unfold Lib.trimRightB fr3
 by_cases hc : c = 48
 ·by_cases hb : b = 48
  ·by_cases ha : a = 48
   ·simp [hc,hb,ha]
   ·simp [hc,hb,ha]
  ·simp [hc,hb]
 ·simp [hc]
def d3 (r : Nat) : UInt8 × UInt8 × UInt8 := (UInt8.ofNat (48 + r / 100),UInt8.ofNat (48 + r / 10 % 10),UInt8.ofNat (48 + r % 10))
theorem dd_1000 {r : Nat} (h : r < 1000) : (Lib.decDigits (1000 + r)).drop 1 = [(d3 r).1,(d3 r).2.1,(d3 r).2.2] := by
 rw [dd_big (by omega),dd_big (by omega),dd_big (by omega),dd_small (by omega)]
 simp only [List.append_assoc,List.cons_append,List.nil_append,List.drop_succ_cons,List.drop_zero,d3]
 rw [show (1000 + r) / 10 / 10 % 10 = r / 100 by omega,show (1000 + r) / 10 % 10 = r / 10 % 10 by omega,show (1000 + r) % 10 = r % 10 by omega]
def frac (r : Nat) : List UInt8 := fr3 (d3 r).1 (d3 r).2.1 (d3 r).2.2
def txtU (u : Nat) : List UInt8 := Lib.decDigits (u / 1000) ++ (if u % 1000 = 0 then [] else 46 :: frac (u % 1000))
def txtV (n : Int) : List UInt8 := (if n < 0 then [45] else []) ++ txtU n.natAbs
theorem trimR (s : List UInt8) (h : s.length ≤ 9223372036854775807) : strings_TrimRight s [48] = some (Lib.trimRightB s 48) := by
 show guardO (decide ((48 : UInt8).toNat < 128) && decide (s.length ≤ 9223372036854775807)) _ = _
 rw [show (decide ((48 : UInt8).toNat < 128) && decide (s.length ≤ 9223372036854775807)) = true by simp; omega,guardO_t]
theorem fr3_len (a b c : UInt8) : (fr3 a b c).length ≤ 3 := by
 unfold fr3; split
 ·split
  ·split <;> simp
  ·simp
 ·simp
theorem abs_wrap (n : Int) (h1 : -9223372036854775808 ≤ n) (h2 : n ≤ 9223372036854775807) : (if (decide (n < 0)) = true then
        some (([45] : List UInt8),IntKind.u64.wrap (0 - (IntKind.u64.wrap n)))
      else
        some ([],IntKind.u64.wrap n)) = some (if n < 0 then [45] else [],(n.natAbs : Int)) := by
  by_cases hn : n < 0
  · rw [decide_eq_true hn,if_pos rfl,if_pos hn,wrap_u64,wrap_u64]
    congr 2
    omega
  · rw [decide_eq_false hn,if_neg (by simp),if_neg hn,wrap_u64]
    congr 2
    omega
theorem dc_Millimetres_eq (n : Int) (h1 : -9223372036854775808 ≤ n) (h2 : n ≤ 9223372036854775807) : dc_Millimetres n = some (txtV n) := by
 unfold dc_Millimetres
 rw [abs_wrap n h1 h2,bindO_s]
 obtain ⟨u,hu⟩ : ∃ u,u = n.natAbs := ⟨_,rfl⟩
 obtain ⟨sg,hsg⟩ : ∃ sg : List UInt8,sg = if n < 0 then [45] else [] := ⟨_,rfl⟩
 have hu2 : u ≤ 9223372036854775808 := by omega
 have hsl : sg.length ≤ 1 := by rw [hsg]; split <;> simp
 unfold txtV txtU
 rw [← hu,← hsg]
 simp only
 have e1 : IntKind.u64.wrap (Int.tdiv (u : Int) 1000) = ((u / 1000 : Nat) : Int) := by
  rw [wrap_u64,Int.tdiv_eq_ediv_of_nonneg (by omega)]; omega
 have e2 : Int.tmod (u : Int) 1000 = ((u % 1000 : Nat) : Int) := by
  rw [Int.tmod_eq_emod_of_nonneg (by omega)]; omega
 have hl := dd_len (u / 1000) (by omega)
 rw [e1,fmtU (u / 1000) (by omega),bindO_s,okStr_of (by omega),guardO_t,e2]
 by_cases hr : u % 1000 = 0
 ·rw [hr]; simp
 ·rw [show (((u % 1000 : Nat) : Int) != 0) = true from bne_iff_ne.2 (by omega),if_pos rfl,if_neg hr]
  have e3 : IntKind.u64.wrap (1000 + ((u % 1000 : Nat) : Int)) = ((1000 + u % 1000 : Nat) : Int) := by rw [wrap_u64]; omega
  have hr2 : u % 1000 < 1000 := Nat.mod_lt _ (by omega)
  have hd := dd_1000 hr2
  have hl2 := dd_len (1000 + u % 1000) (by omega)
  rw [e3,fmtU _ (by omega),bindO_s]
  have hc : cutF (Lib.decDigits (1000 + u % 1000)) 1 = some ((Lib.decDigits (1000 + u % 1000)).drop 1) := by
   unfold cutF
   rw [if_neg]
   ·rfl
   ·have := List.length_pos_iff.2 (dd_ne (1000 + u % 1000))
    omega
  have hf := fr3_len (d3 (u % 1000)).1 (d3 (u % 1000)).2.1 (d3 (u % 1000)).2.2
  rw [hc,bindO_s,trimR _ (by simp; omega),bindO_s,hd,trim3,okStr_of (by simp; omega),guardO_t,okStr_of (by simp; omega),guardO_t]
  simp [frac]
theorem fr3_dig (a b c : UInt8) (ha : isD a = true) (hb : isD b = true) (hc : isD c = true) : (fr3 a b c).all isD = true := by
 unfold fr3
 split
 ·split
  ·split <;> simp [ha]
  ·simp [ha,hb]
 ·simp [ha,hb,hc]
theorem d3_dig {r : Nat} (h : r < 1000) : isD (d3 r).1 = true ∧ isD (d3 r).2.1 = true ∧ isD (d3 r).2.2 = true := ⟨isD_of (by omega),isD_of (by omega),isD_of (by omega)⟩
theorem txtU_form (u : Nat) : txtU u = Lib.decDigits (u / 1000) ++ (if (decide (u % 1000 ≠ 0)) = true then 46 :: (if u % 1000 = 0 then [] else frac (u % 1000)) else []) := by
 unfold txtU
 by_cases h : u % 1000 = 0
 ·rw [if_pos h,if_neg (by simp [h])]
 ·rw [if_neg h,if_pos (by simpa using h),if_neg h]
theorem num_cons (c : UInt8) (l : List UInt8) : num (c :: l) = dv c * 10 ^ l.length + num l := by
 show numA 0 (c :: l) = _
 rw [numA_cons,numA_eq]; simp
theorem digs_eq : ∀ (l m : List UInt8),l.length = m.length → l.all isD = true → m.all isD = true → num l = num m → l = m
 | [],[],_,_,_,_=>rfl
 | [],_ :: _,h,_,_,_=>by simp at h
 | _ :: _,[],h,_,_,_=>by simp at h
 | c :: l,d :: m,h,h1,h2,h3=>by
  have hl : l.length = m.length := by simpa using h
  rw [List.all_cons,Bool.and_eq_true] at h1 h2
  rw [num_cons,num_cons,hl] at h3
  have b1 := num_lt l h1.2
  have b2 := num_lt m h2.2
  rw [hl] at b1
  have hp := pow10_pos m.length
  have e1 : dv c = dv d := by
   rcases Nat.lt_trichotomy (dv c) (dv d) with z | z | z
   ·have := Nat.mul_le_mul_right (10 ^ m.length) (show dv c + 1 ≤ dv d from z)
    rw [Nat.add_mul] at this; omega
   ·exact z
   ·have := Nat.mul_le_mul_right (10 ^ m.length) (show dv d + 1 ≤ dv c from z)
    rw [Nat.add_mul] at this; omega
  rw [e1] at h3
  have e2 := digs_eq l m hl h1.2 h2.2 (by omega)
  rw [e2,← of_dv h1.1,← of_dv h2.1,e1]
theorem ptxt_form {z : Int} {k : Nat} (hk : k ≠ 0) {P : List UInt8} (hP : P.all isD = true) (hl : P.length = k) (hn : num P = z.natAbs % 10 ^ k) : ptxt z k = (if z < 0 then [45] else []) ++ (Lib.decDigits (z.natAbs / 10 ^ k) ++ 46 :: P) := by
 unfold ptxt
 rw [if_neg hk]
 have hdD := dd_dig z.natAbs
 have hdN := dd_num z.natAbs
 have hdc := dd_can z.natAbs
 have hdn : 1 ≤ (Lib.decDigits z.natAbs).length := List.length_pos_iff.2 (dd_ne _)
 generalize Lib.decDigits z.natAbs = d at *
 have hp := padT_len d k
 have hpD : (padT d k).all isD = true := by unfold padT; rw [List.all_append,zer_dig,hdD]; rfl
 have hpN : num (padT d k) = z.natAbs := by unfold padT; rw [num_app,num_zer,hdN]; omega
 have hcat : intP d k ++ frcP d k = padT d k := List.take_append_drop _ _
 have hwl : (intP d k).length = (padT d k).length - k := by unfold intP; simp
 have hpl : (frcP d k).length = k := by unfold frcP; simp; omega
 have hall : (intP d k ++ frcP d k).all isD = true := by rw [hcat]; exact hpD
 rw [List.all_append,Bool.and_eq_true] at hall
 have hnum : num (intP d k) * 10 ^ k + num (frcP d k) = z.natAbs := by rw [← hpN,← hcat,num_app,hpl]
 have hfl := num_lt _ hall.2
 rw [hpl] at hfl
 have hpp := pow10_pos k
 have hdm := Nat.div_add_mod z.natAbs (10 ^ k)
 have hml := Nat.mod_lt z.natAbs (show 0 < 10 ^ k by omega)
 have hi : num (intP d k) = z.natAbs / 10 ^ k := by
  rw [← hnum,Nat.mul_comm,Nat.mul_add_div (by omega),Nat.div_eq_of_lt hfl,Nat.add_zero]
 have hf : num (frcP d k) = z.natAbs % 10 ^ k := by
  rw [← hnum,Nat.mul_comm,Nat.mul_add_mod,Nat.mod_eq_of_lt hfl]
 have e1 : frcP d k = P := digs_eq _ _ (by rw [hpl,hl]) hall.2 hP (by rw [hf,hn])
 have e2 : intP d k = Lib.decDigits (z.natAbs / 10 ^ k) := by
  rw [← hi]
  refine (dd_uniq _ _ rfl ⟨hall.1,fun y=>by rw [y] at hwl; simp at hwl; omega,fun y=>?_⟩).symm
  have hno : padT d k = d := by unfold padT; rw [show k + 1 - d.length = 0 by omega]; rfl
  have hhd : (intP d k).head? = d.head? := by
   unfold intP
   rw [hno]
   cases hd : d with
   | nil=>rw [hd] at hdn; simp at hdn
   | cons c r =>
    rw [hno,hd] at hwl
    have : (c :: r).length - k ≠ 0 := by rw [hno,hd] at hp; omega
    obtain ⟨t,ht⟩ := Nat.exists_eq_succ_of_ne_zero this
    rw [ht]; rfl
  rw [hhd]
  exact hdc.2.2 (by rw [hno] at hwl; omega)
 rw [e1,e2,List.append_assoc]; rfl
theorem frac_facts {r : Nat} (h : r < 1000) (h0 : r ≠ 0) : (frac r).all isD = true ∧ ((r % 10 ≠ 0 ∧ (frac r).length = 3 ∧ num (frac r) = r) ∨ (r % 10 = 0 ∧ r % 100 ≠ 0 ∧ (frac r).length = 2 ∧ num (frac r) = r / 10) ∨ (r % 100 = 0 ∧ (frac r).length = 1 ∧ num (frac r) = r / 100)) := by
 obtain ⟨a1,a2,a3⟩ := d3_dig h
 refine ⟨fr3_dig _ _ _ a1 a2 a3,?_⟩
 have hz : ∀ m,m < 10 → (UInt8.ofNat (48 + m) = 48 ↔ m = 0) := by
  intro m hm
  constructor
  ·intro e
   have := congrArg UInt8.toNat e
   rw [ofNat_toNat (by omega)] at this
   have e48 : (48 : UInt8).toNat = 48 := rfl
   omega
  ·rintro rfl; rfl
 have z1 := hz (r / 100) (by omega)
 have z2 := hz (r / 10 % 10) (by omega)
 have z3 := hz (r % 10) (by omega)
 have v1 := dv_of (show r / 100 < 10 by omega)
 have v2 := dv_of (show r / 10 % 10 < 10 by omega)
 have v3 := dv_of (show r % 10 < 10 by omega)
 unfold frac d3
 dsimp only
 unfold fr3
 by_cases c0 : r % 10 = 0
 ·rw [if_pos (z3.2 c0)]
  by_cases b0 : r / 10 % 10 = 0
  ·rw [if_pos (z2.2 b0),if_neg (fun y=>by have := z1.1 y; omega)]
   right; right
   refine ⟨by omega,rfl,?_⟩
   unfold num; rw [numA_cons,numA_nil,v1]; omega
  ·rw [if_neg (fun y=>b0 (z2.1 y))]
   right; left
   refine ⟨c0,by omega,rfl,?_⟩
   unfold num; rw [numA_cons,numA_cons,numA_nil,v1,v2]; omega
 ·rw [if_neg (fun y=>c0 (z3.1 y))]
  left
  refine ⟨c0,rfl,?_⟩
  unfold num; rw [numA_cons,numA_cons,numA_cons,numA_nil,v1,v2,v3]; omega
theorem mm_den {n k : Int} : ((Rat.divInt n 1000).den : Int) ∣ k ↔ (1000 : Int) ∣ n * k := by
 have hq : Rat.divInt n 1000 = (n : Rat) / ((1000 : Int) : Rat) := Rat.divInt_eq_div n 1000
 have hd := den_pos (Rat.divInt n 1000)
 have hc := (Rat.divInt n 1000).reduced
 have h1 := mul_den (Rat.divInt n 1000)
 have h2 : Rat.divInt n 1000 * ((1000 : Int) : Rat) = (n : Rat) := by
  rw [hq]; exact Rat.div_mul_cancel (fun z=>by have := Rat.intCast_eq_zero_iff.1 z; omega)
 generalize Rat.divInt n 1000 = q at *
 have h3 : n * q.den = q.num * 1000 := by
  have : ((n * q.den : Int) : Rat) = ((q.num * 1000 : Int) : Rat) := by
   rw [Rat.intCast_mul,Rat.intCast_mul,← h1,← h2]; grind
  exact Rat.intCast_inj.1 this
 constructor
 ·rintro ⟨c,rfl⟩
  exact ⟨q.num * c,by rw [← Int.mul_assoc,h3]; grind⟩
 ·rintro ⟨c,h4⟩
  have h5 : q.num * k = c * q.den := by
   have : 1000 * (q.num * k) = 1000 * (c * q.den) := by
    have e1 : 1000 * (q.num * k) = q.num * 1000 * k := by grind
    have e2 : 1000 * (c * (q.den : Int)) = 1000 * c * q.den := by grind
    rw [e1,e2,← h3,← h4]; grind
   omega
  have h6 : (q.den : Int) ∣ q.num * k := ⟨c,by rw [h5,Int.mul_comm]⟩
  have h7 : q.den ∣ q.num.natAbs * k.natAbs := by
   have := Int.natAbs_dvd_natAbs.2 h6
   rwa [Int.natAbs_natCast,Int.natAbs_mul] at this
  have h8 := Nat.Coprime.dvd_of_dvd_mul_left (Nat.Coprime.symm hc) h7
  exact Int.natAbs_dvd_natAbs.1 (by rwa [Int.natAbs_natCast])
theorem mm_num {n k m : Int} (h : n * k = 1000 * m) : (Rat.divInt n 1000 * ((k : Int) : Rat)).num = m := by
 have hq : Rat.divInt n 1000 = (n : Rat) / ((1000 : Int) : Rat) := Rat.divInt_eq_div n 1000
 have h0 : ((1000 : Int) : Rat) ≠ 0 := fun z=>by have := Rat.intCast_eq_zero_iff.1 z; omega
 have h2 : Rat.divInt n 1000 * ((1000 : Int) : Rat) = (n : Rat) := by rw [hq]; exact Rat.div_mul_cancel h0
 have h3 : Rat.divInt n 1000 * (k : Rat) = (m : Rat) := by
  have h4 : ((n * k : Int) : Rat) = ((1000 * m : Int) : Rat) := by rw [h]
  rw [Rat.intCast_mul,Rat.intCast_mul,← h2] at h4
  generalize Rat.divInt n 1000 = q at *
  generalize (k : Rat) = a at *
  generalize (m : Rat) = b at *
  have h5 : ((1000 : Int) : Rat) * (q * a) = ((1000 : Int) : Rat) * b := by rw [← h4]; grind
  have h6 : q * a = ((1000 : Int) : Rat) * (q * a) / ((1000 : Int) : Rat) := by
   rw [Rat.mul_comm ((1000 : Int) : Rat) (q * a)]; exact (Rat.mul_div_cancel h0).symm
  rw [h6,h5,Rat.mul_comm ((1000 : Int) : Rat) b]; exact Rat.mul_div_cancel h0
 rw [h3]; rfl
end Go.Proofs.YthljcnchaopncaaGreatDoor
namespace Go.Proofs.YthljcnchaopncaaGreatDoor
open Go.RowKit
def exK (q : Rat) : Nat → Nat → Option Nat
 | 0,_=>none
 | f + 1,k=>if ten k % (q.den : Int) = 0 then some k else exK q f (k + 1)
def exT (q : Rat) (o : Option Nat) : List UInt8 × Bool := match o with
 | none=>([],false)
 | some k=>if (ptxt (q * ((ten k : Int) : Rat)).num k).length > 1000 then ([],false) else (ptxt (q * ((ten k : Int) : Rat)).num k,true)
theorem exK_step {q : Rat} {f k : Nat} (h : ten k % (q.den : Int) ≠ 0) : exK q (f + 1) k = exK q f (k + 1) := by
 show (if _ then _ else _) = _
 rw [if_neg h]
theorem exK_hit {q : Rat} {f k : Nat} (h : ten k % (q.den : Int) = 0) : exK q (f + 1) k = some k := by
 show (if _ then _ else _) = _
 rw [if_pos h]
theorem r06_Exact_eq {q : Rat} (hq : BQ 6 q) : r06_Exact (ofQ q) = some (exT q (exK q 31 0)) := by
 apply Tot.get
 unfold r06_Exact
 refine Tot.bindX (E := fun _=>exT q (exK q 31 0) = ([],false)) (TotX.of (Tot.loop (fun m v=>∃ j : Nat,v = (j : Int) ∧ m + j = 31 ∧ exK q 31 0 = exK q m j) _ 31 (fuel_gt (by omega)) ⟨0,rfl,rfl,rfl⟩ (fun m v hv=>?_))) (fun v hv=>.ok hv.symm)
 obtain ⟨j,rfl,hj,he⟩ := hv
 cases m with
 | zero =>
  refine TotX.ite (fun y=>absurd y (by simp; omega)) (fun _=>.ret ?_)
  rw [he]; rfl
 | succ m =>
  refine TotX.ite (fun _=>?_) (fun y=>absurd y (by simp; omega))
  have hx := hq.mul (BQ_ten j)
  rw [r06_Power_eq (by omega),bindO_s,r02_Mul_eq hq (BQ_ten j) (by omega),bindO_s,r01_FromInt64_eq (by omega) (by omega),bindO_s]
  show TotX (bindO (r01_Same (ofI ((q * ((ten j : Int) : Rat)).den : Int)) (ofI 1)) _) _ _
  rw [r01_Same_eq hx.2 (by omega),bindO_s]
  have hiff : ((q * ((ten j : Int) : Rat)).den : Int) = 1 ↔ ten j % (q.den : Int) = 0 := by
   have := den_one (q := q) (k := ten j)
   constructor
   ·intro h; exact Int.emod_eq_zero_of_dvd (this.1 (by omega))
   ·intro h; have := this.2 (Int.dvd_of_emod_eq_zero h); omega
  refine TotX.ite (fun y=>?_) (fun y=>?_)
  ·have y' : ten j % (q.den : Int) = 0 := hiff.1 (by simpa using y)
   rw [exK_hit y'] at he
   show TotX (bindO (r06_shown (ofI (q * ((ten j : Int) : Rat)).num) (j : Int)) _) _ _
   rw [r06_shown_eq hx.1 (by omega) (by omega) (by omega),bindO_s]
   have hE : exT q (exK q 31 0) = if (ptxt (q * ((ten j : Int) : Rat)).num j).length > 1000 then ([],false) else (ptxt (q * ((ten j : Int) : Rat)).num j,true) := by rw [he]; rfl
   by_cases z : (ptxt (q * ((ten j : Int) : Rat)).num j).length > 1000
   ·rw [if_pos z] at hE
    rw [decide_eq_true (show ((ptxt (q * ((ten j : Int) : Rat)).num j).length : Int) > 1000 by omega),if_pos rfl]
    exact .ret hE.symm
   ·rw [if_neg z] at hE
    rw [decide_eq_false (show ¬ ((ptxt (q * ((ten j : Int) : Rat)).num j).length : Int) > 1000 by omega),if_neg (by simp)]
    exact .ret hE.symm
  ·have y' : ten j % (q.den : Int) ≠ 0 := fun z=>by
    have := hiff.2 z
    simp at y
    omega
   rw [wI64 (by omega) (by omega)]
   exact .go ⟨m,by omega,j + 1,rfl,by omega,by rw [he,exK_step y']⟩
end Go.Proofs.YthljcnchaopncaaGreatDoor
