import Derived.Test.YthljcnchaopncaaGreatDoorJhj
namespace Go.Proofs.YthljcnchaopncaaGreatDoor
open Go.RowKit
theorem mm_hit {n : Int} {k : Nat} (h : (1000 : Int) ∣ n * ten k) : ten k % ((Rat.divInt n 1000).den : Int) = 0 :=
 Int.emod_eq_zero_of_dvd (mm_den.2 h)
theorem mm_miss {n : Int} {k : Nat} (h : ¬ (1000 : Int) ∣ n * ten k) : ten k % ((Rat.divInt n 1000).den : Int) ≠ 0 :=
 fun y=>h (mm_den.1 (Int.dvd_of_emod_eq_zero y))
theorem sign_txt {n z : Int} (h : n < 0 ↔ z < 0) : (if z < 0 then ([45] : List UInt8) else []) = if n < 0 then [45] else [] := by
 by_cases y : n < 0
 ·rw [if_pos y,if_pos (h.1 y)]
 ·rw [if_neg y,if_neg (fun x=>y (h.2 x))]
theorem ten0 : ten 0 = 1 := rfl
theorem txtV_len (n : Int) (h1 : -9223372036854775808 ≤ n) (h2 : n ≤ 9223372036854775807) : (txtV n).length ≤ 100 := by
 unfold txtV txtU
 have hl := dd_len (n.natAbs / 1000) (by omega)
 have hf := fr3_len (d3 (n.natAbs % 1000)).1 (d3 (n.natAbs % 1000)).2.1 (d3 (n.natAbs % 1000)).2.2
 have hs : (if n < 0 then ([45] : List UInt8) else []).length ≤ 1 := by split <;> simp
 have hr : (if n.natAbs % 1000 = 0 then ([] : List UInt8) else 46 :: frac (n.natAbs % 1000)).length ≤ 4 := by
  split
  ·simp
  ·show (46 :: fr3 _ _ _).length ≤ 4
   simp; omega
 simp only [List.length_append]
 omega
theorem mm_pt {n z : Int} {k : Nat} (hk : k ≠ 0) (hs : n < 0 ↔ z < 0) (h0 : n.natAbs % 1000 ≠ 0) (hd : z.natAbs / 10 ^ k = n.natAbs / 1000) (hl : (frac (n.natAbs % 1000)).length = k) (hn : num (frac (n.natAbs % 1000)) = z.natAbs % 10 ^ k) : ptxt z k = txtV n := by
 rw [ptxt_form hk (frac_facts (Nat.mod_lt _ (by omega)) h0).1 hl hn,hd,sign_txt hs]
 unfold txtV txtU
 rw [if_neg h0]
theorem mm_exT {n : Int} {k : Nat} {z : Int} (hz : n * ten k = 1000 * z) (hp : ptxt z k = txtV n) (hl : (txtV n).length ≤ 100) : exT (Rat.divInt n 1000) (some k) = (txtV n,true) := by
 show (if _ then _ else _) = _
 rw [mm_num hz,hp,if_neg (by omega)]
theorem mm_text (n : Int) (h1 : -9223372036854775808 ≤ n) (h2 : n ≤ 9223372036854775807) : exT (Rat.divInt n 1000) (exK (Rat.divInt n 1000) 31 0) = (txtV n,true) := by
 have hl := txtV_len n h1 h2
 by_cases h0 : n.natAbs % 1000 = 0
 ·rw [exK_hit (mm_hit (by rw [ten0]; omega))]
  refine mm_exT (z := n / 1000) (by rw [ten0]; omega) ?_ hl
  unfold ptxt txtV txtU
  rw [if_pos rfl,if_pos h0,sign_txt (n := n) (z := n / 1000) (by omega),show (n / 1000).natAbs = n.natAbs / 1000 by omega,List.append_nil]
 ·rw [exK_step (mm_miss (by rw [ten0]; omega))]
  rcases (frac_facts (Nat.mod_lt n.natAbs (by omega)) h0).2 with ⟨a,b,c⟩ | ⟨a,a',b,c⟩ | ⟨a,b,c⟩
  ·rw [exK_step (mm_miss (by show ¬ (1000 : Int) ∣ n * 10; omega)),exK_step (mm_miss (by show ¬ (1000 : Int) ∣ n * 100; omega)),exK_hit (mm_hit (by show (1000 : Int) ∣ n * 1000; omega))]
   refine mm_exT (k := 3) (z := n) (by show n * 1000 = _; omega) ?_ hl
   exact mm_pt (by omega) Iff.rfl h0 rfl b c
  ·rw [exK_step (mm_miss (by show ¬ (1000 : Int) ∣ n * 10; omega)),exK_hit (mm_hit (by show (1000 : Int) ∣ n * 100; omega))]
   refine mm_exT (k := 2) (z := n / 10) (by show n * 100 = _; omega) ?_ hl
   refine mm_pt (by omega) (by omega) h0 ?_ b ?_
   ·show (n / 10).natAbs / 100 = _; omega
   ·show _ = (n / 10).natAbs % 100; omega
  ·rw [exK_hit (mm_hit (by show (1000 : Int) ∣ n * 10; omega))]
   refine mm_exT (k := 1) (z := n / 100) (by show n * 10 = _; omega) ?_ hl
   refine mm_pt (by omega) (by omega) h0 ?_ b ?_
   ·show (n / 100).natAbs / 10 = _; omega
   ·show _ = (n / 100).natAbs % 10; omega
theorem r06_Millimetres_eq (n : Int) (h1 : -9223372036854775808 ≤ n) (h2 : n ≤ 9223372036854775807) : r06_Millimetres n = some (txtV n) := by
 unfold r06_Millimetres
 rw [r02_Frac_eq h1 h2 (by omega) (by omega) (by omega),bindO_s,r06_Exact_eq ((BQ_frac h1 h2 (by omega) (by omega) (by omega)).mono (by omega)),bindO_s,mm_text n h1 h2]
theorem mm_back (n : Int) (h1 : -9223372036854775808 ≤ n) (h2 : n ≤ 9223372036854775807) : dc_FromMillimetres (txtV n) = some (if n > 10000000 ∨ n < -10000000 then (0,11) else (n,0)) := by
 have hl := txtV_len n h1 h2
 have hsg : (if n < 0 then ([45] : List UInt8) else []) = if decide (n < 0) = true then [45] else [] := by
  by_cases h : n < 0
  ·rw [if_pos h,decide_eq_true h,if_pos rfl]
  ·rw [if_neg h,decide_eq_false h,if_neg (by simp)]
 obtain ⟨u,hu⟩ : ∃ u,u = n.natAbs := ⟨_,rfl⟩
 have k2 := dd_dig (u / 1000)
 have kn := dd_num (u / 1000)
 have kc := dd_can (u / 1000)
 have ht : txtV n = (if decide (n < 0) = true then [45] else []) ++ (Lib.decDigits (u / 1000) ++ (if (decide (u % 1000 ≠ 0)) = true then 46 :: (if u % 1000 = 0 then [] else frac (u % 1000)) else [])) := by
  unfold txtV
  rw [hsg,← hu,txtU_form]
 -- what is behind the point
 have kp : (if u % 1000 = 0 then ([] : List UInt8) else frac (u % 1000)).all isD = true ∧ (if u % 1000 = 0 then ([] : List UInt8) else frac (u % 1000)).length ≤ 3 ∧ (decide (u % 1000 ≠ 0) = false → (if u % 1000 = 0 then ([] : List UInt8) else frac (u % 1000)) = []) ∧ (decide (u % 1000 ≠ 0) = true → (if u % 1000 = 0 then ([] : List UInt8) else frac (u % 1000)) ≠ []) ∧ (u / 1000 * 10 ^ (if u % 1000 = 0 then ([] : List UInt8) else frac (u % 1000)).length + num (if u % 1000 = 0 then ([] : List UInt8) else frac (u % 1000))) * 10 ^ (3 - (if u % 1000 = 0 then ([] : List UInt8) else frac (u % 1000)).length) = u := by
  by_cases h0 : u % 1000 = 0
  ·rw [if_pos h0]
   refine ⟨rfl,by simp,fun _=>rfl,fun y=>by simp [h0] at y,?_⟩
   show (u / 1000 * 1 + 0) * 1000 = u
   omega
  ·rw [if_neg h0]
   obtain ⟨f1,f2⟩ := frac_facts (Nat.mod_lt u (by omega)) h0
   refine ⟨f1,by rcases f2 with f | f | f <;> omega,fun y=>by simp [h0] at y,fun _ y=>?_,?_⟩
   ·rw [y] at f2; simp at f2
   ·rcases f2 with ⟨a,b,c⟩ | ⟨a,a',b,c⟩ | ⟨a,b,c⟩
    ·rw [b,c]; show (u / 1000 * 1000 + u % 1000) * 1 = u; omega
    ·rw [b,c]; show (u / 1000 * 100 + u % 1000 / 10) * 10 = u; omega
    ·rw [b,c]; show (u / 1000 * 10 + u % 1000 / 100) * 100 = u; omega
 rw [ht] at hl ⊢
 generalize (if u % 1000 = 0 then ([] : List UInt8) else frac (u % 1000)) = p at *
 obtain ⟨k3,kl,k7,k8,kv⟩ := kp
 generalize decide (u % 1000 ≠ 0) = pt at *
 generalize Lib.decDigits (u / 1000) = w at *
 have hcv := cutV_of w p pt k2 k7
 have hhead : (w ++ (if pt = true then 46 :: p else [])).head? ≠ some 45 := by
  cases hw : w with
  | nil=>exact absurd hw kc.2.1
  | cons c r =>
   have := List.all_eq_true.1 k2 c (by rw [hw]; simp)
   have := (dig_ne this).2
   simpa using this
 have hst := strip_of (decide (n < 0)) _ hhead
 rw [dc_FromMillimetres_eq hst hcv (by omega)]
 have hgood : goodB w p pt = true := by
  unfold goodB
  rw [digB_of k2 kc.2.1]
  have h2 : (decide (1 < w.length) && w.head? == some 48) = false := by
   by_cases y : 1 < w.length
   ·have := kc.2.2 y
    rw [decide_eq_true y]
    simpa using this
   ·rw [decide_eq_false y]; rfl
  rw [h2]
  cases pt with
  | false=>rfl
  | true=>rw [digB_of k3 (k8 rfl),decide_eq_true (show p.length ≤ 30 by omega)]; rfl
 have hnw : num (w ++ p) = u / 1000 * 10 ^ p.length + num p := by rw [num_app,kn]
 have hok : okD (decide (n < 0)) w p pt = true := by
  unfold okD
  rw [hgood]
  by_cases y : n < 0
  ·rw [decide_eq_true y]
   cases hl : lz (w ++ p) with
   | nil =>
    exfalso
    have := num_lz (w ++ p)
    have e : num [] = 0 := rfl
    rw [hl,hnw,e] at this
    rw [← this,Nat.zero_mul] at kv
    omega
   | cons c r=>rfl
  ·rw [decide_eq_false y]; rfl
 unfold mmRes
 have hm : mmL (decide (n < 0)) w p = n := by
  unfold mmL
  rw [← sign_mul,hnw,kv]
  unfold signI
  by_cases y : n < 0
  ·rw [decide_eq_true y,if_pos rfl]; omega
  ·rw [decide_eq_false y,if_neg (by simp)]; omega
 rw [hok,decide_eq_true kl,hm]
 rfl
end Go.Proofs.YthljcnchaopncaaGreatDoor
