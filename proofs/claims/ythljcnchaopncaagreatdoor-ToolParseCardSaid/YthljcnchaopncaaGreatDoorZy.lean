/-
  Zd, Ze, Zf, Zg in one text.
-/
import Derived.Test.YthljcnchaopncaaGreatDoorZx
namespace Go.Proofs.YthljcnchaopncaaGreatDoor
open Go.RowKit
set_option linter.unusedVariables false
set_option linter.unusedSimpArgs false
set_option maxRecDepth 100000
def wordsT (t : ApiTool) : List (List UInt8) := [[116,111,111,108],Lib.decDigits t.Number.toNat,kindN t.Kind,[114,97,100,105,117,115],txtV t.Radius,[102,108,117,116,101],txtV t.Flute,[104,111,108,100,101,114],txtV t.Holder,[115,116,101,112],txtV t.Step,[102,101,101,100],txtV t.Feed,[112,108,117,110,103,101],txtV t.Plunge]
def lineT (t : ApiTool) : List UInt8 := jnb 32 (wordsT t)
theorem join_jnb : ∀ ws : List (List UInt8),Lib.join ws [32] = jnb 32 ws
 | []=>rfl
 | [w]=>by simp [Lib.join,jnb]
 | w :: v :: ws=>by
  have ih := join_jnb (v :: ws)
  rw [jnb_cons (by simp),← ih]
  simp [Lib.join]
theorem jnb_len {B : Nat} : ∀ ws : List (List UInt8),(∀ w ∈ ws,w.length ≤ B) → (jnb 32 ws).length ≤ (B + 1) * ws.length
 | [],_=>by simp [jnb]
 | [w],h=>by have := h w (by simp); simp [jnb]; omega
 | w :: v :: ws,h=>by
  have ih := jnb_len (v :: ws) (fun x hx=>h x (by simp [hx]))
  have := h w (by simp)
  rw [jnb_cons (by simp),List.length_append,List.length_cons]
  simp only [List.length_cons,Nat.mul_add,Nat.mul_one] at ih ⊢
  omega
theorem kindN_len (k : Int) : (kindN k).length ≤ 7 := by
 rw [kindN_eq]
 split
 ·decide
 split
 ·decide
 split
 ·decide
 split
 ·decide
 ·decide
theorem words_len {t : ApiTool} (h : goodT t = true) : ∀ w ∈ wordsT t,w.length ≤ 100 := by
 obtain ⟨h1,h2,h3,h4,h5,h6,h7,h8,_⟩ := goodT_iff.1 h
 have := dd_len t.Number.toNat (by omega)
 have := kindN_len t.Kind
 intro w hw
 simp only [wordsT,List.mem_cons,List.not_mem_nil,or_false] at hw
 rcases hw with rfl | rfl | rfl | rfl | rfl | rfl | rfl | rfl | rfl | rfl | rfl | rfl | rfl | rfl | rfl
 all_goals first | (decide) | omega | exact txtV_len _ (by omega) (by omega)
theorem lineT_len {t : ApiTool} (h : goodT t = true) : (lineT t).length ≤ 1515 := by
 have := jnb_len (B := 100) (wordsT t) (words_len h)
 simpa [lineT,wordsT] using this
theorem to_fields_eq : to_fields = some [[114,97,100,105,117,115],[102,108,117,116,101],[104,111,108,100,101,114],[115,116,101,112],[102,101,101,100],[112,108,117,110,103,101]] := rfl
theorem itoa_nn {n : Int} (h : 0 ≤ n) (h2 : n ≤ 9223372036854775807) : strconv_Itoa n = some (Lib.decDigits n.toNat) := by
 unfold strconv_Itoa inI64 Lib.itoa
 rw [decide_eq_true ⟨by omega,h2⟩,guardO_t,if_neg (by omega)]
theorem to_line_eq {t : ApiTool} (h : goodT t = true) : to_line t = some (lineT t) := by
 obtain ⟨h1,h2,h3,h4,h5,h6,h7,h8,_⟩ := goodT_iff.1 h
 have hl := lineT_len h
 have hg : ∀ (k : Nat) (x : List UInt8),([[114,97,100,105,117,115],[102,108,117,116,101],[104,111,108,100,101,114],[115,116,101,112],[102,101,101,100],[112,108,117,110,103,101]] : List (List UInt8))[k]? = some x → gt ([[114,97,100,105,117,115],[102,108,117,116,101],[104,111,108,100,101,114],[115,116,101,112],[102,101,101,100],[112,108,117,110,103,101]] : List (List UInt8)) (k : Int) = some x := fun k x hx=>gt_k hx
 have hj : strings_Join (wordsT t) [32] = some (lineT t) := by
  unfold strings_Join
  rw [join_jnb]
  have hl' : (jnb 32 (wordsT t)).length ≤ 1515 := hl
  rw [decide_eq_true (show (jnb 32 (wordsT t)).length ≤ 16777216 by omega),decide_eq_true (show (wordsT t).length ≤ 16777216 by simp [wordsT])]
  rfl
 unfold to_line
 rw [itoa_nn (by omega) (by omega),bindO_s,to_KindName_eq,bindO_s,to_fields_eq]
 simp only [bindO_s]
 rw [show gt ([[114,97,100,105,117,115],[102,108,117,116,101],[104,111,108,100,101,114],[115,116,101,112],[102,101,101,100],[112,108,117,110,103,101]] : List (List UInt8)) 0 = some [114,97,100,105,117,115] from rfl,show gt ([[114,97,100,105,117,115],[102,108,117,116,101],[104,111,108,100,101,114],[115,116,101,112],[102,101,101,100],[112,108,117,110,103,101]] : List (List UInt8)) 1 = some [102,108,117,116,101] from rfl,show gt ([[114,97,100,105,117,115],[102,108,117,116,101],[104,111,108,100,101,114],[115,116,101,112],[102,101,101,100],[112,108,117,110,103,101]] : List (List UInt8)) 2 = some [104,111,108,100,101,114] from rfl,show gt ([[114,97,100,105,117,115],[102,108,117,116,101],[104,111,108,100,101,114],[115,116,101,112],[102,101,101,100],[112,108,117,110,103,101]] : List (List UInt8)) 3 = some [115,116,101,112] from rfl,show gt ([[114,97,100,105,117,115],[102,108,117,116,101],[104,111,108,100,101,114],[115,116,101,112],[102,101,101,100],[112,108,117,110,103,101]] : List (List UInt8)) 4 = some [102,101,101,100] from rfl,show gt ([[114,97,100,105,117,115],[102,108,117,116,101],[104,111,108,100,101,114],[115,116,101,112],[102,101,101,100],[112,108,117,110,103,101]] : List (List UInt8)) 5 = some [112,108,117,110,103,101] from rfl]
 simp only [bindO_s]
 rw [dc_Millimetres_eq _ (by omega) (by omega),bindO_s,dc_Millimetres_eq _ (by omega) (by omega),bindO_s,dc_Millimetres_eq _ (by omega) (by omega),bindO_s,dc_Millimetres_eq _ (by omega) (by omega),bindO_s,dc_Millimetres_eq _ (by omega) (by omega),bindO_s,dc_Millimetres_eq _ (by omega) (by omega),bindO_s,bindO_s]
 show bindO (strings_Join (wordsT t) [32]) _ = _
 rw [hj]; rfl
theorem digit_cut {n : Int} (h0 : 0 ≤ n) (h : n < 10) : cutL ([48,49,50,51,52,53,54,55,56,57] : List UInt8) n (IntKind.i64.wrap (n + 1)) = some (Lib.decDigits n.toNat) := by
 obtain ⟨k,rfl⟩ : ∃ k : Nat,n = (k : Int) := ⟨n.toNat,by omega⟩
 rw [wrap_i64 (by omega) (by omega),dd_small (by omega),Int.toNat_natCast]
 have hk : k < 10 := by omega
 match k,hk with
 | 0,_=>rfl
 | 1,_=>rfl
 | 2,_=>rfl
 | 3,_=>rfl
 | 4,_=>rfl
 | 5,_=>rfl
 | 6,_=>rfl
 | 7,_=>rfl
 | 8,_=>rfl
 | 9,_=>rfl
 | k + 10,h=>omega
theorem r27_digitsN_eq : ∀ (f : Nat) (n : Int),0 ≤ n → n < 10 ^ f → n < 1000000 → 1 ≤ f → r27_digitsN f n = some (Lib.decDigits n.toNat)
 | 0,n,_,_,_,h=>by omega
 | f + 1,n,h0,h1,h2,_=>by
  show r27_digitsB (r27_digitsN f) n = _
  unfold r27_digitsB
  by_cases h : n < 10
  ·rw [decide_eq_true h,if_pos rfl,digit_cut h0 h,bindO_s]
  ·rw [decide_eq_false h,if_neg (by simp)]
   have hf : 1 ≤ f := by
    rcases Nat.eq_zero_or_pos f with rfl | hf
    ·simp at h1; omega
    ·exact hf
   have e1 : IntKind.i64.wrap (Int.tdiv n 10) = ((n.toNat / 10 : Nat) : Int) := by
    have : Int.tdiv n 10 = n / 10 := Int.tdiv_eq_ediv_of_nonneg h0
    rw [this,wrap_i64 (by omega) (by omega)]; omega
   have e2 : Int.tmod n 10 = ((n.toNat % 10 : Nat) : Int) := by
    have : Int.tmod n 10 = n % 10 := Int.tmod_eq_emod_of_nonneg h0
    rw [this]; omega
   have hp : (10 : Int) ≤ 10 ^ f := by
    obtain ⟨g,rfl⟩ : ∃ g,f = g + 1 := ⟨f - 1,by omega⟩
    have : (0 : Int) < 10 ^ g := Int.pow_pos (by omega)
    rw [Int.pow_succ]; omega
   have hq : ((n.toNat / 10 : Nat) : Int) < 10 ^ f := by
    rw [Int.pow_succ] at h1
    generalize (10 : Int) ^ f = X at *
    omega
   rw [e1,e2,r27_digitsN_eq f _ (by omega) hq (by omega) hf,bindO_s,r27_digitsN_eq f _ (by omega) (by omega) (by omega) hf,bindO_s]
   simp only [Int.toNat_natCast]
   have l1 := dd_len (n.toNat / 10) (by omega)
   have l2 := dd_len (n.toNat % 10) (by omega)
   rw [okStr_of (by omega),guardO_t,dd_small (u := n.toNat % 10) (by omega),dd_big (u := n.toNat) (by omega)]
theorem r27_Line_eq {t : ApiTool} (h : goodT t = true) : r27_Line t = some (lineT t) := by
 obtain ⟨h1,h2,h3,h4,h5,h6,h7,h8,_⟩ := goodT_iff.1 h
 have l0 := dd_len t.Number.toNat (by omega)
 have l1 := kindN_len t.Kind
 have l2 := txtV_len t.Radius (by omega) (by omega)
 have l3 := txtV_len t.Flute (by omega) (by omega)
 have l4 := txtV_len t.Holder (by omega) (by omega)
 have l5 := txtV_len t.Step (by omega) (by omega)
 have l6 := txtV_len t.Feed (by omega) (by omega)
 have l7 := txtV_len t.Plunge (by omega) (by omega)
 have hd : r27_digits t.Number = some (Lib.decDigits t.Number.toNat) := r27_digitsN_eq 30 _ (by omega) (by omega) (by omega) (by omega)
 unfold r27_Line
 rw [hd,r27_KindName_eq,r06_Millimetres_eq _ (by omega) (by omega),r06_Millimetres_eq _ (by omega) (by omega),r06_Millimetres_eq _ (by omega) (by omega),r06_Millimetres_eq _ (by omega) (by omega),r06_Millimetres_eq _ (by omega) (by omega),r06_Millimetres_eq _ (by omega) (by omega)]
 unfold lineT wordsT
 generalize Lib.decDigits t.Number.toNat = a at *
 generalize kindN t.Kind = b at *
 generalize txtV t.Radius = c1 at *
 generalize txtV t.Flute = c2 at *
 generalize txtV t.Holder = c3 at *
 generalize txtV t.Step = c4 at *
 generalize txtV t.Feed = c5 at *
 generalize txtV t.Plunge = c6 at *
 simp only [bindO_s]
 repeat rw [okStr_of (by simp only [List.length_append,List.length_cons,List.length_nil]; omega),guardO_t]
 congr 1
 simp [jnb,List.append_assoc]
end Go.Proofs.YthljcnchaopncaaGreatDoor
namespace Go.Proofs.YthljcnchaopncaaGreatDoor
open Go.RowKit
set_option linter.unusedVariables false
set_option linter.unusedSimpArgs false
set_option maxRecDepth 100000
def dupJ (l0 : List ApiTool) : List ApiTool → Nat → Bool
 | [],_=>false
 | t :: l,i=>decide ((fT l0 t.Number).1 < (i : Int)) || dupJ l0 l (i + 1)
def magV (l : List ApiTool) : Int := if l.length > 200 then 3 else if l.all goodT = true then (if dupJ l l 0 = true then 5 else 0) else 1
theorem dup_loop (l0 : List ApiTool) : ∀ (l : List ApiTool) (i : Nat),rangeX (fun (i2 : Nat) (e2 : ApiTool) (_ : Unit)=>if (decide ((fT l0 e2.Number).1 < (i2 : Int))) = true then some (Ex.ret (Ex.ret (5 : Int))) else some (Ex.go ())) (fun _=>some (Ex.go ())) l i () = some (if dupJ l0 l i = true then Ex.ret 5 else Ex.go ())
 | [],i=>rfl
 | t :: l,i=>by
  by_cases h : decide ((fT l0 t.Number).1 < (i : Int)) = true
  ·have hd : dupJ l0 (t :: l) i = true := by show (decide _ || _) = true; rw [h]; rfl
   rw [hd]
   simp only [rangeX]
   rw [if_pos h]; rfl
  ·have h' : decide ((fT l0 t.Number).1 < (i : Int)) = false := by simpa using h
   have hd : dupJ l0 (t :: l) i = dupJ l0 l (i + 1) := by show (decide _ || _) = _; rw [h']; rfl
   rw [hd]
   simp only [rangeX]
   rw [if_neg h]
   exact dup_loop l0 l (i + 1)
theorem any_all (l : List ApiTool) : (l.any fun t=>!goodT t) = !l.all goodT := by
 induction l with
 | nil=>rfl
 | cons t l ih=>simp only [List.any_cons,List.all_cons,ih]; cases goodT t <;> rfl
theorem to_Magazine_eq (l : List ApiTool) (hl : l.length ≤ 1000000) : to_Magazine l = some (magV l) := by
  unfold to_Magazine magV
  have hF : ∀ n,to_Find l n = some (fT l n) := fun n=>to_Find_eq l n (by omega)
  by_cases h : l.length > 200
  · rw [decide_eq_true (show (l.length : Int) > 200 by omega),if_pos rfl,if_pos h]
  rw [decide_eq_false (show ¬ (l.length : Int) > 200 by omega),if_neg (by simp),if_neg h,okIdx_of (by omega),guardO_t]
  rw [range_any (p := fun t=>!goodT t) (r := (1 : Int)) l 0 (fun i x=>by
    rw [to_Valid_eq,bindO_s]
    cases goodT x <;> rfl),any_all]
  cases l.all goodT with
  | false=>rfl
  | true =>
    simp only [Bool.not_true,Bool.false_eq_true,if_false,if_true,hF,bindO_s]
    show bindX (guardO _ _) _ = _
    rw [guardO_t,dup_loop]
    cases dupJ l l 0 <;> rfl
theorem r27_Magazine_eq (l : List ApiTool) (hl : l.length ≤ 1000000) : r27_Magazine l = some (magV l) := by
  unfold r27_Magazine magV
  have hF : ∀ n,r27_Find l n = some (fT l n) := fun n=>r27_Find_eq l n (by omega)
  by_cases h : l.length > 200
  · rw [decide_eq_true (show (l.length : Int) > 200 by omega),if_pos rfl,if_pos h]
  rw [decide_eq_false (show ¬ (l.length : Int) > 200 by omega),if_neg (by simp),if_neg h,okIdx_of (by omega),guardO_t]
  rw [range_any (p := fun t=>!goodT t) (r := (1 : Int)) l 0 (fun i x=>by
    rw [r27_Good_eq,bindO_s]),any_all]
  cases l.all goodT with
  | false=>rfl
  | true =>
    simp only [Bool.not_true,Bool.false_eq_true,if_false,if_true,hF,bindO_s]
    show bindX (guardO _ _) _ = _
    rw [guardO_t,dup_loop]
    cases dupJ l l 0 <;> rfl
def nd (l : List ApiTool) : Prop := ∀ (i : Nat) (t : ApiTool),l[i]? = some t → ∀ (j : Nat) (u : ApiTool),j < i → l[j]? = some u → u.Number ≠ t.Number
theorem fJ_some {n : Int} : ∀ {l : List ApiTool} {i k : Nat},fJ n l i = some k → i ≤ k ∧ (∃ t,l[k - i]? = some t ∧ t.Number = n) ∧ ∀ j u,j < k - i → l[j]? = some u → u.Number ≠ n
 | [],_,_,h=>by cases h
 | t :: l,i,k,h=>by
  unfold fJ at h
  split at h
  ·rename_i q
   injection h with h
   subst h
   exact ⟨Nat.le_refl _,⟨t,by simp,by simpa using q⟩,fun j u hj=>by omega⟩
  ·rename_i q
   obtain ⟨h1,⟨u,h2,h3⟩,h4⟩ := fJ_some h
   refine ⟨by omega,⟨u,?_,h3⟩,fun j v hj hv=>?_⟩
   ·have : k - i = (k - (i + 1)) + 1 := by omega
    rw [this,List.getElem?_cons_succ]; exact h2
   ·cases j with
    | zero =>
     simp at hv
     subst hv
     simpa using q
    | succ j=>exact h4 j v (by omega) (by simpa using hv)
theorem fJ_none {n : Int} : ∀ {l : List ApiTool} {i : Nat},fJ n l i = none → ∀ t ∈ l,t.Number ≠ n
 | [],_,_,t,ht=>by cases ht
 | u :: l,i,h,t,ht=>by
  unfold fJ at h
  split at h
  ·cases h
  ·rename_i q
   rcases List.mem_cons.1 ht with rfl | ht
   ·simpa using q
   ·exact fJ_none h t ht
theorem dupJ_iff (l0 : List ApiTool) : ∀ (l : List ApiTool) (k : Nat),dupJ l0 l k = false ↔ ∀ j t,l[j]? = some t → ¬ (fT l0 t.Number).1 < ((k + j : Nat) : Int)
 | [],k=>by simp [dupJ]
 | u :: l,k=>by
  unfold dupJ
  rw [Bool.or_eq_false_iff,dupJ_iff l0 l (k + 1),decide_eq_false_iff_not]
  constructor
  ·rintro ⟨h1,h2⟩ j t ht
   cases j with
   | zero=>simp at ht; subst ht; simpa using h1
   | succ j =>
    have := h2 j t (by simpa using ht)
    rwa [show k + 1 + j = k + (j + 1) by omega] at this
  ·intro h
   refine ⟨by simpa using h 0 u rfl,fun j t ht=>?_⟩
   have := h (j + 1) t (by simpa using ht)
   rwa [show k + (j + 1) = k + 1 + j by omega] at this
theorem dup_nd (l : List ApiTool) : dupJ l l 0 = false ↔ nd l := by
 rw [dupJ_iff]
 constructor
 ·intro h i t ht j u hj hu
  have h1 := h i t ht
  unfold fT at h1
  cases hf : fJ t.Number l 0 with
  | none=>exact absurd rfl (fJ_none hf t (List.mem_of_getElem? ht))
  | some m =>
   rw [hf] at h1
   have h1 : ¬ ((m : Nat) : Int) < ((0 + i : Nat) : Int) := h1
   exact (fJ_some hf).2.2 j u (by omega) hu
 ·intro h i t ht hlt
  unfold fT at hlt
  cases hf : fJ t.Number l 0 with
  | none=>exact absurd rfl (fJ_none hf t (List.mem_of_getElem? ht))
  | some m =>
   rw [hf] at hlt
   have hlt : ((m : Nat) : Int) < ((0 + i : Nat) : Int) := hlt
   obtain ⟨_,⟨u,h2,h3⟩,_⟩ := fJ_some hf
   exact h i t ht m u (by omega) (by simpa using h2) h3
theorem mag_ok {l : List ApiTool} : magV l = 0 ↔ l.length ≤ 200 ∧ (∀ t ∈ l,goodT t = true) ∧ nd l := by
 unfold magV
 rw [← dup_nd]
 constructor
 ·intro h
  split at h
  ·omega
  ·split at h
   ·split at h
    ·omega
    ·rename_i h1 h2 h3
     exact ⟨by omega,fun t ht=>List.all_eq_true.1 h2 t ht,by simpa using h3⟩
   ·omega
 ·rintro ⟨h1,h2,h3⟩
  rw [if_neg (by omega),if_pos (List.all_eq_true.2 h2),h3]; rfl
def fmtV (l : List ApiTool) : List UInt8 := l.flatMap fun t=>lineT t ++ [10]
theorem fold_app {f : ApiTool → List UInt8} : ∀ (l : List ApiTool) (v : List UInt8),l.foldl (fun v t=>v ++ f t) v = v ++ l.flatMap f
 | [],v=>by simp
 | t :: l,v=>by rw [List.foldl_cons,fold_app l,List.flatMap_cons,List.append_assoc]
def fmtR (l : List ApiTool) : List UInt8 × Int := if magV l = 0 then (fmtV l,0) else ([],magV l)
theorem to_Format_eq (l : List ApiTool) (hl : l.length ≤ 1000000) : to_Format l = some (fmtR l) := by
  unfold to_Format fmtR
  rw [to_Magazine_eq l hl,bindO_s]
  by_cases h : magV l = 0
  · rw [h]
    obtain ⟨h1,h2,_⟩ := mag_ok.1 h
    rw [if_neg (by simp),if_pos rfl,okIdx_of (by omega),guardO_t]
    rw [range_fold (fun v t=>v ++ (lineT t ++ [10])) (fun i v=>v.length ≤ 1516 * i ∧ i ≤ 200) (L := l) (fun i x v hx hv=>by
      have hg := h2 x (List.mem_of_getElem? hx)
      have hll := lineT_len hg
      have hlt := getElem_lt hx
      rw [to_line_eq hg,bindO_s,okStr_of (by simp; omega),guardO_t,okLen_of (by simp only [List.length_append,List.length_cons,List.length_nil]; omega),guardO_t]
      exact ⟨rfl,by simp only [List.length_append,List.length_cons,List.length_nil]; omega,by omega⟩) l 0 [] rfl ⟨by simp,by omega⟩,fold_app]
    simp [fmtV]
  · rw [if_pos (by simpa using h),if_neg h]
theorem r27_Format_eq (l : List ApiTool) (hl : l.length ≤ 1000000) : r27_Format l = some (fmtR l) := by
  unfold r27_Format fmtR
  rw [r27_Magazine_eq l hl,bindO_s]
  by_cases h : magV l = 0
  · rw [h]
    obtain ⟨h1,h2,_⟩ := mag_ok.1 h
    rw [if_neg (by simp),if_pos rfl,okIdx_of (by omega),guardO_t]
    rw [range_fold (fun v t=>v ++ (lineT t ++ [10])) (fun i v=>v.length ≤ 1516 * i ∧ i ≤ 200) (L := l) (fun i x v hx hv=>by
      have hg := h2 x (List.mem_of_getElem? hx)
      have hll := lineT_len hg
      have hlt := getElem_lt hx
      rw [r27_Line_eq hg,bindO_s,okStr_of (by omega),guardO_t,okStr_of (by simp only [List.length_append,List.length_cons,List.length_nil]; omega),guardO_t]
      exact ⟨by rw [List.append_assoc],by simp only [List.length_append,List.length_cons,List.length_nil]; omega,by omega⟩) l 0 [] rfl ⟨by simp,by omega⟩,fold_app]
    simp [fmtV]
  · rw [if_pos (by simpa using h),if_neg h]
end Go.Proofs.YthljcnchaopncaaGreatDoor
namespace Go.Proofs.YthljcnchaopncaaGreatDoor
open Go.RowKit
set_option linter.unusedVariables false
set_option linter.unusedSimpArgs false
set_option maxRecDepth 100000
theorem dig_free {l : List UInt8} (h : l.all isD = true) : ∀ c ∈ l,c ≠ 32 ∧ c ≠ 10 := fun c hc=>by
 have := isD_iff.1 (List.all_eq_true.1 h c hc)
 refine ⟨fun e=>?_,fun e=>?_⟩ <;> (subst e; revert this; decide)
theorem txtV_free (n : Int) : ∀ c ∈ txtV n,c ≠ 32 ∧ c ≠ 10 := by
 intro c hc
 unfold txtV txtU at hc
 simp only [List.mem_append] at hc
 rcases hc with hc | hc | hc
 ·split at hc
  ·simp at hc; subst hc; decide
  ·simp at hc
 ·exact dig_free (dd_dig _) c hc
 ·split at hc
  ·simp at hc
  ·rename_i h0
   rcases List.mem_cons.1 hc with rfl | hc
   ·decide
   ·exact dig_free (frac_facts (Nat.mod_lt _ (by omega)) h0).1 c hc
theorem kindN_free (k : Int) : ∀ c ∈ kindN k,c ≠ 32 ∧ c ≠ 10 := by
 rw [kindN_eq]
 split
 ·decide
 split
 ·decide
 split
 ·decide
 split
 ·decide
 ·decide
theorem words_free (t : ApiTool) : ∀ w ∈ wordsT t,∀ c ∈ w,c ≠ 32 ∧ c ≠ 10 := by
 intro w hw
 simp only [wordsT,List.mem_cons,List.not_mem_nil,or_false] at hw
 rcases hw with rfl | rfl | rfl | rfl | rfl | rfl | rfl | rfl | rfl | rfl | rfl | rfl | rfl | rfl | rfl
 all_goals first | (decide) | exact txtV_free _ | exact kindN_free _ | exact dig_free (dd_dig _)
theorem jnb_free {z : UInt8} (hz : z ≠ 10) : ∀ {ws : List (List UInt8)},(∀ w ∈ ws,∀ c ∈ w,c ≠ 10) → ∀ c ∈ jnb z ws,c ≠ 10
 | [],_,c,hc=>by simp [jnb] at hc
 | [w],h,c,hc=>h w (by simp) c (by simpa [jnb] using hc)
 | w :: v :: ws,h,c,hc=>by
  rw [jnb_cons (by simp)] at hc
  rcases List.mem_append.1 hc with hc | hc
  ·exact h w (by simp) c hc
  ·rcases List.mem_cons.1 hc with rfl | hc
   ·exact hz
   ·exact jnb_free hz (fun x hx=>h x (by simp [hx])) c hc
theorem lineT_free (t : ApiTool) : ∀ c ∈ lineT t,c ≠ 10 := jnb_free (by decide) fun w hw c hc=>(words_free t w hw c hc).2
theorem lineT_words (t : ApiTool) : pcb 32 (lineT t) = wordsT t := pcb_jnb (by simp [wordsT]) fun w hw c hc=>(words_free t w hw c hc).1
theorem split_eq (s : List UInt8) (hl : s.length ≤ 16777216) : strings_Split s [32] = some (pcb 32 s) := by
 show guardO _ _ = _
 rw [decide_eq_true hl,guardO_t,split_pcb]
theorem atoi_tot (s : List UInt8) (hl : s.length ≤ 100000) : ∃ y,strconv_AtoiE s = some y := by
 unfold strconv_AtoiE
 rw [decide_eq_true (by omega),guardO_t]
 split <;> exact ⟨_,rfl⟩
theorem atoi_dd {n : Int} (h1 : 1 ≤ n) (h2 : n ≤ 9999) : strconv_AtoiE (Lib.decDigits n.toNat) = some (n,true) := by
 have hd := dd_dig n.toNat
 have hnum := dd_num n.toNat
 have hne := dd_ne n.toNat
 have hl := dd_len n.toNat (by omega)
 generalize Lib.decDigits n.toNat = D at *
 have hB := parseB_eq hd hne
 rw [if_pos (by omega)] at hB
 have hP : Lib.parseIntB 64 D = Lib.signlessC (2 ^ (64 - 1)) (Lib.parseUintB 64 D) := by
  cases D with
  | nil=>exact absurd rfl hne
  | cons c r =>
   have hc := isD_iff.1 (List.all_eq_true.1 hd c (by simp))
   exact Lib.parseIntB_plain 64 c r (by omega) (by omega)
 have e64 : (2 ^ (64 - 1) : Nat) = 9223372036854775808 := rfl
 have hA : Lib.atoiAll D = .ok (num D : Int) := by
  rw [← Lib.parseIntB_64,hP,hB,e64]
  show (if _ then _ else _) = _
  rw [if_neg (by omega)]
 unfold strconv_AtoiE
 rw [decide_eq_true (by omega),guardO_t,hA]
 show some ((num D : Int),true) = _
 rw [hnum]
 congr 2
 omega
theorem number_tot (s : List UInt8) (hl : s.length ≤ 100000) : ∃ y,r27_number s = some y := by
 have key : Tot (r27_number s) (fun _=>True) := by
  unfold r27_number
  refine Tot.bindX (E := fun _=>True) (TotX.guard (okIdx_of (by omega)) (TotX.of (Tot.range (fun i v=>True) _ trivial (fun i c v hx hr=>?_) (fun v hr=>.ok trivial)))) (fun v hv=>.ok trivial)
  exact TotX.ite (fun _=>.ret trivial) (fun h=>.go trivial)
 obtain ⟨y,hy,_⟩ := key
 exact ⟨y,hy⟩
theorem dd_len4 {u : Nat} (h : u ≤ 9999) : (Lib.decDigits u).length ≤ 4 := by
 by_cases h0 : u = 0
 ·subst h0; rw [dd_small (by omega)]; simp
 have h1 := num_pos (dd_dig u) (dd_ne u) (dd_head h0)
 rw [dd_num] at h1
 rcases Nat.lt_or_ge 4 (Lib.decDigits u).length with h2 | h2
 ·have : 10 ^ 4 ≤ 10 ^ ((Lib.decDigits u).length - 1) := Nat.pow_le_pow_right (by omega) (by omega)
  omega
 ·exact h2
theorem number_dd {n : Int} (h1 : 1 ≤ n) (h2 : n ≤ 9999) : r27_number (Lib.decDigits n.toNat) = some n := by
 have hd := dd_dig n.toNat
 have hnum := dd_num n.toNat
 have hl := dd_len4 (u := n.toNat) (by omega)
 generalize Lib.decDigits n.toNat = D at *
 have key : Tot (r27_number D) (fun v=>v = (num D : Int)) := by
  unfold r27_number
  refine Tot.bindX (E := fun v=>v = (num D : Int)) (TotX.guard (okIdx_of (by omega)) (TotX.of (Tot.range (fun i v=>v = (num (D.take i) : Int)) _ rfl (fun i c v hx hr=>?_) (fun v hr=>.ok (by rw [hr,List.take_length])))) ) (fun v hv=>.ok hv)
  have hlt := getElem_lt hx
  have hc := isD_iff.1 (List.all_eq_true.1 hd c (List.mem_of_getElem? hx))
  have ht : D.take (i + 1) = D.take i ++ [c] := by rw [List.take_add_one,hx]; rfl
  have hb := num_lt (D.take i) (by rw [List.all_eq_true]; exact fun x hx=>List.all_eq_true.1 hd x (List.mem_of_mem_take hx))
  have hp : 10 ^ (D.take i).length ≤ 10 ^ 4 := Nat.pow_le_pow_right (by omega) (by simp; omega)
  rw [decide_eq_false (show ¬ (D.length : Int) > 4 by omega),decide_eq_false (show ¬ (c.toNat : Int) < 48 by omega),decide_eq_false (show ¬ (c.toNat : Int) > 57 by omega)]
  refine TotX.ite (fun h=>by cases h) (fun _=>.go ?_)
  have e1 : IntKind.u8.wrap ((c.toNat : Int) - 48) = (c.toNat : Int) - 48 := by
   unfold IntKind.wrap; simp [IntKind.signed,IntKind.bits]; omega
  have h4 : (10 ^ 4 : Nat) = 10000 := rfl
  rw [hr,e1,ht,num_snoc,wrap_i64 (n := (c.toNat : Int) - 48) (by omega) (by omega),wrap_i64 (n := 10 * ((num (D.take i) : Nat) : Int)) (by omega) (by omega),wrap_i64 (by omega) (by omega)]
  unfold dv
  omega
 obtain ⟨y,hy,rfl⟩ := key
 rw [hy,hnum]
 congr 1
 omega
theorem fm_same (s : List UInt8) (hl : s.length ≤ 20000) : ∃ y,dc_FromMillimetres s = some y ∧ r06_FromMillimetres s = some y := by
 exact ⟨_,dc_FromMillimetres_eq (s := s) (neg := (strip s).1) (b := (strip s).2) (w := (cutV (strip s).2).1) (p := (cutV (strip s).2).2.1) (pt := (cutV (strip s).2).2.2) rfl rfl hl,r06_FromMillimetres_eq (s := s) (neg := (strip s).1) (b := (strip s).2) (w := (cutV (strip s).2).1) (p := (cutV (strip s).2).2.1) (pt := (cutV (strip s).2).2.2) rfl rfl hl⟩
theorem fm_txt {n : Int} (h1 : 1 ≤ n) (h2 : n ≤ 10000000) : dc_FromMillimetres (txtV n) = some (n,0) ∧ r06_FromMillimetres (txtV n) = some (n,0) := by
 have hb := mm_back n (by omega) (by omega)
 rw [if_neg (by omega)] at hb
 have hl := txtV_len n (by omega) (by omega)
 obtain ⟨y,hy1,hy2⟩ := fm_same (txtV n) (by omega)
 rw [hb] at hy1
 injection hy1 with hy1
 subst hy1
 exact ⟨hb,hy2⟩
def isRd (s : List UInt8) (r : ApiTool × Bool) : Prop := (∃ t,goodT t = true ∧ s = lineT t ∧ r = (t,true)) ∨ ((∀ t,goodT t = true → s ≠ lineT t) ∧ r.2 = false)
theorem gt15 {ws : List (List UInt8)} (h : ws.length = 15) {B : Nat} (hb : ∀ w ∈ ws,w.length ≤ B) (k : Nat) (hk : k < 15) : ∃ w,gt ws (k : Int) = some w ∧ w.length ≤ B := by
 have hl : k < ws.length := by omega
 exact ⟨ws[k],gt_k (List.getElem?_eq_getElem hl),hb _ (List.getElem_mem hl)⟩
theorem to_read_ok (s : List UInt8) (hl : s.length ≤ 20000) : Tot (to_read s) (isRd s) := by
 by_cases hx : ∃ t,goodT t = true ∧ s = lineT t
 ·obtain ⟨t,ht,rfl⟩ := hx
  obtain ⟨h1,h2,h3,h4,h5,h6,h7,h8,_⟩ := goodT_iff.1 ht
  refine ⟨(t,true),?_,.inl ⟨t,ht,rfl,rfl⟩⟩
  unfold to_read
  rw [split_eq _ (by omega),bindO_s,lineT_words]
  have g1 : gt (wordsT t) 1 = some (Lib.decDigits t.Number.toNat) := rfl
  have g2 : gt (wordsT t) 2 = some (kindN t.Kind) := rfl
  have g4 : gt (wordsT t) 4 = some (txtV t.Radius) := rfl
  have g6 : gt (wordsT t) 6 = some (txtV t.Flute) := rfl
  have g8 : gt (wordsT t) 8 = some (txtV t.Holder) := rfl
  have g10 : gt (wordsT t) 10 = some (txtV t.Step) := rfl
  have g12 : gt (wordsT t) 12 = some (txtV t.Feed) := rfl
  have g14 : gt (wordsT t) 14 = some (txtV t.Plunge) := rfl
  have hk : kindSel (kindN t.Kind) 0 = t.Kind := by
   have : t.Kind = 1 ∨ t.Kind = 2 ∨ t.Kind = 3 ∨ t.Kind = 4 := by omega
   rcases this with h | h | h | h <;> rw [h] <;> rfl
  rw [if_neg (by simp [wordsT]),g1,bindO_s,atoi_dd h1.1 h1.2,bindO_s]
  rw [if_neg (by simp),g2,bindO_s,g4,bindO_s,(fm_txt h3.1 h3.2).1,bindO_s,if_neg (by simp),g6,bindO_s,(fm_txt h4.1 h4.2).1,bindO_s,if_neg (by simp),g8,bindO_s,(fm_txt h5.1 h5.2).1,bindO_s,if_neg (by simp),g10,bindO_s,(fm_txt h6.1 h6.2).1,bindO_s,if_neg (by simp),g12,bindO_s,(fm_txt h7.1 h7.2).1,bindO_s,if_neg (by simp),g14,bindO_s,(fm_txt h8.1 h8.2).1,bindO_s,if_neg (by simp)]
  rw [hk]
  show bindO (bindO (to_Valid t) _) _ = _
  rw [to_Valid_eq,if_pos ht,bindO_s,if_pos (by simp)]
  show bindO (bindO (to_line t) _) _ = _
  rw [to_line_eq ht,bindO_s,bindO_s]
  simp
 ·have hno : ∀ t,goodT t = true → s ≠ lineT t := fun t h e=>hx ⟨t,h,e⟩
  refine Tot.mono (E := fun r=>r.2 = false) ?_ (fun r hr=>.inr ⟨hno,hr⟩)
  unfold to_read
  rw [split_eq _ (by omega),bindO_s]
  have hb : ∀ w ∈ pcb 32 s,w.length ≤ 20000 := fun w hw=>by have := pcb_mem hw; omega
  generalize pcb 32 s = ws at hb
  refine Tot.ite (fun _=>.ok rfl) (fun q=>?_)
  have hws : ws.length = 15 := by
   have : (ws.length : Int) = 15 := by simpa using q
   omega
  obtain ⟨w1,e1,l1⟩ := gt15 hws hb 1 (by omega)
  obtain ⟨w2,e2,l2⟩ := gt15 hws hb 2 (by omega)
  obtain ⟨w4,e4,l4⟩ := gt15 hws hb 4 (by omega)
  obtain ⟨w6,e6,l6⟩ := gt15 hws hb 6 (by omega)
  obtain ⟨w8,e8,l8⟩ := gt15 hws hb 8 (by omega)
  obtain ⟨w10,e10,l10⟩ := gt15 hws hb 10 (by omega)
  obtain ⟨w12,e12,l12⟩ := gt15 hws hb 12 (by omega)
  obtain ⟨w14,e14,l14⟩ := gt15 hws hb 14 (by omega)
  obtain ⟨a,ha⟩ := atoi_tot w1 (by omega)
  obtain ⟨m4,f4,_⟩ := fm_same w4 l4
  obtain ⟨m6,f6,_⟩ := fm_same w6 l6
  obtain ⟨m8,f8,_⟩ := fm_same w8 l8
  obtain ⟨m10,f10,_⟩ := fm_same w10 l10
  obtain ⟨m12,f12,_⟩ := fm_same w12 l12
  obtain ⟨m14,f14,_⟩ := fm_same w14 l14
  rw [show gt ws 1 = some w1 from e1,bindO_s,ha,bindO_s]
  refine Tot.ite (fun _=>.ok rfl) (fun _=>?_)
  rw [show gt ws 2 = some w2 from e2,bindO_s]
  refine Tot.bindX (E := fun _=>True) ?_ (fun v _=>?_)
  ·rw [show gt ws 4 = some w4 from e4,bindO_s,f4,bindO_s]
   refine TotX.ite (fun _=>.ret rfl) (fun _=>?_)
   rw [show gt ws 6 = some w6 from e6,bindO_s,f6,bindO_s]
   refine TotX.ite (fun _=>.ret rfl) (fun _=>?_)
   rw [show gt ws 8 = some w8 from e8,bindO_s,f8,bindO_s]
   refine TotX.ite (fun _=>.ret rfl) (fun _=>?_)
   rw [show gt ws 10 = some w10 from e10,bindO_s,f10,bindO_s]
   refine TotX.ite (fun _=>.ret rfl) (fun _=>?_)
   rw [show gt ws 12 = some w12 from e12,bindO_s,f12,bindO_s]
   refine TotX.ite (fun _=>.ret rfl) (fun _=>?_)
   rw [show gt ws 14 = some w14 from e14,bindO_s,f14,bindO_s]
   refine TotX.ite (fun _=>.ret rfl) (fun _=>.go trivial)
  ·refine Tot.bind (E := fun b=>b = false) ?_ (fun b hb=>.ok hb)
   rw [to_Valid_eq,bindO_s]
   refine Tot.ite (fun q=>?_) (fun _=>.ok rfl)
   have hg : goodT v = true := by
    cases h : goodT v with
    | true=>rfl
    | false=>rw [h] at q; simp at q
   rw [to_line_eq hg,bindO_s]
   exact .ok (by simpa using fun e=>hno v hg e.symm)
theorem r27_read_ok (s : List UInt8) (hl : s.length ≤ 20000) : Tot (r27_read s) (isRd s) := by
 by_cases hx : ∃ t,goodT t = true ∧ s = lineT t
 ·obtain ⟨t,ht,rfl⟩ := hx
  obtain ⟨h1,h2,h3,h4,h5,h6,h7,h8,_⟩ := goodT_iff.1 ht
  refine ⟨(t,true),?_,.inl ⟨t,ht,rfl,rfl⟩⟩
  unfold r27_read
  rw [r27_words_eq _ (by omega),bindO_s,lineT_words]
  have g1 : gt (wordsT t) 1 = some (Lib.decDigits t.Number.toNat) := rfl
  have g2 : gt (wordsT t) 2 = some (kindN t.Kind) := rfl
  have g4 : gt (wordsT t) 4 = some (txtV t.Radius) := rfl
  have g6 : gt (wordsT t) 6 = some (txtV t.Flute) := rfl
  have g8 : gt (wordsT t) 8 = some (txtV t.Holder) := rfl
  have g10 : gt (wordsT t) 10 = some (txtV t.Step) := rfl
  have g12 : gt (wordsT t) 12 = some (txtV t.Feed) := rfl
  have g14 : gt (wordsT t) 14 = some (txtV t.Plunge) := rfl
  rw [if_neg (by simp [wordsT]),g1,bindO_s,number_dd h1.1 h1.2,bindO_s]
  simp only [g2,bindO_s,r27_KindName_eq]
  have fin : ∀ k : Int,k = t.Kind → (bindO (gt (wordsT t) 4) fun (e6 : (List UInt8)) =>
  bindO (r06_FromMillimetres e6) fun (y7 : Int × Int) =>
  bindO (gt (wordsT t) 6) fun (e7 : (List UInt8)) =>
  bindO (r06_FromMillimetres e7) fun (y8 : Int × Int) =>
  bindO (gt (wordsT t) 8) fun (e8 : (List UInt8)) =>
  bindO (r06_FromMillimetres e8) fun (y9 : Int × Int) =>
  bindO (gt (wordsT t) 10) fun (e9 : (List UInt8)) =>
  bindO (r06_FromMillimetres e9) fun (y10 : Int × Int) =>
  bindO (gt (wordsT t) 12) fun (e10 : (List UInt8)) =>
  bindO (r06_FromMillimetres e10) fun (y11 : Int × Int) =>
  bindO (gt (wordsT t) 14) fun (e11 : (List UInt8)) =>
  bindO (r06_FromMillimetres e11) fun (y12 : Int × Int) =>
  bindO (bindO (r27_Good (ApiTool.mk t.Number k y7.1 y8.1 y9.1 y10.1 y11.1 y12.1)) fun (y13 : Bool) =>
    if y13 = true then
     bindO (r27_Line (ApiTool.mk t.Number k y7.1 y8.1 y9.1 y10.1 y11.1 y12.1)) fun (y14 : (List UInt8)) =>
     some (y14 == lineT t)
    else
     some false) fun (v6 : Bool) =>
  some (ApiTool.mk t.Number k y7.1 y8.1 y9.1 y10.1 y11.1 y12.1,v6)) = some (t,true) := by
   rintro k rfl
   rw [g4,bindO_s,(fm_txt h3.1 h3.2).2,bindO_s,g6,bindO_s,(fm_txt h4.1 h4.2).2,bindO_s,g8,bindO_s,(fm_txt h5.1 h5.2).2,bindO_s,g10,bindO_s,(fm_txt h6.1 h6.2).2,bindO_s,g12,bindO_s,(fm_txt h7.1 h7.2).2,bindO_s,g14,bindO_s,(fm_txt h8.1 h8.2).2,bindO_s]
   show bindO (bindO (r27_Good t) _) _ = _
   rw [r27_Good_eq,ht,bindO_s,if_pos rfl]
   show bindO (bindO (r27_Line t) _) _ = _
   rw [r27_Line_eq ht,bindO_s,bindO_s]
   simp
  have hk : t.Kind = 1 ∨ t.Kind = 2 ∨ t.Kind = 3 ∨ t.Kind = 4 := by omega
  have n1 : kindN 1 = [109,105,108,108] := rfl
  have n2 : kindN 2 = [100,114,105,108,108] := rfl
  have n3 : kindN 3 = [99,104,97,109,102,101,114] := rfl
  have n4 : kindN 4 = [112,114,111,98,101] := rfl
  rcases hk with h | h | h | h
  ·rw [show kindN t.Kind = [109,105,108,108] by rw [h]; rfl]
   exact fin 1 h.symm
  ·rw [show kindN t.Kind = [100,114,105,108,108] by rw [h]; rfl]
   exact fin 2 h.symm
  ·rw [show kindN t.Kind = [99,104,97,109,102,101,114] by rw [h]; rfl]
   exact fin 3 h.symm
  ·rw [show kindN t.Kind = [112,114,111,98,101] by rw [h]; rfl]
   exact fin 4 h.symm
 ·have hno : ∀ t,goodT t = true → s ≠ lineT t := fun t h e=>hx ⟨t,h,e⟩
  refine Tot.mono (E := fun r=>r.2 = false) ?_ (fun r hr=>.inr ⟨hno,hr⟩)
  unfold r27_read
  rw [r27_words_eq _ (by omega),bindO_s]
  have hb : ∀ w ∈ pcb 32 s,w.length ≤ 20000 := fun w hw=>by have := pcb_mem hw; omega
  generalize pcb 32 s = ws at hb
  refine Tot.ite (fun _=>.ok rfl) (fun q=>?_)
  have hws : ws.length = 15 := by
   have : (ws.length : Int) = 15 := by simpa using q
   omega
  obtain ⟨w1,e1,l1⟩ := gt15 hws hb 1 (by omega)
  obtain ⟨w2,e2,l2⟩ := gt15 hws hb 2 (by omega)
  obtain ⟨w4,e4,l4⟩ := gt15 hws hb 4 (by omega)
  obtain ⟨w6,e6,l6⟩ := gt15 hws hb 6 (by omega)
  obtain ⟨w8,e8,l8⟩ := gt15 hws hb 8 (by omega)
  obtain ⟨w10,e10,l10⟩ := gt15 hws hb 10 (by omega)
  obtain ⟨w12,e12,l12⟩ := gt15 hws hb 12 (by omega)
  obtain ⟨w14,e14,l14⟩ := gt15 hws hb 14 (by omega)
  obtain ⟨a,ha⟩ := number_tot w1 (by omega)
  obtain ⟨m4,_,f4⟩ := fm_same w4 l4
  obtain ⟨m6,_,f6⟩ := fm_same w6 l6
  obtain ⟨m8,_,f8⟩ := fm_same w8 l8
  obtain ⟨m10,_,f10⟩ := fm_same w10 l10
  obtain ⟨m12,_,f12⟩ := fm_same w12 l12
  obtain ⟨m14,_,f14⟩ := fm_same w14 l14
  rw [show gt ws 1 = some w1 from e1,bindO_s,ha,bindO_s]
  refine Tot.bind (E := fun _=>True) ?_ (fun v _=>?_)
  ·simp only [show gt ws 2 = some w2 from e2,bindO_s,r27_KindName_eq]
   refine Tot.bind (E := fun _=>True) (Tot.ite (fun _=>.ok trivial) (fun _=>.ok trivial)) (fun _ _=>?_)
   refine Tot.bind (E := fun _=>True) (Tot.ite (fun _=>.ok trivial) (fun _=>.ok trivial)) (fun _ _=>?_)
   refine Tot.bind (E := fun _=>True) (Tot.ite (fun _=>.ok trivial) (fun _=>.ok trivial)) (fun _ _=>?_)
   refine Tot.bind (E := fun _=>True) (Tot.ite (fun _=>.ok trivial) (fun _=>.ok trivial)) (fun _ _=>.ok trivial)
  ·rw [show gt ws 4 = some w4 from e4,bindO_s,f4,bindO_s,show gt ws 6 = some w6 from e6,bindO_s,f6,bindO_s,show gt ws 8 = some w8 from e8,bindO_s,f8,bindO_s,show gt ws 10 = some w10 from e10,bindO_s,f10,bindO_s,show gt ws 12 = some w12 from e12,bindO_s,f12,bindO_s,show gt ws 14 = some w14 from e14,bindO_s,f14,bindO_s]
   refine Tot.bind (E := fun b=>b = false) ?_ (fun b hb=>.ok hb)
   rw [r27_Good_eq,bindO_s]
   refine Tot.ite (fun hg=>?_) (fun _=>.ok rfl)
   rw [r27_Line_eq hg,bindO_s]
   exact .ok (by simpa using fun e=>hno _ hg e.symm)
theorem lineT_inj {t u : ApiTool} (ht : goodT t = true) (hu : goodT u = true) (h : lineT t = lineT u) : t = u := by
 have hl := lineT_len ht
 obtain ⟨r,hr,hp⟩ := to_read_ok (lineT t) (by omega)
 obtain ⟨r2,hr2,hp2⟩ := to_read_ok (lineT u) (by have := lineT_len hu; omega)
 obtain ⟨h1,h2,h3,h4,h5,h6,h7,h8,_⟩ := goodT_iff.1 ht
 obtain ⟨k1,k2,k3,k4,k5,k6,k7,k8,_⟩ := goodT_iff.1 hu
 have hw : wordsT t = wordsT u := by rw [← lineT_words,← lineT_words,h]
 simp only [wordsT,List.cons.injEq,and_true,true_and] at hw
 obtain ⟨w1,w2,w3,w4,w5,w6,w7,w8⟩ := hw
 have tx : ∀ {a b : Int},1 ≤ a → a ≤ 10000000 → 1 ≤ b → b ≤ 10000000 → txtV a = txtV b → a = b := fun a1 a2 b1 b2 e=>by
  have x := (fm_txt a1 a2).1
  rw [e,(fm_txt b1 b2).1] at x
  injection x with x; injection x with x; exact x.symm
 have e1 : t.Number = u.Number := by
  have x := atoi_dd h1.1 h1.2
  rw [w1,atoi_dd k1.1 k1.2] at x
  injection x with x; injection x with x; exact x.symm
 have e2 : t.Kind = u.Kind := by
  have a : t.Kind = 1 ∨ t.Kind = 2 ∨ t.Kind = 3 ∨ t.Kind = 4 := by omega
  have b : u.Kind = 1 ∨ u.Kind = 2 ∨ u.Kind = 3 ∨ u.Kind = 4 := by omega
  rcases a with a | a | a | a <;> rcases b with b | b | b | b <;> rw [a,b] at w2 ⊢ <;> exact absurd w2 (by decide)
 obtain ⟨a1,a2,a3,a4,a5,a6,a7,a8⟩ := t
 obtain ⟨b1,b2,b3,b4,b5,b6,b7,b8⟩ := u
 simp only at *
 rw [e1,e2,tx h3.1 h3.2 k3.1 k3.2 w3,tx h4.1 h4.2 k4.1 k4.2 w4,tx h5.1 h5.2 k5.1 k5.2 w5,tx h6.1 h6.2 k6.1 k6.2 w6,tx h7.1 h7.2 k7.1 k7.2 w7,tx h8.1 h8.2 k8.1 k8.2 w8]
end Go.Proofs.YthljcnchaopncaaGreatDoor
namespace Go.Proofs.YthljcnchaopncaaGreatDoor
open Go.RowKit
set_option linter.unusedVariables false
set_option linter.unusedSimpArgs false
set_option maxRecDepth 100000
def rdT (p : List UInt8) : Option ApiTool := match to_read p with
 | some (t,true)=>some t
 | _=>none
theorem rd_cases (p : List UInt8) (hl : p.length ≤ 20000) : (∃ t,goodT t = true ∧ p = lineT t ∧ rdT p = some t ∧ to_read p = some (t,true) ∧ r27_read p = some (t,true)) ∨ (rdT p = none ∧ (∃ t,to_read p = some (t,false)) ∧ ∃ t,r27_read p = some (t,false)) := by
 obtain ⟨r,hr,hp⟩ := to_read_ok p hl
 obtain ⟨q,hq,hp2⟩ := r27_read_ok p hl
 rcases hp with ⟨t,ht,e,rfl⟩ | ⟨hno,h2⟩
 ·rcases hp2 with ⟨u,hu,e2,rfl⟩ | ⟨hno,_⟩
  ·have := lineT_inj ht hu (e.symm.trans e2)
   subst this
   exact .inl ⟨t,ht,e,by unfold rdT; rw [hr],hr,hq⟩
  ·exact absurd e (hno t ht)
 ·rcases hp2 with ⟨u,hu,e2,rfl⟩ | ⟨_,h3⟩
  ·exact absurd e2 (hno u hu)
  ·obtain ⟨r1,r2⟩ := r
   obtain ⟨q1,q2⟩ := q
   dsimp only at h2 h3
   subst h2; subst h3
   exact .inr ⟨by unfold rdT; rw [hr],⟨r1,hr⟩,⟨q1,hq⟩⟩
theorem rdT_line {t : ApiTool} (ht : goodT t = true) : rdT (lineT t) = some t := by
 rcases rd_cases (lineT t) (by have := lineT_len ht; omega) with ⟨u,hu,e,h,_⟩ | ⟨_,⟨u,hu⟩,_⟩
 ·rw [h,lineT_inj ht hu e]
 ·obtain ⟨r,hr,hp⟩ := to_read_ok (lineT t) (by have := lineT_len ht; omega)
  rw [hu] at hr
  injection hr with hr
  subst hr
  rcases hp with ⟨v,_,_,e⟩ | ⟨hno,_⟩
  ·injection e with _ e; cases e
  ·exact absurd rfl (hno t ht)
def runT : List (List UInt8) → List ApiTool → List ApiTool × Int × Int
 | [],out=>(out,0,0)
 | [p],out=>if p = [] then (out,0,0) else if out.length = 200 then ([],201,3) else ([],(out.length : Int) + 1,2)
 | p :: q :: ps,out=>if out.length = 200 then ([],201,3) else match rdT p with
  | none=>([],(out.length : Int) + 1,2)
  | some t=>if (fT out t.Number).2 = 0 then ([],(out.length : Int) + 1,5) else runT (q :: ps) (out ++ [t])
theorem runT_step {p : List UInt8} {ps : List (List UInt8)} (h : ps ≠ []) (out : List ApiTool) : runT (p :: ps) out = if out.length = 200 then ([],201,3) else match rdT p with
  | none=>([],(out.length : Int) + 1,2)
  | some t=>if (fT out t.Number).2 = 0 then ([],(out.length : Int) + 1,5) else runT ps (out ++ [t]) := by
 cases ps with
 | nil=>exact absurd rfl h
 | cons q ps=>rfl
theorem runT_full {s : List UInt8} (hs : s ≠ []) {out : List ApiTool} (h : out.length = 200) : runT (pcb 10 s) out = ([],201,3) := by
 cases hc : s.contains 10 with
 | false =>
  rw [pcb_one (no_piece hc)]
  unfold runT
  rw [if_neg hs,if_pos h]
 | true =>
  obtain ⟨p,r,_,_,hsp,hf⟩ := cut_piece hc
  rw [hsp,pcb_app r hf,runT_step (pcb_ne 10 r),if_pos h]
theorem to_Parse_eq {s : List UInt8} (hl : s.length ≤ 1000000) (hP : ∀ p ∈ pcb 10 s,p.length ≤ 20000) : to_Parse s = some (runT (pcb 10 s) []) := by
 obtain ⟨RES,hRES⟩ : ∃ RES,runT (pcb 10 s) [] = RES := ⟨_,rfl⟩
 rw [hRES]
 have key : Tot (to_Parse s) (fun e=>e = RES) := by
  unfold to_Parse
  refine Tot.bindX (E := fun v=>RES = (v,0,0)) (TotX.of (Tot.loop (fun m (v : List UInt8 × List ApiTool × Int)=>v.1.length = m ∧ m ≤ 1000000 ∧ (∀ p ∈ pcb 10 v.1,p.length ≤ 20000) ∧ v.2.1.length ≤ 200 ∧ v.2.2 = (v.2.1.length : Int) + 1 ∧ runT (pcb 10 v.1) v.2.1 = RES) _ s.length (fuel_gt (by omega)) ⟨rfl,hl,hP,by simp,rfl,hRES⟩ (fun m v hv=>?_))) (fun v hv=>.ok hv.symm)
  obtain ⟨s,out,n⟩ := v
  obtain ⟨h1,h2,hP,h3,h4,hR⟩ := hv
  dsimp only at h1 h2 hP h3 h4 hR ⊢
  subst h4
  refine TotX.ite (fun hne=>?_) (fun he=>.ret ?_)
  ·have hne' : s ≠ [] := by simpa using hne
   rw [cutd 10 s (by omega),bindO_s]
   dsimp only
   cases hc : s.contains 10 with
   | false =>
    have hp := pcb_one (no_piece hc)
    have ht : s.takeWhile (· != 10) = s := by
     rcases cont_drop 10 s with ⟨_,_,h⟩ | ⟨h,_⟩
     ·exact h
     ·rw [hc] at h; cases h
    rw [hp] at hR hP
    have hlen := hP s (by simp)
    rw [ht]
    have hr : ∃ y,to_read s = some y := by obtain ⟨y,hy,_⟩ := to_read_ok s hlen; exact ⟨y,hy⟩
    obtain ⟨y,hy⟩ := hr
    rw [hy,bindO_s]
    have hR' : RES = if out.length = 200 then ([],201,3) else ([],(out.length : Int) + 1,2) := by rw [← hR]; unfold runT; rw [if_neg hne']
    refine TotX.ite (fun q=>.ret ?_) (fun q=>?_)
    ·have q' := of_decide_eq_true q
     show ([],(out.length : Int) + 1,3) = RES
     rw [hR',if_pos (by omega)]
     congr 2
     omega
    ·have q' := of_decide_eq_false q
     refine TotX.ite (fun _=>.ret ?_) (fun h=>by simp at h)
     show ([],(out.length : Int) + 1,2) = RES
     rw [hR',if_neg (by omega)]
   | true =>
    obtain ⟨p,r,hp,hr,hs,hf⟩ := cut_piece hc
    rw [hp,hr]
    have hlen : s.length = p.length + (r.length + 1) := by rw [hs]; simp
    have hpc : pcb 10 s = p :: pcb 10 r := by rw [hs,pcb_app r hf]
    rw [hpc] at hP
    rw [hpc,runT_step (pcb_ne 10 r)] at hR
    have hpl := hP p (by simp)
    rcases rd_cases p hpl with ⟨t,ht,e,hrd,hto,_⟩ | ⟨hrd,⟨t,hto⟩,_⟩
    ·rw [hto,bindO_s]
     refine TotX.ite (fun q=>.ret ?_) (fun q=>?_)
     ·have q' := of_decide_eq_true q
      rw [if_pos (by omega)] at hR
      show ([],(out.length : Int) + 1,3) = RES
      rw [← hR]
      congr 2
      omega
     ·have q' := of_decide_eq_false q
      rw [if_neg (by omega),hrd] at hR
      dsimp only at hR
      refine TotX.ite (fun h=>by simp at h) (fun _=>?_)
      rw [to_Find_eq out t.Number (by omega),bindO_s]
      refine TotX.ite (fun h=>.ret ?_) (fun h=>?_)
      ·have h' : (fT out t.Number).2 = 0 := by simpa using h
       rw [if_pos h'] at hR
       exact hR
      ·have h' : ¬ (fT out t.Number).2 = 0 := by simpa using h
       rw [if_neg h'] at hR
       refine TotX.guard (okLen_of (by omega)) (.go ?_)
       refine ⟨r.length,by omega,rfl,by omega,fun x hx=>hP x (by simp [hx]),by simp; omega,?_,hR⟩
       dsimp only
       rw [wrap_i64 (by omega) (by omega)]
       simp
    ·rw [hto,bindO_s]
     refine TotX.ite (fun q=>.ret ?_) (fun q=>?_)
     ·have q' := of_decide_eq_true q
      rw [if_pos (by omega)] at hR
      show ([],(out.length : Int) + 1,3) = RES
      rw [← hR]
      congr 2
      omega
     ·have q' := of_decide_eq_false q
      rw [if_neg (by omega),hrd] at hR
      refine TotX.ite (fun _=>.ret hR) (fun h=>by simp at h)
  ·have hs : s = [] := by simpa using he
   subst hs
   show RES = (out,0,0)
   rw [← hR]
   simp [runT,pcb]
 obtain ⟨e,he,rfl⟩ := key
 exact he
theorem r27_Parse_eq {s : List UInt8} (hl : s.length ≤ 20000) : r27_Parse s = some (runT (pcb 10 s) []) := by
 obtain ⟨RES,hRES⟩ : ∃ RES,runT (pcb 10 s) [] = RES := ⟨_,rfl⟩
 rw [hRES]
 have key : Tot (r27_Parse s) (fun e=>e = RES) := by
  unfold r27_Parse
  refine Tot.bindX (E := fun (v : List ApiTool × List UInt8)=>v.1.length ≤ 200 ∧ (v.2 ≠ [] → v.1.length < 200) ∧ runT (pcb 10 v.2) v.1 = RES ∧ ∀ c ∈ v.2,c ≠ 10) (TotX.guard (okIdx_of (by omega)) (TotX.of (Tot.range (fun i (v : List ApiTool × List UInt8)=>i ≤ s.length ∧ v.1.length ≤ 200 ∧ (v.2 ≠ [] → v.1.length < 200) ∧ v.2.length ≤ i ∧ (∀ c ∈ v.2,c ≠ 10) ∧ runT (pcb 10 (v.2 ++ s.drop i)) v.1 = RES) _ ⟨by omega,by simp,by simp,by simp,by simp,by simpa using hRES⟩ (fun i c v hc hv=>?_) (fun v hv=>.ok ?_)))) (fun v hv=>?_)
  ·obtain ⟨out,line⟩ := v
   obtain ⟨_,h1,h2,h3,hf,hR⟩ := hv
   dsimp only at h1 h2 h3 hf hR ⊢
   have hlt := getElem_lt hc
   have e1 : s.drop i = c :: s.drop (i + 1) := by
    rw [List.drop_eq_getElem_cons hlt]
    rw [List.getElem?_eq_getElem hlt] at hc
    injection hc with hc; rw [hc]
   rw [e1] at hR
   refine TotX.bindX (E := fun (v2 : List ApiTool × List UInt8)=>i + 1 ≤ s.length ∧ v2.1.length ≤ 200 ∧ (v2.2 ≠ [] → v2.1.length < 200) ∧ v2.2.length ≤ i + 1 ∧ (∀ c ∈ v2.2,c ≠ 10) ∧ runT (pcb 10 (v2.2 ++ s.drop (i + 1))) v2.1 = RES) ?_ (fun v2 hv2=>.go hv2)
   refine TotX.ite (fun q=>.ret ?_) (fun q=>?_)
   ·have q' : out.length = 200 := by
     have : (out.length : Int) = 200 := by simpa using q
     omega
    rw [runT_full (by simp) q'] at hR
    exact hR
   ·have q' : ¬ out.length = 200 := fun e=>by rw [e] at q; simp at q
    refine TotX.ite (fun hc10=>?_) (fun hc10=>?_)
    ·have hne : c ≠ 10 := by rintro rfl; simp at hc10
     have hi1 : IntKind.i64.wrap ((i : Int) + 1) = ((i + 1 : Nat) : Int) := by rw [wrap_i64 (by omega) (by omega)]; omega
     rw [hi1,cutL_one hc,bindO_s]
     refine TotX.guard (okStr_of (by simp; omega)) (.go ?_)
     refine ⟨by omega,h1,fun _=>by dsimp only; omega,by simp; omega,fun x hx=>?_,?_⟩
     ·rcases List.mem_append.1 hx with hx | hx
      ·exact hf x hx
      ·simp at hx; subst hx; exact hne
     ·rw [List.append_assoc]; exact hR
    ·have hc10' : c = 10 := by
      have : (c.toNat : Int) = 10 := by simpa using hc10
      exact UInt8.toNat_inj.1 (by show c.toNat = 10; omega)
     subst hc10'
     rw [pcb_app _ hf,runT_step (pcb_ne 10 _),if_neg q'] at hR
     rcases rd_cases line (by omega) with ⟨t,ht,e,hrd,_,hto⟩ | ⟨hrd,_,t,hto⟩
     ·rw [hto,bindO_s]
      refine TotX.ite (fun h=>by simp at h) (fun _=>?_)
      rw [hrd] at hR
      dsimp only at hR
      rw [r27_Find_eq out t.Number (by omega),bindO_s]
      refine TotX.ite (fun h=>.ret ?_) (fun h=>?_)
      ·have h' : (fT out t.Number).2 = 0 := by simpa using h
       rw [if_pos h'] at hR
       show ([],IntKind.i64.wrap ((out.length : Int) + 1),5) = RES
       rw [wrap_i64 (by omega) (by omega)]; exact hR
      ·have h' : ¬ (fT out t.Number).2 = 0 := by simpa using h
       rw [if_neg h'] at hR
       exact TotX.guard (okLen_of (by omega)) (.go ⟨by omega,by simp; omega,fun z=>absurd rfl z,by simp,by simp,by simpa using hR⟩)
     ·rw [hto,bindO_s]
      rw [hrd] at hR
      refine TotX.ite (fun _=>.ret ?_) (fun h=>by simp at h)
      show ([],IntKind.i64.wrap ((out.length : Int) + 1),2) = RES
      rw [wrap_i64 (by omega) (by omega)]; exact hR
  ·obtain ⟨_,h1,h2,h3,hf,hR⟩ := hv
   rw [List.drop_length,List.append_nil] at hR
   exact ⟨h1,h2,hR,hf⟩
  ·obtain ⟨out,line⟩ := v
   obtain ⟨h1,h2,hR,hf⟩ := hv
   dsimp only at h1 h2 hR hf ⊢
   rw [pcb_one hf] at hR
   refine Tot.ite (fun q=>.ok ?_) (fun q=>.ok ?_)
   ·have hne : line ≠ [] := by simpa using q
    have := h2 hne
    unfold runT at hR
    rw [if_neg hne,if_neg (by omega)] at hR
    rw [wrap_i64 (by omega) (by omega)]; exact hR
   ·have he : line = [] := by simpa using q
    unfold runT at hR
    rw [if_pos he] at hR
    exact hR
 obtain ⟨e,he,rfl⟩ := key
 exact he
theorem nd_snoc {out : List ApiTool} {t : ApiTool} (h : nd out) (h2 : (fT out t.Number).2 ≠ 0) : nd (out ++ [t]) := by
 have hn : ∀ u ∈ out,u.Number ≠ t.Number := by
  unfold fT at h2
  cases hf : fJ t.Number out 0 with
  | none=>exact fJ_none hf
  | some k=>rw [hf] at h2; exact absurd rfl h2
 intro i x hx j u hj hu
 have hi := getElem_lt hx
 simp only [List.length_append,List.length_singleton] at hi
 have hju : j < out.length := by omega
 rw [List.getElem?_append_left hju] at hu
 rcases Nat.lt_or_ge i out.length with h3 | h3
 ·rw [List.getElem?_append_left h3] at hx
  exact h i x hx j u hj hu
 ·have : i = out.length := by omega
  subst this
  simp at hx
  subst hx
  exact hn u (List.mem_of_getElem? hu)
theorem nd_find {out l : List ApiTool} {t : ApiTool} (h : nd (out ++ t :: l)) : (fT out t.Number).2 ≠ 0 := by
 unfold fT
 cases hf : fJ t.Number out 0 with
 | none=>decide
 | some k =>
  obtain ⟨_,⟨u,hu,e⟩,_⟩ := fJ_some hf
  have hk := getElem_lt hu
  have := h out.length t (by simp) (k - 0) u (by omega) (by rw [List.getElem?_append_left hk]; exact hu)
  exact absurd e this
theorem run_fmt : ∀ (l out : List ApiTool),(∀ t ∈ l,goodT t = true) → nd (out ++ l) → (out ++ l).length ≤ 200 → runT (l.map lineT ++ [[]]) out = (out ++ l,0,0)
 | [],out,_,_,_=>by simp [runT]
 | t :: l,out,hg,hn,hl=>by
  have hl2 : out.length + (l.length + 1) ≤ 200 := by simpa using hl
  rw [List.map_cons,List.cons_append,runT_step (by simp),if_neg (by omega),rdT_line (hg t (by simp))]
  dsimp only
  rw [if_neg (nd_find hn),run_fmt l (out ++ [t]) (fun u hu=>hg u (by simp [hu])) (by simpa using hn) (by simpa using hl)]
  simp
theorem pcb_fmt : ∀ l : List ApiTool,pcb 10 (fmtV l) = l.map lineT ++ [[]]
 | []=>rfl
 | t :: l=>by
  have : fmtV (t :: l) = lineT t ++ 10 :: fmtV l := by simp [fmtV]
  rw [this,pcb_app _ (lineT_free t),pcb_fmt l]; rfl
theorem fmt_len : ∀ (l : List ApiTool),(∀ t ∈ l,goodT t = true) → (fmtV l).length ≤ 1516 * l.length
 | [],_=>by simp [fmtV]
 | t :: l,h=>by
  have : fmtV (t :: l) = lineT t ++ 10 :: fmtV l := by simp [fmtV]
  have ih := fmt_len l (fun u hu=>h u (by simp [hu]))
  have := lineT_len (h t (by simp))
  rw [‹fmtV (t :: l) = _›]
  simp only [List.length_append,List.length_cons]
  omega
theorem parse_fmt {l : List ApiTool} (h : magV l = 0) : to_Parse (fmtV l) = some (l,0,0) := by
 obtain ⟨h1,h2,h3⟩ := mag_ok.1 h
 have hl := fmt_len l h2
 rw [to_Parse_eq (by omega) (by
  rw [pcb_fmt]
  intro p hp
  rcases List.mem_append.1 hp with hp | hp
  ·obtain ⟨t,ht,rfl⟩ := List.mem_map.1 hp
   have := lineT_len (h2 t ht); omega
  ·simp at hp; subst hp; simp),pcb_fmt,run_fmt l [] h2 (by simpa using h3) (by simpa using h1)]
 rfl
theorem run_err : ∀ (ps : List (List UInt8)) (out : List ApiTool),(runT ps out).2.2 ≠ 0 → (runT ps out).1 = []
 | [],out,h=>by simp [runT] at h
 | [p],out,h=>by
  unfold runT at h ⊢
  split at h
  ·simp at h
  ·rename_i q
   rw [if_neg q]
   split <;> rfl
 | p :: q :: ps,out,h=>by
  rw [runT_step (by simp)] at h ⊢
  split at h
  ·rename_i e; rw [if_pos e]
  ·rename_i e
   rw [if_neg e]
   cases hr : rdT p with
   | none=>rfl
   | some t =>
    rw [hr] at h
    dsimp only at h ⊢
    split at h
    ·rename_i e2; rw [if_pos e2]
    ·rename_i e2
     rw [if_neg e2]
     exact run_err (q :: ps) (out ++ [t]) h
theorem run_ok : ∀ (ps : List (List UInt8)) (out : List ApiTool),ps ≠ [] → (∀ p ∈ ps,p.length ≤ 20000) → (∀ t ∈ out,goodT t = true) → nd out → out.length ≤ 200 → (runT ps out).2.2 = 0 → magV (runT ps out).1 = 0 ∧ fmtV (runT ps out).1 = fmtV out ++ jnb 10 ps
  | [],out,h,_,_,_,_,_=>absurd rfl h
  | [p],out,_,_,hg,hn,hl,h=>by
    unfold runT at h ⊢
    split at h
    · rename_i q
      rw [if_pos q]
      subst q
      exact ⟨mag_ok.2 ⟨hl,hg,hn⟩,by simp [jnb]⟩
    · split at h <;> simp at h
  | p :: q :: ps,out,_,hp,hg,hn,hl,h=>by
    rw [runT_step (by simp)] at h ⊢
    split at h
    · simp at h
    · rename_i e
      rw [if_neg e]
      rcases rd_cases p (hp p (by simp)) with ⟨t,ht,e3,hr,_⟩ | ⟨hr,_⟩
      · rw [hr] at h ⊢
        dsimp only at h ⊢
        split at h
        · simp at h
        · rename_i e2
          rw [if_neg e2]
          have ih := run_ok (q :: ps) (out ++ [t]) (by simp) (fun x hx=>hp x (by simp at hx ⊢; exact .inr hx)) (fun u hu=>by
            rcases List.mem_append.1 hu with hu | hu
            · exact hg u hu
            · simp at hu; subst hu; exact ht) (nd_snoc hn e2) (by simp; omega) h
          refine ⟨ih.1,?_⟩
          rw [ih.2,e3,jnb_cons (p := lineT t) (ps := q :: ps) (by simp)]
          simp [fmtV]
      · rw [hr] at h
        simp at h
end Go.Proofs.YthljcnchaopncaaGreatDoor
