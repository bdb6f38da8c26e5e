/-
  Za, Zb, Zc in one text.
-/
import Derived.Test.YthljcnchaopncaaGreatDoorJl
import Derived.Test.YthljcnchaopncaaGreatDoorUa
import Derived.Test.YthljcnchaopncaaGreatDoorMK
import Derived.Lib.ParseIntBTie
namespace Go.Proofs.YthljcnchaopncaaGreatDoor
open Go.RowKit
set_option linter.unusedVariables false
set_option linter.unusedSimpArgs false
end Go.Proofs.YthljcnchaopncaaGreatDoor
namespace Go.Proofs.YthljcnchaopncaaGreatDoor
open Go.RowKit
set_option linter.unusedVariables false
set_option linter.unusedSimpArgs false
set_option maxRecDepth 100000
def lenB (n : Int) : Bool := decide (n ≥ 1) && decide (n ≤ 10000000)
def goodT (t : ApiTool) : Bool := decide (1 ≤ t.Number) && (decide (t.Number ≤ 9999) && (decide (1 ≤ t.Kind) && (decide (t.Kind ≤ 4) && (lenB t.Radius && (lenB t.Flute && (lenB t.Holder && (lenB t.Step && (lenB t.Feed && (lenB t.Plunge && (decide (t.Radius ≤ t.Holder) && decide (t.Step ≤ t.Flute)))))))))))
theorem goodT_iff {t : ApiTool} : goodT t = true ↔ (1 ≤ t.Number ∧ t.Number ≤ 9999) ∧ (1 ≤ t.Kind ∧ t.Kind ≤ 4) ∧ (1 ≤ t.Radius ∧ t.Radius ≤ 10000000) ∧ (1 ≤ t.Flute ∧ t.Flute ≤ 10000000) ∧ (1 ≤ t.Holder ∧ t.Holder ≤ 10000000) ∧ (1 ≤ t.Step ∧ t.Step ≤ 10000000) ∧ (1 ≤ t.Feed ∧ t.Feed ≤ 10000000) ∧ (1 ≤ t.Plunge ∧ t.Plunge ≤ 10000000) ∧ t.Radius ≤ t.Holder ∧ t.Step ≤ t.Flute := by
 unfold goodT lenB
 simp only [Bool.and_eq_true,decide_eq_true_eq,ge_iff_le]
 constructor
 ·rintro ⟨a,b,c,d,e,f,g,h,i,j,k,l⟩; exact ⟨⟨a,b⟩,⟨c,d⟩,e,f,g,h,i,j,k,l⟩
 ·rintro ⟨⟨a,b⟩,⟨c,d⟩,e,f,g,h,i,j,k,l⟩; exact ⟨a,b,c,d,e,f,g,h,i,j,k,l⟩
def kindN (k : Int) : List UInt8 := (mget toolKinds k).getD []
theorem kindN_eq (k : Int) : kindN k = if k = 1 then [109,105,108,108] else if k = 2 then [100,114,105,108,108] else if k = 3 then [99,104,97,109,102,101,114] else if k = 4 then [112,114,111,98,101] else [] := by
 unfold kindN toolKinds
 by_cases h1 : k = 1
 ·subst h1; rfl
 by_cases h2 : k = 2
 ·subst h2; rfl
 by_cases h3 : k = 3
 ·subst h3; rfl
 by_cases h4 : k = 4
 ·subst h4; rfl
 simp [mget,h1,h2,h3,h4]
theorem kindN_nil (k : Int) : (kindN k == []) = !(decide (1 ≤ k) && decide (k ≤ 4)) := by
 rw [kindN_eq]
 by_cases h1 : k = 1
 ·subst h1; rfl
 by_cases h2 : k = 2
 ·subst h2; rfl
 by_cases h3 : k = 3
 ·subst h3; rfl
 by_cases h4 : k = 4
 ·subst h4; rfl
 rw [if_neg h1,if_neg h2,if_neg h3,if_neg h4]
 by_cases h5 : 1 ≤ k
 ·rw [decide_eq_false (show ¬ k ≤ 4 by omega)]; simp
 ·rw [decide_eq_false h5]; simp
theorem r27_KindName_eq (k : Int) : r27_KindName k = some (kindN k) := by
 unfold r27_KindName
 rw [kindN_eq]
 by_cases h1 : k = 1
 ·subst h1; rfl
 by_cases h2 : k = 2
 ·subst h2; rfl
 by_cases h3 : k = 3
 ·subst h3; rfl
 by_cases h4 : k = 4
 ·subst h4; rfl
 simp [h1,h2,h3,h4]
theorem to_KindName_eq (k : Int) : to_KindName k = some (kindN k) := rfl
theorem to_Valid_eq (t : ApiTool) : to_Valid t = some (if goodT t = true then 0 else 1) := by
 obtain ⟨n,k,r,f,h,s,d,p⟩ := t
 unfold to_Valid to_length goodT
 simp only [to_KindName_eq,bindO_s,kindN_nil,lenB]
 by_cases g1 : n < 1
 ·rw [decide_eq_true g1,decide_eq_false (show ¬ 1 ≤ n by omega)]; rfl
 rw [decide_eq_false g1,decide_eq_true (show 1 ≤ n by omega)]
 by_cases g2 : n > 9999
 ·rw [decide_eq_true g2,decide_eq_false (show ¬ n ≤ 9999 by omega)]; rfl
 rw [decide_eq_false g2,decide_eq_true (show n ≤ 9999 by omega)]
 simp only [Bool.false_eq_true,if_false,bindO_s,Bool.true_and]
 cases decide (1 ≤ k) with
 | false=>rfl
 | true =>
 cases decide (k ≤ 4) with
 | false=>rfl
 | true =>
 simp only [Bool.and_self,Bool.not_true,Bool.false_eq_true,if_false,Bool.true_and]
 cases decide (r ≥ 1) && decide (r ≤ 10000000) with
 | false=>rfl
 | true =>
 cases decide (f ≥ 1) && decide (f ≤ 10000000) with
 | false=>rfl
 | true =>
 cases decide (h ≥ 1) && decide (h ≤ 10000000) with
 | false=>rfl
 | true =>
 cases decide (s ≥ 1) && decide (s ≤ 10000000) with
 | false=>rfl
 | true =>
 cases decide (d ≥ 1) && decide (d ≤ 10000000) with
 | false=>rfl
 | true =>
 cases decide (p ≥ 1) && decide (p ≤ 10000000) with
 | false=>rfl
 | true =>
 by_cases g3 : h < r
 ·rw [decide_eq_true g3,decide_eq_false (show ¬ r ≤ h by omega)]; rfl
 rw [decide_eq_false g3,decide_eq_true (show r ≤ h by omega)]
 by_cases g4 : s > f
 ·rw [decide_eq_true g4,decide_eq_false (show ¬ s ≤ f by omega)]; rfl
 rw [decide_eq_false g4,decide_eq_true (show s ≤ f by omega)]; rfl
theorem r27_Good_eq (t : ApiTool) : r27_Good t = some (goodT t) := by
 have key : Tot (r27_Good t) (fun b=>b = true ↔ goodT t = true) := by
  unfold r27_Good r27_length
  refine Tot.bind (E := fun b=>b = true ↔ goodT t = true) ?_ (fun b hb=>.ok hb)
  rw [goodT_iff]
  simp only [bindO_s]
  repeat' refine Tot.ite (fun _=>?_) (fun _=>?_)
  all_goals
   simp only [Bool.and_eq_true,Bool.and_eq_false_iff,decide_eq_true_eq,decide_eq_false_iff_not] at *
   refine .ok ?_
   simp only [decide_eq_true_eq,Bool.false_eq_true,false_iff]
   omega
 obtain ⟨b,hb,h⟩ := key
 rw [hb]
 congr 1
 cases b <;> cases hg : goodT t <;> simp_all
theorem r27_Valid_eq (t : ApiTool) : r27_Valid t = some (if goodT t = true then 0 else 1) := by
 unfold r27_Valid
 rw [r27_Good_eq,bindO_s]
 cases goodT t <;> rfl
set_option maxHeartbeats 4000000 in
theorem awake27 : l27_awake = some true := by kernel_rfl
end Go.Proofs.YthljcnchaopncaaGreatDoor
namespace Go.Proofs.YthljcnchaopncaaGreatDoor
open Go.RowKit
set_option linter.unusedVariables false
set_option linter.unusedSimpArgs false
set_option maxRecDepth 100000
theorem few_cases (l : List ApiTool) : l27_few l = some false ∨ (l27_few l = some true ∧ l.length ≤ 205) := by
 unfold l27_few
 by_cases h : l.length ≤ 205
 ·cases hb : ((decide ((l.length : Int) ≤ 12)) || ((decide ((l.length : Int) ≥ 195)) && (decide ((l.length : Int) ≤ 205)))) with
  | true=>exact .inr ⟨rfl,h⟩
  | false=>exact .inl rfl
 ·left
  rw [decide_eq_false (show ¬ (l.length : Int) ≤ 12 by omega),decide_eq_false (show ¬ (l.length : Int) ≤ 205 by omega)]
  simp
def fJ (n : Int) : List ApiTool → Nat → Option Nat
 | [],_=>none
 | t :: l,i=>if (t.Number == n) = true then some i else fJ n l (i + 1)
def fV : Option Nat → Int × Int
 | some k=>((k : Int),0)
 | none=>(0,4)
def fT (l : List ApiTool) (n : Int) : Int × Int := fV (fJ n l 0)
theorem find_loop {ε : Type} (g : Int → ε) (n : Int) : ∀ (l : List ApiTool) (i : Nat),rangeX (fun (i1 : Nat) (e1 : ApiTool) (_ : Unit)=>if (e1.Number == n) = true then some (Ex.ret (Ex.ret (g (i1 : Int)))) else some (Ex.go ())) (fun _=>some (Ex.go ())) l i () = some (match fJ n l i with | some k=>Ex.ret (g (k : Int)) | none=>Ex.go ())
 | [],i=>rfl
 | t :: l,i=>by
  simp only [rangeX,fJ]
  cases h : t.Number == n with
  | true=>rfl
  | false =>
   simp only [Bool.false_eq_true,if_false]
   exact find_loop g n l (i + 1)
theorem r27_Find_eq (l : List ApiTool) (n : Int) (hl : l.length ≤ 9223372036854775807) : r27_Find l n = some (fT l n) := by
 unfold r27_Find fT
 rw [okIdx_of hl,guardO_t]
 have := find_loop (fun k=>(k,(0 : Int))) n l 0
 rw [this]
 cases fJ n l 0 <;> rfl
theorem to_Find_eq (l : List ApiTool) (n : Int) (hl : l.length ≤ 9223372036854775807) : to_Find l n = some (fT l n) := by
 unfold to_Find fT
 rw [okIdx_of hl,guardO_t]
 have := find_loop (fun k=>k) n l 0
 simp only [bindO_s]
 rw [this]
 cases h : fJ n l 0 with
 | none=>rfl
 | some k =>
  show (if (decide (((k : Nat) : Int) < 0)) = true then some ((0 : Int),(4 : Int)) else some (((k : Nat) : Int),0)) = _
  rw [decide_eq_false (by omega)]; rfl
theorem tool_beq (a b : ApiTool) : ((a.Number == b.Number) && ((a.Kind == b.Kind) && ((a.Radius == b.Radius) && ((a.Flute == b.Flute) && ((a.Holder == b.Holder) && ((a.Step == b.Step) && ((a.Feed == b.Feed) && (a.Plunge == b.Plunge)))))))) = decide (a = b) := by
 obtain ⟨a1,a2,a3,a4,a5,a6,a7,a8⟩ := a
 obtain ⟨b1,b2,b3,b4,b5,b6,b7,b8⟩ := b
 rw [Bool.eq_iff_iff]
 simp [ApiTool.mk.injEq]
theorem r27_Equal_eq (a b : List ApiTool) (ha : a.length ≤ 1000000) : r27_Equal a b = some (decide (a = b)) := by
 have key : Tot (r27_Equal a b) (fun r=>r = decide (a = b)) := by
  unfold r27_Equal
  refine Tot.ite (fun q=>.ok ?_) (fun q=>?_)
  ·rw [decide_eq_false (fun e=>by subst e; simp at q)]
  ·have hl : a.length = b.length := by
    have : (a.length : Int) = (b.length : Int) := by simpa using q
    omega
   refine Tot.bindX (E := fun _=>a = b) (TotX.guard (okIdx_of (by omega)) (TotX.of (Tot.range (fun i (_ : Unit)=>∀ j,j < i → a[j]? = b[j]?) _ (fun j h=>by omega) (fun i x v hx hv=>?_) (fun v hv=>.ok ?_)))) (fun _ h=>.ok (by simp [h]))
   ·have hlt := getElem_lt hx
    have hy : b[i]? = some b[i] := List.getElem?_eq_getElem (by omega)
    rw [gt_k hy,bindO_s,tool_beq]
    refine TotX.ite (fun q=>.ret ?_) (fun q=>.go ?_)
    ·have hne : x ≠ b[i] := by simpa using q
     show false = decide (a = b)
     rw [decide_eq_false (fun e=>hne (by subst e; rw [hy] at hx; injection hx with hx; exact hx.symm))]
    ·have he : x = b[i] := by simpa using q
     intro j hj
     by_cases h : j = i
     ·subst h; rw [hx,hy,he]
     ·exact hv j (by omega)
   ·show a = b
    apply List.ext_getElem?
    intro j
    rcases Nat.lt_or_ge j a.length with h | h
    ·exact hv j h
    ·rw [List.getElem?_eq_none h,List.getElem?_eq_none (by omega)]
 obtain ⟨e,he,rfl⟩ := key
 exact he
theorem to_Equal_eq (a b : List ApiTool) (ha : a.length ≤ 1000000) : to_Equal a b = some (decide (a = b)) := by
 have h : slices_Equal_api_Tool_api_Tool a b = some (decide (a = b)) := r27_Equal_eq a b ha
 unfold to_Equal
 rw [h,bindO_s]
def fitsT (k r f : Int) (t : ApiTool) : Prop := t.Kind = k ∧ t.Radius ≤ r ∧ t.Flute ≥ f
def bestT (k r f : Int) (l : List ApiTool) (n : Nat) (v : Int) : Prop :=
 (v = -1 ∧ ∀ j t,j < n → l[j]? = some t → ¬ fitsT k r f t) ∨ ∃ m t0,v = ((m : Nat) : Int) ∧ l[m]? = some t0 ∧ ∀ j t,j < n → l[j]? = some t → fitsT k r f t → t.Radius ≤ t0.Radius
theorem to_Largest_ok (l : List ApiTool) (k r f : Int) (hl : l.length ≤ 1000000) : Tot (to_Largest l k r f) (fun y=>(y = (0,4) ∧ ∀ t ∈ l,¬ fitsT k r f t) ∨ ∃ m t0,y = (((m : Nat) : Int),0) ∧ l[m]? = some t0 ∧ ∀ t ∈ l,fitsT k r f t → t.Radius ≤ t0.Radius) := by
 unfold to_Largest
 refine Tot.bind (E := bestT k r f l l.length) (Tot.guard (okIdx_of (by omega)) (Tot.range (bestT k r f l) _ (.inl ⟨rfl,fun j t h=>by omega⟩) (fun i x v hx hv=>?_) (fun v hv=>.ok hv))) (fun v hv=>?_)
 ·refine TotX.bind (E := bestT k r f l (i + 1)) (Tot.bind (E := fun b=>b = true ↔ fitsT k r f x ∧ (v < 0 ∨ ∀ e,gt l v = some e → x.Radius > e.Radius)) ?_ (fun b hb=>Tot.ite (fun q=>.ok ?_) (fun q=>.ok ?_))) (fun w hw=>.go hw)
  ·refine Tot.ite (fun q1=>?_) (fun q1=>.ok ?_)
   ·refine Tot.ite (fun q2=>?_) (fun q2=>.ok ?_)
    ·refine Tot.ite (fun q3=>?_) (fun q3=>.ok ?_)
     ·have hf : fitsT k r f x := ⟨by simpa using q1,by simpa using q2,by simpa using q3⟩
      refine Tot.ite (fun q4=>.ok ?_) (fun q4=>?_)
      ·exact ⟨fun _=>⟨hf,.inl (by simpa using q4)⟩,fun _=>rfl⟩
      ·have hv0 : ¬ v < 0 := by simpa using q4
       rcases hv with ⟨rfl,_⟩ | ⟨m,t0,rfl,hm,_⟩
       ·omega
       ·rw [gt_k hm,bindO_s]
        refine .ok ?_
        constructor
        ·intro h
         exact ⟨hf,.inr fun e he=>by injection he with he; subst he; simpa using h⟩
        ·rintro ⟨_,h | h⟩
         ·omega
         ·simpa using h t0 rfl
     ·exact ⟨fun h=>(by cases h),fun h=>by have := h.1.2.2; simp at q3; omega⟩
    ·exact ⟨fun h=>(by cases h),fun h=>by have := h.1.2.1; simp at q2; omega⟩
   ·exact ⟨fun h=>(by cases h),fun h=>by have := h.1.1; simp at q1; omega⟩
  ·subst q
   obtain ⟨hf,hb2⟩ := hb.1 rfl
   refine .inr ⟨i,x,rfl,hx,fun j t hj ht hft=>?_⟩
   by_cases hji : j = i
   ·subst hji; rw [hx] at ht; injection ht with ht; subst ht; exact Int.le_refl _
   ·rcases hv with ⟨rfl,hno⟩ | ⟨m,t0,rfl,hm,hmax⟩
    ·exact absurd hft (hno j t (by omega) ht)
    ·have h1 := hmax j t (by omega) ht hft
     rcases hb2 with h | h
     ·omega
     ·have := h t0 (gt_k hm); omega
  ·subst q
   have hno : ¬ (fitsT k r f x ∧ (v < 0 ∨ ∀ e,gt l v = some e → x.Radius > e.Radius)) := fun h=>by have := hb.2 h; cases this
   rcases hv with ⟨rfl,hn⟩ | ⟨m,t0,rfl,hm,hmax⟩
   ·refine .inl ⟨rfl,fun j t hj ht hft=>?_⟩
    by_cases hji : j = i
    ·subst hji; rw [hx] at ht; injection ht with ht; subst ht; exact hno ⟨hft,.inl (by omega)⟩
    ·exact hn j t (by omega) ht hft
   ·refine .inr ⟨m,t0,rfl,hm,fun j t hj ht hft=>?_⟩
    by_cases hji : j = i
    ·subst hji; rw [hx] at ht; injection ht with ht; subst ht
     rcases Int.lt_or_le t0.Radius x.Radius with h | h
     ·exact absurd ⟨hft,.inr fun e he=>by rw [gt_k hm] at he; injection he with he; subst he; exact h⟩ hno
     ·exact h
    ·exact hmax j t (by omega) ht hft
 ·rcases hv with ⟨rfl,hn⟩ | ⟨m,t0,rfl,hm,hmax⟩
  ·rw [if_pos (by decide)]
   refine .ok (.inl ⟨rfl,fun t ht=>?_⟩)
   obtain ⟨j,hj,rfl⟩ := List.getElem_of_mem ht
   exact hn j _ hj (List.getElem?_eq_getElem hj)
  ·rw [decide_eq_false (by omega),if_neg (by simp)]
   refine .ok (.inr ⟨m,t0,rfl,hm,fun t ht=>?_⟩)
   obtain ⟨j,hj,rfl⟩ := List.getElem_of_mem ht
   exact hmax j _ hj (List.getElem?_eq_getElem hj)
theorem r27_Largest_eq (l : List ApiTool) (k r f : Int) : r27_Largest l k r f = to_Largest l k r f := rfl
end Go.Proofs.YthljcnchaopncaaGreatDoor
