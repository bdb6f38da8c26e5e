import Derived.Test.YtnnelopkjdgbgaaDoorQx
import Derived.Test.YtnnelopkjdgbgaaDoorMH
namespace Go.Proofs.YtnnelopkjdgbgaaDoor
open Go.RowKit
def fewL (l : List ApiBlock) : Prop := l.length ≤ 40 ∧ ∀ b ∈ l,b.Words.length ≤ 20 ∧ b.Comment.length ≤ 120
theorem r41_Few_tot (l : List ApiBlock) (hl : l.length ≤ 9223372036854775807) : Tot (r41_Few l 40) (fun b=>b = true → fewL l) := by
 unfold r41_Few
 refine Tot.ite (fun _=>.ok (by simp)) (fun h=>?_)
 simp at h
 refine Tot.bindX (E := fun _=>∀ b ∈ l,b.Words.length ≤ 20 ∧ b.Comment.length ≤ 120) (TotX.guard (okIdx_of hl) (TotX.of (Tot.range (fun i _=>∀ b ∈ l.take i,b.Words.length ≤ 20 ∧ b.Comment.length ≤ 120) _ (by simp) (fun i x v hx hr=>TotX.ite (fun _=>.ret (by simp)) (fun h2=>.go ?_)) (fun v hv=>.ok (by simpa using hv))))) (fun _ hw=>.ok fun _=>⟨by omega,hw⟩)
 intro b hb
 rw [List.take_add_one,hx,List.mem_append] at hb
 rcases hb with q | q
 ·exact hr b q
 ·simp at q; subst q
  simp at h2
  omega
theorem r47_Few_tot (l : List ApiBlock) (hl : l.length ≤ 9223372036854775807) : Tot (r47_Few l 40) (fun b=>b = true → fewL l) := by
 unfold r47_Few
 refine Tot.bind (r41_Few_tot l hl) fun b hb=>Tot.ite (fun _=>.ok (by simp)) (fun h=>?_)
 have hf := hb (by simpa using h)
 refine Tot.bindX (E := fun _=>True) (TotX.guard (okIdx_of hl) (TotX.of (Tot.range (fun _ _=>True) _ trivial (fun i x v hx _=>?_) (fun v _=>.ok trivial)))) (fun _ _=>.ok fun _=>hf)
 have hx20 := (hf.2 x (List.mem_of_getElem? hx)).1
 refine TotX.bindX (E := fun _=>True) (TotX.of (Tot.loop (fun m v=>0 ≤ v ∧ v ≤ (x.Words.length : Int) ∧ m = ((x.Words.length : Int) - v).toNat) _ x.Words.length (fuel_gt (by omega)) ⟨by simp,by simp,by simp⟩ (fun m v hr=>?_))) (fun _ _=>.go trivial)
 refine TotX.ite (fun h=>?_) (fun _=>.ret trivial)
 simp at h
 obtain ⟨y,hy,_⟩ := gt_ok' (l := x.Words) (i := v) hr.1 h
 rw [hy,bindO_s]
 refine TotX.ite (fun _=>.ret (by simp)) (fun _=>.go ?_)
 rw [wrap_i64 (by omega) (by omega)]
 exact ⟨_,by omega,by omega,by omega,rfl⟩
theorem l47_few_tot (l : List ApiBlock) (s : L47Setting) (hl : l.length ≤ 9223372036854775807) : Tot (l47_few l s) (fun b=>b = true → fewL l ∧ s.Table.Lengths.length ≤ 20) := by
 unfold l47_few
 refine Tot.bind (E := fun b=>b = true → fewL l ∧ s.Table.Lengths.length ≤ 20) (Tot.bind (r47_Few_tot l hl) fun b hb=>Tot.ite (fun h=>.ok fun h2=>⟨hb h,by simp at h2; omega⟩) (fun _=>.ok (by simp))) fun b hb=>.ok hb
def theirsW (t : R45Table) : TableTable := ⟨t.Work,t.Lengths.map fun l=>⟨l.Number,l.Length⟩⟩
theorem map_fold {α β : Type} (g : α → β) (l : List α) : ∀ o : List β,l.foldl (fun o x=>o ++ [g x]) o = o ++ l.map g := by
 induction l with
 | nil=>intro o; simp
 | cons x l ih=>intro o; rw [List.foldl_cons,ih]; simp
theorem l47_theirs_eq (t : R45Table) (hl : t.Lengths.length ≤ 1000) : l47_theirs t = some (theirsW t) := by
 unfold l47_theirs
 rw [okIdx_of (by omega),guardO_t,range_fold (g := fun (o : List TableLength) (x : R45Length)=>o ++ [TableLength.mk x.Number x.Length]) (R := fun i v=>v.length ≤ i) (L := t.Lengths) ?_ t.Lengths 0 [] rfl (by simp)]
 ·rw [bindO_s,map_fold]; rfl
 ·intro i x v hx hr
  have hlt := getElem_lt hx
  rw [okLen_of (by omega),guardO_t]
  exact ⟨rfl,by simp; omega⟩
theorem connW_append (l m : List ApiMotion) : ∀ p,connW p (l ++ m) = (connW p l && connW (endW p l) m) := by
 induction l with
 | nil=>intro p; simp [connW,endW]
 | cons x l ih =>
  intro p
  simp only [List.cons_append,connW,ih,endW_cons,Bool.and_assoc]
theorem endW_append (p : ApiPos) (l m : List ApiMotion) : endW p (l ++ m) = endW (endW p l) m := by
  cases hm : m.getLast? with
  | none => have : m = [] := by simpa using hm
            subst this; simp [endW]
  | some x=>simp [endW,List.getLast?_append,hm]
theorem connW_map (i : Nat) (l : List ApiMotion) : ∀ p,connW p (l.map (setB i)) = connW p l := by
 induction l with
 | nil=>intro p; rfl
 | cons x l ih=>intro p; simp only [List.map_cons,connW,ih]; rfl
theorem goodM_map {p : ApiPos} {l : List ApiMotion} (h : goodM p l) (i : Nat) : goodM p (l.map (setB i)) := by
 refine ⟨by rw [connW_map]; exact h.1,?_,by rw [endW_map]; exact h.2.2⟩
 intro m hm
 obtain ⟨x,hx,rfl⟩ := List.mem_map.1 hm
 exact h.2.1 x hx
theorem goodM_append {p : ApiPos} {l m : List ApiMotion} (h : goodM p l) (h2 : goodM (endW p l) m) : goodM p (l ++ m) := by
 refine ⟨by rw [connW_append,h.1,h2.1]; rfl,?_,by rw [endW_append]; exact h2.2.2⟩
 intro x hx
 rcases List.mem_append.1 hx with q | q
 ·exact h.2.1 x q
 ·exact h2.2.1 x q
def runOk (p : ApiPos) (i : Nat) (l : List ApiMotion) : Prop := goodM p l ∧ l.Pairwise (fun a b=>a.Block ≤ b.Block) ∧ (∀ m ∈ l,0 ≤ m.Block ∧ m.Block < (i : Int)) ∧ l.length ≤ 20000
theorem runOk_add {p : ApiPos} {i : Nat} {l m : List ApiMotion} (h : runOk p i l) (hm : goodM (endW p l) m) (hl : l.length + m.length ≤ 20000) : runOk p (i + 1) (l ++ m.map (setB i)) := by
 obtain ⟨a,b,c,d⟩ := h
 refine ⟨goodM_append a (goodM_map hm i),?_,?_,by simp; omega⟩
 ·rw [List.pairwise_append]
  refine ⟨b,?_,?_⟩
  ·rw [List.pairwise_map]
   exact List.Pairwise.imp (fun _=>Int.le_refl _) (List.pairwise_of_forall (R := fun _ _=>True) (fun _ _=>trivial))
  ·intro x hx y hy
   obtain ⟨z,_,rfl⟩ := List.mem_map.1 hy
   have := (c x hx).2
   simp only [setB]; omega
 ·intro x hx
  rcases List.mem_append.1 hx with q | q
  ·have := c x q; omega
  ·obtain ⟨z,_,rfl⟩ := List.mem_map.1 q
   simp only [setB]; omega
theorem runB_ok (t : TableTable) (N : Nat) (p : ApiPos) (ht : t.Lengths.length ≤ 1000) : ∀ (l : List ApiBlock) (i : Nat) (v : Run),(∀ b ∈ l,okS b) → i + l.length = N → runOk p i v.1 → v.2.1 = endW p v.1 →
  runOk p N (runB t N i l v).1 ∧ ((runB t N i l v).2.Code ≠ 0 → ∀ m ∈ (runB t N i l v).1,m.Block < (runB t N i l v).2.Block)
 | [],i,v,_,hi,hr,_=>by
  simp only [List.length_nil,Nat.add_zero] at hi
  subst hi
  exact ⟨hr,fun _ m hm=>(hr.2.2.1 m hm).2⟩
 | b :: l,i,v,hb,hi,hr,hv=>by
  have hup : ∀ (j : Nat) (x : List ApiMotion),j ≤ N → runOk p j x → runOk p N x := fun j x hj h=>⟨h.1,h.2.1,fun m hm=>by have := h.2.2.1 m hm; omega,h.2.2.2⟩
  simp only [List.length_cons] at hi
  have hE := stepT_E (s := v.2.2.1) (c := v.2.2.2) (p := v.2.1) (hb b (by simp)) ht
  simp only [runB]
  generalize stepT v.2.2.1 v.2.2.2 b t v.2.1 = r at hE
  by_cases h1 : r.2.2.2 = 0
  ·have hg := (hE.2.2 h1).1
   rw [hv] at hg
   by_cases h2 : v.1.length + r.1.length > 20000
   ·simp only [h1,h2,ne_eq,not_true_eq_false,if_false,if_true]
    exact ⟨hup i _ (by omega) hr,fun _ m hm=>(hr.2.2.1 m hm).2⟩
   ·have ha := runOk_add hr hg (by omega)
    by_cases h3 : endsW b = true
    ·simp only [h1,h2,h3,ne_eq,not_true_eq_false,if_false,if_true]
     exact ⟨hup (i + 1) _ (by omega) ha,fun h=>h.elim⟩
    ·simp only [h1,h2,h3,ne_eq,not_true_eq_false,if_false]
     refine runB_ok t N p ht l (i + 1) _ (fun b hb'=>hb b (by simp [hb'])) (by omega) ha ?_
     simp only
     rw [endW_append,endW_map,hv]
  ·simp only [h1,ne_eq,not_false_eq_true,if_true]
   exact ⟨hup i _ (by omega) hr,fun _ m hm=>(hr.2.2.1 m hm).2⟩
end Go.Proofs.YtnnelopkjdgbgaaDoor
