/-
  Pq, Pr, Pt in one text.
-/
import Derived.Test.YtjgngikiglhleaaGreatDoorPkn
import Derived.Test.YtjgngikiglhleaaGreatDoorME
namespace Go.Proofs.YtjgngikiglhleaaGreatDoor
open Go.RowKit
set_option linter.unusedVariables false
set_option linter.unusedSimpArgs false
def fxA {α : Type} (p : α → Bool) : List α → Nat → Int
 | [],_=>-1
 | x :: l,i=>if p x = true then (i : Int) else fxA p l (i + 1)
theorem ix_eq {α β : Type} {p : α → Bool} {f : α → Option Bool} (k : Int → Option β) (l : List α) (hl : l.length ≤ 9223372036854775807) (hf : ∀ x ∈ l,f x = some (p x)) :
  bindO (bindX (guardO (okIdx l) (rangeX (fun (i : Nat) (e : α) (v : Unit)=>bindO (f e) fun (y : Bool)=>if y = true then some (.ret (.ret (i : Int))) else some (.go ())) (fun (v : Unit)=>some (.go ())) l 0 ())) fun (_ : Unit)=>some (-1)) k = k (fxA p l 0) := by
 rw [okIdx_of hl,guardO_t]
 have key : ∀ (l : List α) (i : Nat),(∀ x ∈ l,f x = some (p x)) → bindX (rangeX (fun (i : Nat) (e : α) (v : Unit)=>bindO (f e) fun (y : Bool)=>if y = true then some (.ret (.ret (i : Int))) else some (.go ())) (fun (v : Unit)=>some (.go ())) l i ()) (fun (_ : Unit)=>some (-1)) = some (fxA p l i) := by
  intro l
  induction l with
  | nil=>intro i _; rfl
  | cons x l ih =>
   intro i hf
   simp only [rangeX,hf x (by simp),bindO_s,fxA]
   cases p x with
   | true=>rfl
   | false=>exact ih (i + 1) (fun y hy=>hf y (by simp [hy]))
 rw [key l 0 hf,bindO_s]
theorem fxA_none {α : Type} {p : α → Bool} : ∀ (l : List α) (i : Nat),(∀ x ∈ l,p x = false) → fxA p l i = -1
 | [],_,_=>rfl
 | x :: l,i,h=>by rw [fxA,h x (by simp),if_neg (by simp)]; exact fxA_none l (i + 1) (fun y hy=>h y (by simp [hy]))
theorem fxA_app {α : Type} {p : α → Bool} {x : α} {r : List α} (hx : p x = true) : ∀ (l : List α) (i : Nat),(∀ y ∈ l,p y = false) → fxA p (l ++ x :: r) i = ((i + l.length : Nat) : Int)
 | [],i,_=>by simp [fxA,hx]
 | y :: l,i,h=>by
  rw [List.cons_append,fxA,h y (by simp),if_neg (by simp),fxA_app hx l (i + 1) (fun z hz=>h z (by simp [hz])),List.length_cons]
  congr 1; omega
def mkV (b : ApiBlock) : Bool := letV b 79 || (hasV b 77 30000 || hasV b 77 99000)
theorem sp_marked_eq {b : ApiBlock} (hb : fewB b) : sp_marked b = some (mkV b) := by
 have hb' : b.Words.length ≤ 1000000 := by unfold fewB at hb; omega
 unfold sp_marked mkV
 simp only [bk_Codes_eq b _ hb',sp_has_eq hb,bindO_s,codes_let]
 rw [show (b.Words.any fun w=>w.Letter == 79) = letV b 79 from rfl]
 cases letV b 79 <;> cases hasV b 77 30000 <;> cases hasV b 77 99000 <;> rfl
structure EndB (b : ApiBlock) : Prop where
 few : fewB b
 o : letV b 79 = false
 m : hasV b 77 30000 = true
 r : hasV b 77 99000 = false
structure FreeB (b : ApiBlock) : Prop where
 few : fewB b
 o : letV b 79 = false
 m : hasV b 77 30000 = false
 r : hasV b 77 99000 = false
theorem FreeB.mk' {b : ApiBlock} (h : FreeB b) : mkV b = false := by simp [mkV,h.o,h.m,h.r]
theorem ordered_c1 {s : SubprogramSub} (h : ∀ b ∈ s.Blocks,FreeB b) (hl : s.Blocks.length ≤ 9223372036854775807) : sp_ordered_c1 s = some false := by
 unfold sp_ordered_c1
 rw [ix_eq (p := mkV) (f := sp_marked) _ s.Blocks hl (fun b hb=>sp_marked_eq (h b hb).few),fxA_none _ _ (fun b hb=>(h b hb).mk')]
 rfl
theorem cutT_app {α : Type} {l r : List α} : cutT (l ++ r) (l.length : Int) = some l := by
 unfold cutT
 rw [if_neg (by simp; omega)]; simp
theorem cutF_app {α : Type} {l r : List α} : cutF (l ++ r) (l.length : Int) = some r := by
 unfold cutF
 rw [if_neg (by simp; omega)]; simp
theorem gt_app {α : Type} {l r : List α} {x : α} : gt (l ++ x :: r) (l.length : Int) = some x := by
 unfold gt
 rw [if_neg (by omega)]; simp
theorem ordered_eq {X : List ApiBlock} {E : ApiBlock} {S : List SubprogramSub} (hX : ∀ b ∈ X,FreeB b) (hE : EndB E) (hS : ∀ s ∈ S,s.Blocks.length ≤ 100000 ∧ ∀ b ∈ s.Blocks,FreeB b) (hl : X.length ≤ 100000) (hs : S.length ≤ 100000) : sp_ordered ⟨X ++ [E],S⟩ = some true := by
 have hw : IntKind.i64.wrap (((X ++ [E]).length : Int) - 1) = (X.length : Int) := by rw [wrap_i64 (by simp only [List.length_append,List.length_singleton]; omega) (by simp only [List.length_append,List.length_singleton]; omega)]; simp
 have hE' : E.Words.length ≤ 1000000 := by have := hE.few; unfold fewB at this; omega
 have hco : decide (((codesV E.Words 79).length : Int) > 0) = false := by rw [codes_let]; exact hE.o
 unfold sp_ordered
 simp only [hw,decide_eq_false (show ¬ (X.length : Int) < 0 by omega),gt_app,bindO_s,sp_has_eq hE.few,hE.m,hE.r,bk_Codes_eq E _ hE',hco,cutT_app,if_true,Bool.false_eq_true,if_false]
 rw [ix_eq (p := mkV) (f := sp_marked) _ X (by omega) (fun b hb=>sp_marked_eq (hX b hb).few),fxA_none _ _ (fun b hb=>(hX b hb).mk')]
 simp only [bindO_s,show decide ((-1 : Int) ≥ 0) = false from rfl,Bool.false_eq_true,if_false]
 rw [ix_eq (p := fun _=>false) (f := sp_ordered_c1) _ S (by omega) (fun s hs'=>ordered_c1 (hS s hs').2 (by have := (hS s hs').1; omega)),fxA_none _ _ (fun _ _=>rfl)]
 rfl
theorem repeated_nil : sp_repeated [] = some false := rfl
theorem repeated_one (s : SubprogramSub) : sp_repeated [s] = some false := rfl
theorem clone_eq {l : List ApiBlock} (h : l.length ≤ 100000) : slices_Clone_api_Block_api_Block l = some l := by unfold slices_Clone_api_Block_api_Block; rw [okLen_of (by omega),guardO_t]
theorem split_c1 {b : ApiBlock} (h : fewB b) : sp_Split_c1 b = some (hasV b 77 30000) := by unfold sp_Split_c1; rw [sp_has_eq h,bindO_s]
theorem split_plain {X : List ApiBlock} {E : ApiBlock} (hX : ∀ b ∈ X,FreeB b) (hE : EndB E) (hl : X.length ≤ 1000) : sp_Split (X ++ [E]) = some (⟨X ++ [E],[]⟩,0) := by
  unfold sp_Split
  rw [ix_eq (p := fun b=>hasV b 77 30000) (f := sp_Split_c1) _ (X ++ [E]) (by simp; omega) (fun b hb=>by
    rcases List.mem_append.1 hb with hb | hb
    · exact split_c1 (hX b hb).few
    · simp at hb; subst hb; exact split_c1 hE.few),fxA_app (p := fun b=>hasV b 77 30000) hE.m X 0 (fun b hb=>(hX b hb).m),Nat.zero_add]
  have hw : IntKind.i64.wrap ((X.length : Int) + 1) = ((X ++ [E]).length : Int) := by rw [wrap_i64 (by omega) (by omega)]; simp
  have h1 : cutT (X ++ [E]) ((X ++ [E]).length : Int) = some (X ++ [E]) := by have := cutT_app (l := X ++ [E]) (r := []); rwa [List.append_nil] at this
  have h2 : cutF (X ++ [E]) ((X ++ [E]).length : Int) = some [] := by have := cutF_app (l := X ++ [E]) (r := []); rwa [List.append_nil] at this
  simp only [decide_eq_false (show ¬ (X.length : Int) < 0 by omega),Bool.false_eq_true,if_false,hw,h1,h2,bindO_s,clone_eq (show (X ++ [E]).length ≤ 100000 by simp; omega)]
  have hlp : ∀ {f : (List ApiBlock) × (List SubprogramSub) → Option (Ex (Ex (SubprogramProgram × Int) (List SubprogramSub)) ((List ApiBlock) × (List SubprogramSub)))},f ([],[]) = some (.ret (.go [])) → loopX f fuel ([],[]) = some (.go []) := by
    intro f hf
    unfold fuel
    rw [loopX,hf]
  rw [hlp rfl]
  simp only [bindX_g]
  rw [ordered_eq hX hE (fun s hs=>by simp at hs) (by omega) (by simp),bindO_s,repeated_nil]
  rfl
def plnB (b : ApiBlock) : Bool := ((b.Words.length : Int) == 1) && (!b.Skip && (b.Comment == []))
theorem split_c2 {b : ApiBlock} (h : fewB b) : sp_Split_c2 b = some (plnB b && hasV b 77 99000) := by
 unfold sp_Split_c2 sp_plain
 rw [bindO_s,show ((((b.Words.length : Int) == 1) && (!b.Skip && (b.Comment == [])))) = plnB b from rfl]
 cases plnB b with
 | true=>simp only [if_true,sp_has_eq h,bindO_s,Bool.true_and]
 | false=>rfl
theorem begin_mark : sp_beginning (markB 79 1000000) = some (1000,true) := by rfl
theorem split_fold {X Y : List ApiBlock} {E : ApiBlock} (hX : ∀ b ∈ X, FreeB b) (hE : EndB E) (hY : ∀ b ∈ Y, FreeB b) (hl : X.length ≤ 1000) (hl2 : Y.length ≤ 1000) :
    sp_Split ((X ++ [E]) ++ markB 79 1000000 :: (Y ++ [markB 77 99000])) = some (⟨X ++ [E],[⟨1000,Y⟩]⟩,0) := by
  have hO : fewB (markB 79 1000000) := by simp [fewB,markB]
  have hR : fewB (markB 77 99000) := by simp [fewB,markB]
  unfold sp_Split
  have hfew : ∀ b ∈ (X ++ [E]) ++ markB 79 1000000 :: (Y ++ [markB 77 99000]),fewB b := by
    intro b hb
    simp only [List.mem_append,List.mem_cons,List.not_mem_nil,or_false] at hb
    rcases hb with (hb | rfl) | rfl | hb | rfl
    · exact (hX b hb).few
    · exact hE.few
    · exact hO
    · exact (hY b hb).few
    · exact hR
  rw [ix_eq (p := fun b=>hasV b 77 30000) (f := sp_Split_c1) _ _ (by simp; omega) (fun b hb=>split_c1 (hfew b hb)),List.append_assoc X [E],List.singleton_append,fxA_app (p := fun b=>hasV b 77 30000) hE.m X 0 (fun b hb=>(hX b hb).m),Nat.zero_add]
  have hw : IntKind.i64.wrap ((X.length : Int) + 1) = ((X ++ [E]).length : Int) := by rw [wrap_i64 (by omega) (by omega)]; simp
  have ha : X ++ E :: markB 79 1000000 :: (Y ++ [markB 77 99000]) = (X ++ [E]) ++ (markB 79 1000000 :: (Y ++ [markB 77 99000])) := by simp
  rw [ha]
  simp only [decide_eq_false (show ¬ (X.length : Int) < 0 by omega),Bool.false_eq_true,if_false,hw,cutT_app,cutF_app,bindO_s,clone_eq (show (X ++ [E]).length ≤ 100000 by simp; omega)]
  have hlp : ∀ {f : (List ApiBlock) × (List SubprogramSub) → Option (Ex (Ex (SubprogramProgram × Int) (List SubprogramSub)) ((List ApiBlock) × (List SubprogramSub)))} {a b : List ApiBlock × List SubprogramSub},f a = some (.go b) → f b = some (.ret (.go b.2)) → loopX f fuel a = some (.go b.2) := by
    intro f a b h1 h2
    unfold fuel
    rw [loopX,h1]
    simp only
    rw [loopX,h2]
  rw [hlp (b := ([],[⟨1000,Y⟩])) ?_ rfl]
  · simp only [bindX_g]
    rw [ordered_eq hX hE (fun s hs=>by simp at hs; subst hs; exact ⟨by simp only; omega,hY⟩) (by omega) (by simp),bindO_s,repeated_one]
    rfl
  · simp only [decide_eq_true (show (((markB 79 1000000 :: (Y ++ [markB 77 99000])).length : Int) > 0) by simp; omega),if_true]
    rw [show gt (markB 79 1000000 :: (Y ++ [markB 77 99000])) 0 = some (markB 79 1000000) from rfl,bindO_s,begin_mark,bindO_s]
    rw [ix_eq (p := fun b=>plnB b && hasV b 77 99000) (f := sp_Split_c2) _ _ (by simp; omega) (fun b hb=>split_c2 (hfew b (List.mem_append.2 (.inr hb))))]
    rw [show markB 79 1000000 :: (Y ++ [markB 77 99000]) = (markB 79 1000000 :: Y) ++ markB 77 99000 :: [] by simp,fxA_app (p := fun b=>plnB b && hasV b 77 99000) (by rfl) _ 0 (fun b hb=>by
      rcases List.mem_cons.1 hb with rfl | hb
      · rfl
      · simp [(hY b hb).r])]
    have hw2 : IntKind.i64.wrap (((0 + (markB 79 1000000 :: Y).length : Nat) : Int) + 1) = (((markB 79 1000000 :: Y) ++ [markB 77 99000]).length : Int) := by rw [wrap_i64 (by simp; omega) (by simp; omega)]; simp
    have hc : cutL ((markB 79 1000000 :: Y) ++ [markB 77 99000]) 1 ((0 + (markB 79 1000000 :: Y).length : Nat) : Int) = some Y := by
      unfold cutL
      rw [if_neg (by simp; omega)]
      simp
    have hc2 : cutF ((markB 79 1000000 :: Y) ++ [markB 77 99000]) (((markB 79 1000000 :: Y) ++ [markB 77 99000]).length : Int) = some [] := by have := cutF_app (l := (markB 79 1000000 :: Y) ++ [markB 77 99000]) (r := []); rwa [List.append_nil] at this
    simp only [decide_eq_false (show ¬ ((0 + (markB 79 1000000 :: Y).length : Nat) : Int) < 0 by omega),Bool.not_true,Bool.or_self,Bool.false_eq_true,if_false,hc,bindO_s,clone_eq (show Y.length ≤ 100000 by omega),hw2,hc2,List.nil_append]
    rfl
end Go.Proofs.YtjgngikiglhleaaGreatDoor
namespace Go.Proofs.YtjgngikiglhleaaGreatDoor
open Go.RowKit
set_option linter.unusedVariables false
set_option linter.unusedSimpArgs false
def callR (c : Bool) : Int × Int × Bool × Int := if c = true then (1000,1,true,0) else (0,0,false,0)
theorem concat1 {M : List ApiBlock} (h : M.length ≤ 1000) : slices_Concat_api_Block_api_Block [M] = some M := by
 unfold slices_Concat_api_Block_api_Block
 have h1 : IntKind.i64.wrap (0 + (M.length : Int)) = (M.length : Int) := by rw [Int.zero_add,wrap_i64 (by omega) (by omega)]
 rw [okIdx_of (by simp),guardO_t]
 simp only [rangeX,h1,decide_eq_false (show ¬ ((M.length : Int) < 0) by omega),Bool.false_eq_true,if_false,bindO_s,guardO_t,decide_eq_true (show 0 ≤ (M.length : Int) ∧ (M.length : Int) ≤ 16777216 by omega),List.nil_append,List.length_nil,Nat.zero_add,okLen_of (show M.length ≤ _ by omega)]
theorem concat2 {M Y : List ApiBlock} (h : M.length ≤ 1000) (h2 : Y.length ≤ 1000) : slices_Concat_api_Block_api_Block [M,Y] = some (M ++ Y) := by
 unfold slices_Concat_api_Block_api_Block
 have h1 : IntKind.i64.wrap (0 + (M.length : Int)) = (M.length : Int) := by rw [Int.zero_add,wrap_i64 (by omega) (by omega)]
 have h3 : IntKind.i64.wrap ((M.length : Int) + (Y.length : Int)) = (M.length : Int) + (Y.length : Int) := by rw [wrap_i64 (by omega) (by omega)]
 rw [okIdx_of (by simp),guardO_t]
 simp only [rangeX,h1,h3,decide_eq_false (show ¬ ((M.length : Int) < 0) by omega),decide_eq_false (show ¬ ((M.length : Int) + (Y.length : Int) < 0) by omega),Bool.false_eq_true,if_false,bindO_s,guardO_t,decide_eq_true (show 0 ≤ (M.length : Int) + (Y.length : Int) ∧ (M.length : Int) + (Y.length : Int) ≤ 16777216 by omega),List.nil_append,List.length_nil,Nat.zero_add,okLen_of (show M.length ≤ _ by omega),okLen_of (show M.length + Y.length ≤ _ by omega)]
theorem take_one {α : Type} {l : List α} {i : Nat} {x : α} (h : l[i]? = some x) : l.take (i + 1) = l.take i ++ [x] := by rw [List.take_add_one,h]; rfl
theorem mmI_max (a b : Int) : mmI true a b = max a b := by simp only [mmI]; split <;> omega
theorem mmI_min (a b : Int) : mmI false a b = min a b := by simp only [mmI]; split <;> omega
theorem expand_eq {M Y : List ApiBlock} {S : List SubprogramSub} {cl : ApiBlock → Bool} (hp : sp_proper ⟨M,S⟩ = some true) (hS : (S = [] ∧ ∀ b ∈ M,cl b = false) ∨ S = [⟨1000,Y⟩])
  (hM : ∀ b ∈ M,sp_Call b = some (callR (cl b))) (hY : ∀ b ∈ Y,sp_Call b = some (callR false)) (hl : M.length ≤ 1000) (hl2 : Y.length ≤ 1000) (ht : (M.flatMap fun b=>if cl b = true then Y else [b]).length ≤ 10000)
  (hw : ∀ b ∈ M ++ Y,fewB b) : sp_Expand ⟨M,S⟩ = some (M.flatMap (fun b=>if cl b = true then Y else [b]),0) := by
 obtain ⟨SM,hSM⟩ : ∃ SM : List (Int × List ApiBlock),(S = [] ∧ (∀ b ∈ M,cl b = false) ∧ SM = []) ∨ (S = [⟨1000,Y⟩] ∧ SM = [(1000,Y)]) := by
  rcases hS with ⟨h,h2⟩ | h
  ·exact ⟨[],.inl ⟨h,h2,rfl⟩⟩
  ·exact ⟨[(1000,Y)],.inr ⟨h,rfl⟩⟩
 have hcl : ∀ b ∈ M,cl b = true → SM = [(1000,Y)] := by
  intro b hb h
  rcases hSM with ⟨_,h2,_⟩ | ⟨_,h2⟩
  ·rw [h2 b hb] at h; cases h
  ·exact h2
 have htk : ∀ i,((M.take i).flatMap fun b=>if cl b = true then Y else [b]).length ≤ 10000 := by
  intro i
  have := List.take_append_drop i M
  have h2 : ((M.take i).flatMap (fun b=>if cl b = true then Y else [b]) ++ (M.drop i).flatMap (fun b=>if cl b = true then Y else [b])).length ≤ 10000 := by rw [← List.flatMap_append,this]; exact ht
  rw [List.length_append] at h2; omega
 suffices h : Tot (sp_Expand ⟨M,S⟩) (fun e=>e = (M.flatMap (fun b=>if cl b = true then Y else [b]),0)) by
  obtain ⟨e,h1,h2⟩ := h
  rw [h1,h2]
 unfold sp_Expand
 refine Tot.bind (E := fun v=>v.2.1 = SM) (Tot.bind (E := fun v=>v.1 = SM ∧ (mget v.2.2.1 1000).getD 0 = 0 ∧ (mget v.2.2.2 1000).getD 0 = ((((mget SM 1000).getD []).length : Nat) : Int)) ?_ (fun v hv=>?_)) (fun v hv=>?_)
 ·rw [hp,bindO_s]
  simp only [Bool.not_true,Bool.false_eq_true,if_false]
  refine Tot.bind (E := fun v=>v.2 = SM ∧ ∃ W,slices_Concat_api_Block_api_Block v.1 = some W ∧ W.length ≤ 2000 ∧ ∀ b ∈ W,∃ c,sp_Call b = some (callR c) ∧ (c = true → SM = [(1000,Y)])) ?_ (fun v2 h2=>?_)
  ·rcases hSM with ⟨rfl,hn,rfl⟩ | ⟨rfl,rfl⟩
   ·exact ⟨_,rfl,rfl,M,concat1 hl,by omega,fun b hb=>⟨_,hM b hb,hcl b hb⟩⟩
   ·refine ⟨_,rfl,rfl,M ++ Y,concat2 hl hl2,by simp; omega,fun b hb=>?_⟩
    rcases List.mem_append.1 hb with hb | hb
    ·exact ⟨_,hM b hb,hcl b hb⟩
    ·exact ⟨false,hY b hb,fun h=>by cases h⟩
  ·obtain ⟨e2,W,hW,hWl,hWc⟩ := h2
   rw [hW,bindO_s,e2]
   refine Tot.bindX (E := fun v=>v.length ≤ 2000 ∧ ∀ n ∈ v,n = 1000 ∧ SM = [(1000,Y)]) (TotX.guard (okIdx_of (by omega)) (TotX.of (Tot.range (fun i v=>v.length ≤ i ∧ ∀ n ∈ v,n = 1000 ∧ SM = [(1000,Y)]) _ ⟨by simp,by simp⟩ (fun i b v hb hv=>?_) (fun v hv=>.ok ⟨by have := hv.1; omega,hv.2⟩)))) (fun v5 h5=>?_)
   ·obtain ⟨c,hc,hc2⟩ := hWc b (List.mem_of_getElem? hb)
    have hi := getElem_lt hb
    rw [hc,bindO_s]
    cases c with
    | false=>exact TotX.go ⟨by omega,hv.2⟩
    | true =>
     refine TotX.bindX (E := fun u=>u = v ++ [1000]) (TotX.guard (okLen_of (by omega)) (TotX.go rfl)) (fun u hu=>TotX.go ?_)
     subst hu
     refine ⟨by simp; omega,fun n hn=>?_⟩
     rcases List.mem_append.1 hn with hn | hn
     ·exact hv.2 n hn
     ·simp at hn; exact ⟨hn,hc2 rfl⟩
   ·refine Tot.bindX (E := fun _=>True) (TotX.guard (okIdx_of (by omega)) (TotX.of (Tot.range (fun _ _=>True) _ trivial (fun i n v hn _=>?_) (fun v _=>.ok trivial)))) (fun v7 _=>?_)
    ·obtain ⟨h1,h2⟩ := h5.2 n (List.mem_of_getElem? hn)
     rw [h1,h2]
     exact TotX.go trivial
    ·rcases hSM with ⟨rfl,hn,rfl⟩ | ⟨rfl,rfl⟩
     ·exact ⟨_,rfl,rfl,rfl,rfl⟩
     ·refine Tot.bindX (E := fun v=>(mget v.2.1 1000).getD 0 = 0 ∧ (mget v.2.2 1000).getD 0 = (Y.length : Int)) (TotX.guard rfl (TotX.of (Tot.range (fun i v=>(i = 0 → v = ([],[],[])) ∧ (1 ≤ i → (mget v.2.1 1000).getD 0 = 0 ∧ (mget v.2.2 1000).getD 0 = (Y.length : Int))) _ ⟨fun _=>rfl,fun h=>by omega⟩ (fun i s v hs hv=>?_) (fun v hv=>.ok (hv.2 (by simp)))))) (fun v hv=>⟨_,rfl,rfl,hv.1,hv.2⟩)
      have hi := getElem_lt hs
      simp only [List.length_singleton] at hi
      have h0 : i = 0 := by omega
      subst h0
      have hv0 := hv.1 rfl
      subst hv0
      simp only [List.getElem?_cons_zero,Option.some.injEq] at hs
      subst hs
      simp only [mget,Option.getD_none,show ((0 : Int) == 1) = false from rfl,show ((0 : Int) == 2) = false from rfl,Bool.false_eq_true,if_false,show ((1000 : Int) == 1000) = true from rfl,if_true,Option.getD_some]
      refine TotX.bind (E := fun v=>v.1 = true ∧ (mget v.2.2.1 1000).getD 0 = 0 ∧ (mget v.2.2.2 1000).getD 0 = (Y.length : Int)) ?_ (fun v hv=>?_)
      ·refine Tot.bind (E := fun _=>True) (Tot.guard (okIdx_of (by omega)) (Tot.range (fun _ _=>True) _ trivial (fun i b v hb _=>?_) (fun v _=>.ok trivial))) (fun _ _=>?_)
       ·rw [hY b (List.mem_of_getElem? hb),bindO_s]
        exact TotX.go trivial
       ·refine Tot.bind (E := fun v=>v = (0,(Y.length : Int))) (Tot.bind (E := fun v=>v = (0,(Y.length : Int))) (Tot.guard (okIdx_of (by omega)) (Tot.range (fun i v=>v = (0,(i : Int))) _ rfl (fun i b v hb hv=>?_) (fun v hv=>.ok hv))) (fun v hv=>.ok (by rw [hv]))) (fun v hv=>.ok ?_)
        ·subst hv
         have hi := getElem_lt hb
         rw [hY b (List.mem_of_getElem? hb),bindO_s]
         have e1 : IntKind.i64.wrap ((i : Int) + 1) = (i : Int) + 1 := by rw [wrap_i64 (by omega) (by omega)]
         refine TotX.go ?_
         simp only [callR,Bool.false_eq_true,if_false,e1,mmI_min,Prod.mk.injEq,true_and]
         omega
        ·subst hv
         exact ⟨rfl,rfl,rfl⟩
      ·rw [hv.1]
       exact TotX.go ⟨fun h=>by omega,fun _=>hv.2⟩
 ·obtain ⟨h1,h2,h3⟩ := hv
  refine Tot.bind (E := fun v=>v.1 ≤ 1 ∧ v.2 ≤ 10000) (Tot.bind (E := fun v=>v.1 ≤ 1 ∧ v.2 ≤ 10000) (Tot.guard (okIdx_of (by simp only; omega)) (Tot.range (fun i v=>(0 ≤ v.1 ∧ v.1 ≤ 1) ∧ v.2 = ((((M.take i).flatMap fun b=>if cl b = true then Y else [b]).length : Nat) : Int)) _ ⟨⟨by simp,by simp⟩,by simp⟩ (fun i b v hb hv=>?_) (fun v hv=>.ok ?_))) (fun v hv=>.ok hv)) (fun v hv=>?_)
  ·have hbm := List.mem_of_getElem? hb
   have hti := htk (i + 1)
   have hti0 := htk i
   rw [take_one hb,List.flatMap_append] at hti
   simp only [List.flatMap_cons,List.flatMap_nil,List.append_nil,List.length_append] at hti
   rw [hM b hbm,bindO_s]
   cases hc : cl b with
   | false =>
    refine TotX.go ⟨hv.1,?_⟩
    rw [take_one hb,List.flatMap_append,hv.2]
    simp only [callR,hc,Bool.false_eq_true,if_false,mmI_min,List.flatMap_cons,List.flatMap_nil,List.append_nil,List.length_append,List.length_singleton]
    rw [wrap_i64 (by omega) (by omega),Int.min_eq_left (by omega)]
    omega
   | true =>
    have hsm := hcl b hbm hc
    rw [hsm] at h3
    simp only [mget,show ((1000 : Int) == 1000) = true from rfl,if_true,Option.getD_some] at h3
    rw [hc,if_pos rfl] at hti
    refine TotX.go ?_
    simp only [callR,if_true,Bool.not_true,Bool.false_eq_true,if_false,h2,h3,mmI_min,mmI_max]
    rw [take_one hb,List.flatMap_append,hv.2]
    simp only [hc,if_true,List.flatMap_cons,List.flatMap_nil,List.append_nil,List.length_append]
    rw [wrap_i64 (n := 1 + 0) (by omega) (by omega),wrap_i64 (n := 1 * (Y.length : Int)) (by omega) (by omega),wrap_i64 (by omega) (by omega)]
    have := hv.1
    refine ⟨⟨by omega,by omega⟩,by omega⟩
  ·rw [List.take_length] at hv
   simp only at hv
   exact ⟨hv.1.2,by rw [hv.2]; omega⟩
  ·refine Tot.ite (fun q=>?_) (fun _=>.ok h1)
   exfalso
   simp at q
   omega
 ·refine Tot.bind (E := fun v=>v.1 = M.flatMap fun b=>if cl b = true then Y else [b]) (Tot.bind (E := fun v=>v.1 = M.flatMap fun b=>if cl b = true then Y else [b]) (Tot.guard (okIdx_of (by simp only; omega)) (Tot.range (fun i v=>(v.1 = (M.take i).flatMap fun b=>if cl b = true then Y else [b]) ∧ (v.2 = [] ∨ v.2 = [(1000,Y)])) _ ⟨by simp,.inl rfl⟩ (fun i b v2 hb hv2=>?_) (fun v hv=>.ok (by rw [hv.1,List.take_length])))) (fun v hv=>.ok hv)) (fun v2 hv2=>?_)
  ·have hbm := List.mem_of_getElem? hb
   have hti := htk (i + 1)
   have hti0 := htk i
   rw [take_one hb,List.flatMap_append] at hti
   simp only [List.flatMap_cons,List.flatMap_nil,List.append_nil,List.length_append] at hti
   rw [hM b hbm,bindO_s]
   obtain ⟨e1,e2⟩ := hv2
   rw [take_one hb,List.flatMap_append]
   simp only [List.flatMap_cons,List.flatMap_nil,List.append_nil]
   cases hc : cl b with
   | false =>
    simp only [callR,Bool.not_false,if_true,Bool.false_eq_true,if_false]
    rw [← e1] at hti0 ⊢
    rw [okLen_of (by omega),guardO_t,bindO_s]
    exact TotX.go ⟨rfl,e2⟩
   | true =>
    have hsm := hcl b hbm hc
    simp only [callR,Bool.not_true,if_true,Bool.false_eq_true,if_false,hv,hsm]
    rw [hc,if_pos rfl,← e1] at hti
    rw [← e1]
    refine TotX.bind (E := fun u=>u.1 = v2.1 ++ Y ∧ u.2 = [(1000,Y)]) (Tot.bind (E := fun u=>u.1 = Y ∧ u.2 = [(1000,Y)]) ?_ (fun u hu=>?_)) (fun u hu=>TotX.go ⟨hu.1,.inr hu.2⟩)
    ·rcases e2 with e2 | e2
     ·rw [e2]
      simp only [mget,Option.isSome_none,Bool.not_false,if_true,show ((1000 : Int) == 1000) = true from rfl,Option.getD_some]
      refine Tot.bind (E := fun u=>u = Y) (Tot.bind (E := fun u=>u = Y) (Tot.guard (okIdx_of (by omega)) (Tot.range (fun j u=>u = Y.take j) _ rfl (fun j c u hj hu=>?_) (fun u hu=>.ok (by rw [hu,List.take_length])))) (fun u hu=>.ok hu)) (fun u hu=>.ok ⟨hu,by rw [hu]; rfl⟩)
      subst hu
      rw [hY c (List.mem_of_getElem? hj),bindO_s]
      simp only [callR,Bool.false_eq_true,if_false,Bool.not_false,if_true]
      rw [okLen_of (by simp; omega),guardO_t,bindO_s,take_one hj]
      exact TotX.go rfl
     ·rw [e2]
      exact .ok ⟨rfl,rfl⟩
    ·obtain ⟨u1,u2⟩ := hu
     rw [u1,u2]
     refine Tot.ite (fun q=>.ok ⟨?_,rfl⟩) (fun _=>?_)
     ·have : Y.length = 0 := by simpa using q
      rw [List.length_eq_zero_iff.1 this,List.append_nil]
     ·have hlp : ∀ {f : (List ApiBlock) × Int → Option (Ex ((List ApiBlock) × (List (Int × (List ApiBlock)))) ((List ApiBlock) × Int))} {a b : List ApiBlock × Int} {r : (List ApiBlock) × (List (Int × (List ApiBlock)))},f a = some (.go b) → f b = some (.ret r) → loopX f fuel a = some r := by
       intro f a b r h1 h2
       unfold fuel
       rw [loopX,h1]
       simp only
       rw [loopX,h2]
      refine ⟨(v2.1 ++ Y,[(1000,Y)]),hlp (b := (v2.1 ++ Y,1)) ?_ ?_,rfl,rfl⟩
      ·simp only [show decide ((0 : Int) < 1) = true from rfl,if_true]
       rw [okLen_of (by omega),guardO_t]
       rfl
      ·rfl
  ·rw [hv2]
   refine Tot.bind (E := fun u=>u = M.flatMap fun b=>if cl b = true then Y else [b]) (Tot.guard (okIdx_of (by omega)) (Tot.range (fun i u=>u = (M.flatMap fun b=>if cl b = true then Y else [b]).take i) _ rfl (fun i b u hb hu=>?_) (fun u hu=>.ok (by rw [hu,List.take_length])))) (fun u hu=>.ok (by rw [hu]))
   subst hu
   have hi := getElem_lt hb
   have hbf : fewB b := by
    obtain ⟨c,hc1,hc2⟩ := List.mem_flatMap.1 (List.mem_of_getElem? hb)
    split at hc2
    ·exact hw b (List.mem_append.2 (.inr hc2))
    ·simp at hc2; subst hc2; exact hw _ (List.mem_append.2 (.inl hc1))
   unfold fewB at hbf
   unfold slices_Clone_api_Word_api_Word
   rw [okLen_of (by omega),guardO_t,bindO_s,okLen_of (by simp; omega),guardO_t,take_one hb]
   exact TotX.go rfl
end Go.Proofs.YtjgngikiglhleaaGreatDoor
namespace Go.Proofs.YtjgngikiglhleaaGreatDoor
open Go.RowKit
set_option linter.unusedVariables false
set_option linter.unusedSimpArgs false
def StdB (b : ApiBlock) : Prop := b.Words.length ≤ 7 ∧ ∀ w ∈ b.Words,w.Letter ≠ 78 ∧ w.Letter ≠ 79 ∧ (w.Letter = 77 → w.Value = 6000)
def endB : ApiBlock := markB 77 30000
theorem any_not {l : List ApiWord} {q : ApiWord → Bool} (h : ∀ w ∈ l,q w = false) : l.any q = false := by
 rw [List.any_eq_false]
 intro w hw
 simp [h w hw]
theorem StdB.has {b : ApiBlock} (h : StdB b) {n : Int} (hn : n ≠ 6000) : hasV b 77 n = false := any_not fun w hw=>by
 by_cases e : w.Letter = 77
 ·have := (h.2 w hw).2.2 e
  simp [e,this]; omega
 ·simp [e]
theorem StdB.let {b : ApiBlock} (h : StdB b) : letV b 79 = false ∧ letV b 78 = false := ⟨any_not fun w hw=>by simp [(h.2 w hw).2.1],any_not fun w hw=>by simp [(h.2 w hw).1]⟩
theorem moves_ret : ∀ (l : List ApiMove) (p : ApiPos) (e : Int),movesV p l = .ret e → e ≠ 0
 | [],p,e,h=>by cases h
 | m :: r,p,e,h=>by
  rw [movesV] at h
  split at h
  ·cases hm : movesV m.To r with
   | ret e'=>rw [hm] at h; simp only at h; injection h with h; subst h; exact moves_ret r _ _ hm
   | go v=>rw [hm] at h; cases h
  ·rename_i q; injection h with h; rw [← h]; exact q
theorem stages_ret : ∀ (l : List ApiStage) (p : ApiPos) (e : Int),stagesV p l = .ret e → e ≠ 0
 | [],p,e,h=>by cases h
 | s :: r,p,e,h=>by
  rw [stagesV] at h
  split at h
  ·cases hm : movesV p s.Moves with
   | ret e'=>rw [hm] at h; simp only at h; injection h with h; subst h; exact moves_ret _ _ _ hm
   | go v =>
    rw [hm] at h
    simp only at h
    cases hr : stagesV v.2 r with
    | ret e'=>rw [hr] at h; simp only at h; injection h with h; subst h; exact stages_ret r _ _ hr
    | go u=>rw [hr] at h; cases h
  ·rename_i q; injection h with h; rw [← h]; exact q
theorem std_plain {l : List ApiStage} {p : ApiPos} {w : Int} (hl : okStages l) (hp : okPos p) (hg : grp w = 3) (h0 : (plainV l p w).2 = 0) : ∃ X,(plainV l p w).1 = X ++ [endB] ∧ ∀ b ∈ X,StdB b := by
 obtain ⟨_,hgood⟩ := plain_good hl hp hg
 revert hgood
 unfold plainV at h0 ⊢
 split at h0
 ·simp at h0
 ·rename_i hc
  rw [if_neg hc]
  cases hs : stagesV p l with
  | ret e =>
   rw [hs] at h0
   simp only at h0
   exact absurd h0 (stages_ret _ _ _ hs)
  | go v =>
   intro hgood
   obtain ⟨h1,h2⟩ := stagesV_go l p v hs hp hl.2
   refine ⟨headB w ++ v.1 ++ [⟨false,[⟨71,49000⟩],[]⟩],by simp [tailB,endB,markB],fun b hb=>?_⟩
   have hlen : b.Words.length ≤ 7 := (hgood b (by simp only [List.mem_append,tailB,List.mem_cons,List.not_mem_nil,or_false] at hb ⊢; rcases hb with (h | h) | h <;> simp [h])).2.2
   refine ⟨hlen,?_⟩
   simp only [List.mem_append] at hb
   rcases hb with (q | q) | q
   ·simp only [headB,List.mem_cons,List.not_mem_nil,or_false] at q
    subst q
    intro x hx
    simp only [List.mem_cons,List.not_mem_nil,or_false] at hx
    rcases hx with rfl | rfl | rfl | rfl | rfl <;> simp
   ·rcases h2 b q with ⟨q1,m1,_,a2,rfl⟩ | ⟨n,a1,a2⟩
    ·intro x hx
     unfold movB at hx
     split at hx
     ·simp at hx
     ·split at hx
      ·simp at hx
      ·unfold movW at hx
       simp only [List.mem_append] at hx
       rcases hx with (hx | hx) | hx
       ·simp only [List.mem_cons,List.not_mem_nil,or_false] at hx
        rcases hx with rfl | rfl | rfl | rfl <;> simp
       ·split at hx
        ·simp only [List.mem_cons,List.not_mem_nil,or_false] at hx
         rcases hx with rfl | rfl <;> simp
        ·simp at hx
       ·split at hx
        ·simp at hx
        ·simp only [List.mem_cons,List.not_mem_nil,or_false] at hx
         subst hx; simp
    ·unfold chgV at a1 a2
     split at a1
     ·omega
     ·rename_i hn
      rw [if_neg hn] at a2
      simp only [chgB,List.mem_cons,List.not_mem_nil,or_false] at a2
      intro x hx
      rcases a2 with rfl | rfl <;> (simp only [List.mem_cons,List.not_mem_nil,or_false] at hx; rcases hx with rfl | rfl <;> simp)
   ·simp only [List.mem_cons,List.not_mem_nil,or_false] at q
    subst q
    intro x hx
    simp only [List.mem_cons,List.not_mem_nil,or_false] at hx
    subst hx; simp
theorem cmp_std : ∀ (X : List ApiBlock) (s : ModalState),(∀ b ∈ X,StdB b) → ∃ Y,cmpV s (X ++ [endB]) = Y ++ [endB] ∧ ∀ b ∈ Y,StdB b
 | [],s,_=>⟨[],by simp [cmpV,cmpB,endB,markB,idleW],by simp⟩
 | c :: r,s,h=>by
  obtain ⟨Y,e,hY⟩ := cmp_std r (c.Words.foldl putW s) (fun b hb=>h b (by simp [hb]))
  refine ⟨cmpB s c ++ Y,by rw [List.cons_append,cmpV,e,List.append_assoc],fun b hb=>?_⟩
  rcases List.mem_append.1 hb with q | q
  ·unfold cmpB at q
   split at q
   ·simp only [List.mem_cons,List.not_mem_nil,or_false] at q
    subst q
    have hc := h c (by simp)
    refine ⟨?_,fun w hw=>hc.2 w (List.mem_filter.1 hw).1⟩
    have h1 := List.length_filter_le (fun w=>!idleW s w) c.Words
    have := hc.1
    simp only; omega
   ·simp at q
  ·exact hY b q
theorem base_std {l : List ApiStage} {p : ApiPos} {w : Int} {c : Bool} (hl : okStages l) (hp : okPos p) (hg : grp w = 3) (h0 : (plainV l p w).2 = 0) : ∃ X,(if c = true then cmpV newS (plainV l p w).1 else (plainV l p w).1) = X ++ [endB] ∧ X.length ≤ 130 ∧ ∀ b ∈ X,StdB b := by
 obtain ⟨X,hX,hs⟩ := std_plain hl hp hg h0
 have hlen := (plain_good hl hp hg).1
 cases c with
 | false =>
  refine ⟨X,by simpa using hX,?_,hs⟩
  rw [hX] at hlen; simp at hlen; omega
 | true =>
  rw [hX]
  obtain ⟨Y,e,hY⟩ := cmp_std X newS hs
  refine ⟨Y,by simpa using e,?_,hY⟩
  have h2 := cmpV_len (X ++ [endB]) newS
  rw [e] at h2
  rw [hX] at hlen
  simp at hlen h2; omega
def Num (b' b : ApiBlock) : Prop := b' = b ∨ ((letV b 79 = false ∧ hasV b 77 99000 = false) ∧ ∃ v,b' = ⟨b.Skip,[⟨78,v⟩] ++ b.Words,b.Comment⟩)
inductive NumL : List ApiBlock → List ApiBlock → Prop
 | nil : NumL [] []
 | cons {b' b : ApiBlock} {A X : List ApiBlock} (h : Num b' b) (t : NumL A X) : NumL (b' :: A) (b :: X)
theorem NumL.refl : ∀ X : List ApiBlock,NumL X X
 | []=>.nil
 | _ :: X=>.cons (.inl rfl) (NumL.refl X)
theorem NumL.of (n : Int) : ∀ (l : List ApiBlock) (k : Int),NumL (numV n k l) l
 | [],_=>.nil
 | b :: r,k=>by
  rw [numV]
  refine .cons ?_ (NumL.of n r _)
  unfold numB
  split
  ·rename_i h
   simp only [Bool.and_eq_true,Bool.not_eq_true'] at h
   exact .inr ⟨h,_,rfl⟩
  ·exact .inl rfl
theorem NumL.split : ∀ (X : List ApiBlock) {A Y : List ApiBlock},NumL A (X ++ Y) → ∃ A1 A2,A = A1 ++ A2 ∧ NumL A1 X ∧ NumL A2 Y
 | [],A,Y,h=>⟨[],A,rfl,.nil,h⟩
 | x :: X,A,Y,h=>by
  cases h with
  | cons h1 t =>
   obtain ⟨A1,A2,e,g1,g2⟩ := NumL.split X t
   exact ⟨_ :: A1,A2,by rw [e]; rfl,.cons h1 g1,g2⟩
theorem NumL.one {A : List ApiBlock} {x : ApiBlock} (h : NumL A [x]) : ∃ y,A = [y] ∧ Num y x := by
 cases h with
 | cons h1 t=>cases t with | nil=>exact ⟨_,rfl,h1⟩
theorem NumL.mem {A X : List ApiBlock} (h : NumL A X) : ∀ b' ∈ A,∃ b ∈ X,Num b' b := by
 induction h with
 | nil=>intro b hb; simp at hb
 | cons h1 t ih =>
  intro b hb
  rcases List.mem_cons.1 hb with rfl | hb
  ·exact ⟨_,by simp,h1⟩
  ·obtain ⟨c,hc,hn⟩ := ih b hb
   exact ⟨c,by simp [hc],hn⟩
theorem NumL.len {A X : List ApiBlock} (h : NumL A X) : A.length = X.length := by
 induction h with
 | nil=>rfl
 | cons h1 t ih=>simp [ih]
theorem Num.has {b' b : ApiBlock} (h : Num b' b) {x : Int} : hasV b' 77 x = hasV b 77 x := by
 rcases h with rfl | ⟨_,v,rfl⟩
 ·rfl
 ·simp [hasV]
theorem Num.let {b' b : ApiBlock} (h : Num b' b) : letV b' 79 = letV b 79 := by
 rcases h with rfl | ⟨_,v,rfl⟩
 ·rfl
 ·simp [letV]
theorem Num.len {b' b : ApiBlock} (h : Num b' b) (hl : b.Words.length ≤ 7) : b'.Words.length ≤ 8 := by
 rcases h with rfl | ⟨_,v,rfl⟩
 ·omega
 ·simp; omega
def bareB (b : ApiBlock) : ApiBlock := ⟨b.Skip,b.Words.filter (fun w=>w.Letter != 78),b.Comment⟩
theorem Num.bare {b' b : ApiBlock} (h : Num b' b) : bareB b' = bareB b := by
 rcases h with rfl | ⟨_,v,rfl⟩
 ·rfl
 ·simp [bareB]
theorem bare_std {b : ApiBlock} (h : StdB b) : bareB b = b := by
 unfold bareB
 rw [List.filter_eq_self.2 (fun w hw=>by simpa using (h.2 w hw).1)]
theorem Num.free {b' b : ApiBlock} (h : Num b' b) (hs : StdB b ∨ b = callB) : FreeB b' := by
 rcases hs with hs | rfl
 ·exact ⟨by have := h.len hs.1; unfold fewB; omega,by rw [h.let]; exact hs.let.1,by rw [h.has]; exact hs.has (by omega),by rw [h.has]; exact hs.has (by omega)⟩
 ·exact ⟨by have := h.len (by simp [callB]); unfold fewB; omega,by rw [h.let]; rfl,by rw [h.has]; rfl,by rw [h.has]; rfl⟩
theorem Num.end {b' : ApiBlock} (h : Num b' endB) : EndB b' := ⟨by have := h.len (by simp [endB,markB]); unfold fewB; omega,by rw [h.let]; rfl,by rw [h.has]; rfl,by rw [h.has]; rfl⟩
theorem call_no {b : ApiBlock} (hf : fewB b) (h : hasV b 77 98000 = false) : sp_Call b = some (callR false) := by
 unfold sp_Call
 rw [sp_has_eq hf,bindO_s,h]; rfl
theorem call_yes {b' : ApiBlock} (h : Num b' callB) : sp_Call b' = some (callR true) := by
 have hf : fewB b' := by have := h.len (by simp [callB]); unfold fewB; omega
 have hh : hasV b' 77 98000 = true := by rw [h.has]; rfl
 unfold sp_Call
 rw [sp_has_eq hf,bindO_s,hh]
 rcases h with rfl | ⟨_,v,rfl⟩
 ·rfl
 ·rfl
end Go.Proofs.YtjgngikiglhleaaGreatDoor
