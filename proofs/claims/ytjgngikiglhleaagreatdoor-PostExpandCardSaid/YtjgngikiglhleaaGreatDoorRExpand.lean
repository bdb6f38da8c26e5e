import Derived.Test.YtjgngikiglhleaaGreatDoorPqt
import Derived.Test.YtjgngikiglhleaaGreatDoorMLPostExpand
namespace Go.Proofs.YtjgngikiglhleaaGreatDoor
open Go.RowKit
set_option linter.unusedVariables false
set_option linter.unusedSimpArgs false
theorem run_at {X : List ApiBlock} {n a i : Nat} (hr : runB (X ++ [endB]) n a i = true) (hn : 1 ≤ n) (hi : i + n ≤ X.length + 1) : i + n ≤ X.length ∧ ((X ++ [endB]).drop a).take n = (X.drop i).take n := by
 have h := runB_iff.1 hr
 have hi2 : i + n ≤ X.length := by
  rcases Nat.lt_or_ge X.length (i + n) with q | q
  ·exfalso
   obtain ⟨b,_,h2,h3⟩ := h (n - 1) (by omega)
   rw [show i + (n - 1) = X.length by omega] at h2
   simp at h2
   subst h2
   exact absurd h3 (by decide)
  ·exact q
 refine ⟨hi2,?_⟩
 apply List.ext_getElem?
 intro j
 rw [List.getElem?_take,List.getElem?_take]
 by_cases hj : j < n
 ·rw [if_pos hj,if_pos hj,List.getElem?_drop,List.getElem?_drop]
  obtain ⟨b,h1,h2,_⟩ := h j hj
  rw [h1,← h2,List.getElem?_append_left (by omega)]
 ·rw [if_neg hj,if_neg hj]
theorem call_has : hasV callB 77 98000 = true := by rfl
theorem foldM_std {X Y : List ApiBlock} {n a : Nat} (hX : ∀ b ∈ X,StdB b) (hn : 1 ≤ n) (hY : Y = ((X ++ [endB]).drop a).take n) : ∀ (f i : Nat),i ≤ X.length → X.length + 1 - i ≤ f → ∃ Z,foldM (X ++ [endB]) n a f i = Z ++ [endB] ∧ (∀ b ∈ Z,StdB b ∨ b = callB) ∧ (Z.flatMap fun b=>if hasV b 77 98000 = true then Y else [b]) = X.drop i
 | 0,i,hi,hf=>by omega
 | f + 1,i,hi,hf=>by
  rw [foldM]
  have hsome : (X ++ [endB])[i]? = some ((X ++ [endB])[i]'(by simp; omega)) := List.getElem?_eq_getElem _
  obtain ⟨x,hx⟩ : ∃ x,(X ++ [endB])[i]? = some x := ⟨_,hsome⟩
  rw [hx]
  simp only
  by_cases hr : (decide (i + n ≤ (X ++ [endB]).length) && runB (X ++ [endB]) n a i) = true
  ·rw [if_pos hr]
   simp only [Bool.and_eq_true,decide_eq_true_eq] at hr
   obtain ⟨h1,h2⟩ := run_at hr.2 hn (by have := hr.1; simp at this; omega)
   obtain ⟨Z,g1,g2,g3⟩ := foldM_std hX hn hY f (i + n) h1 (by omega)
   refine ⟨callB :: Z,by rw [g1]; rfl,fun b hb=>?_,?_⟩
   ·rcases List.mem_cons.1 hb with rfl | hb
    ·exact .inr rfl
    ·exact g2 b hb
   ·rw [List.flatMap_cons,g3,call_has,if_pos rfl,hY,h2,← List.drop_drop,List.take_append_drop]
  ·rw [if_neg hr]
   rcases Nat.lt_or_ge i X.length with q | q
   ·obtain ⟨Z,g1,g2,g3⟩ := foldM_std hX hn hY f (i + 1) q (by omega)
    rw [List.getElem?_append_left q] at hx
    have hxm := hX x (List.mem_of_getElem? hx)
    refine ⟨x :: Z,by rw [g1]; rfl,fun b hb=>?_,?_⟩
    ·rcases List.mem_cons.1 hb with rfl | hb
     ·exact .inl hxm
     ·exact g2 b hb
    ·rw [List.flatMap_cons,g3,hxm.has (by omega),if_neg (by simp),List.drop_eq_getElem_cons q]
     rw [List.getElem?_eq_getElem q] at hx
     injection hx with hx
     rw [hx]; rfl
   ·obtain rfl : i = X.length := by omega
    simp at hx
    subst hx
    refine ⟨[],by rw [foldM_end (by simp)]; rfl,by simp,by simp⟩
theorem foldJ_std {X : List ApiBlock} {n : Nat} (hX : ∀ b ∈ X,StdB b) (hn : 1 ≤ n) : (atV (X ++ [endB]) n = none ∧ foldJ (X ++ [endB]) n = X ++ [endB]) ∨
  ∃ Z Y,foldJ (X ++ [endB]) n = (Z ++ [endB]) ++ markB 79 1000000 :: (Y ++ [markB 77 99000]) ∧ (∀ b ∈ Z,StdB b ∨ b = callB) ∧ (∀ b ∈ Y,StdB b) ∧ (Z.flatMap fun b=>if hasV b 77 98000 = true then Y else [b]) = X ∧ Y.length ≤ X.length := by
 unfold foldJ
 cases ha : atV (X ++ [endB]) n with
 | none=>exact .inl ⟨rfl,rfl⟩
 | some a =>
  right
  have h4 := atV_run ha
  simp at h4
  have hYX : ((X ++ [endB]).drop a).take n = (X.drop a).take n := by
   rw [List.drop_append_of_le_length (by omega),List.take_append_of_le_length (by simp; omega)]
  obtain ⟨Z,g1,g2,g3⟩ := foldM_std hX hn (Y := ((X ++ [endB]).drop a).take n) (a := a) rfl (X ++ [endB]).length 0 (by omega) (by simp)
  refine ⟨Z,((X ++ [endB]).drop a).take n,by simp only [g1]; simp,g2,fun b hb=>?_,by simpa using g3,by rw [hYX]; simp; omega⟩
  rw [hYX] at hb
  exact hX b (List.mem_of_mem_drop (List.mem_of_mem_take hb))
theorem num_flat {Y Y' : List ApiBlock} (hY : Y'.map bareB = Y) {A Z : List ApiBlock} (h : NumL A Z) : (∀ b ∈ Z,StdB b ∨ b = callB) → (A.flatMap fun b=>if hasV b 77 98000 = true then Y' else [b]).map bareB = Z.flatMap fun b=>if hasV b 77 98000 = true then Y else [b] := by
 induction h with
 | nil=>intro _; rfl
 | cons h1 t ih =>
  intro hs
  rw [List.flatMap_cons,List.flatMap_cons,List.map_append,ih (fun b hb=>hs b (by simp [hb])),h1.has]
  congr 1
  rename_i b' b A X
  rcases hs b (by simp) with q | q
  ·rw [q.has (by omega)]
   simp [h1.bare,bare_std q]
  ·rw [q,call_has,if_pos rfl,if_pos rfl,hY]
theorem num_map {A Y : List ApiBlock} (h : NumL A Y) : (∀ b ∈ Y,StdB b) → A.map bareB = Y := by
 induction h with
 | nil=>intro _; rfl
 | cons h1 t ih =>
  intro hs
  rw [List.map_cons,ih (fun b hb=>hs b (by simp [hb])),h1.bare,bare_std (hs _ (by simp))]
theorem bare_eq {L : List ApiBlock} (hl : L.length ≤ 100000) (hw : ∀ b ∈ L,fewB b) : r46_Bare L = some (L.map bareB) := by
 suffices h : Tot (r46_Bare L) (fun e=>e = L.map bareB) by
  obtain ⟨e,h1,h2⟩ := h
  rw [h1,h2]
 unfold r46_Bare
 refine Tot.bind (E := fun e=>e = L.map bareB) (Tot.guard (okIdx_of (by omega)) (Tot.range (fun i v=>v = (L.take i).map bareB) _ rfl (fun i b v hb hv=>?_) (fun v hv=>.ok (by rw [hv,List.take_length])))) (fun v hv=>.ok hv)
 have hbf := hw b (List.mem_of_getElem? hb)
 have hi := getElem_lt hb
 unfold fewB at hbf
 refine TotX.bind (E := fun u=>u = v ++ [bareB b]) (Tot.bind (E := fun u=>u = b.Words.filter fun w=>w.Letter != 78) (Tot.loop (fun m (u : Int × List ApiWord)=>∃ j : Nat,u.1 = (j : Int) ∧ j + m = b.Words.length ∧ u.2 = (b.Words.take j).filter fun w=>w.Letter != 78) _ b.Words.length (fuel_gt (by omega)) ⟨0,rfl,by simp,rfl⟩ (fun m u hu=>?_)) (fun u hu=>?_)) (fun u hu=>TotX.go ?_)
 ·obtain ⟨j,e1,e2,e3⟩ := hu
  refine TotX.ite (fun q=>?_) (fun q=>?_)
  ·simp only [e1,decide_eq_true_eq] at q
   have hj : j < b.Words.length := by omega
   have hg : gt b.Words u.1 = some b.Words[j] := by unfold gt; rw [e1,if_neg (by omega)]; simp [hj]
   refine TotX.bind (E := fun z=>z = (b.Words.take (j + 1)).filter fun w=>w.Letter != 78) ?_ (fun z hz=>TotX.go ⟨m - 1,by omega,j + 1,?_,by omega,hz⟩)
   ·rw [hg,bindO_s,take_one (List.getElem?_eq_getElem hj),List.filter_append]
    have hlen := List.length_filter_le (fun w : ApiWord=>w.Letter != 78) (b.Words.take j)
    have hlt : (b.Words.take j).length ≤ j := by simp; omega
    refine Tot.ite (fun q2=>?_) (fun q2=>?_)
    ·refine Tot.guard (okLen_of (by rw [e3]; omega)) (.ok ?_)
     rw [e3]; simp [q2]
    ·refine .ok ?_
     rw [e3]; simp [q2]
   ·simp only [e1]
    rw [wrap_i64 (by omega) (by omega)]; omega
  ·simp only [e1,decide_eq_false_iff_not] at q
   refine TotX.ret ?_
   rw [e3,show j = b.Words.length by omega,List.take_length]
 ·refine Tot.guard (okLen_of (by rw [hv]; simp; omega)) (.ok ?_)
  rw [hu]; rfl
 ·rw [hu,hv,take_one hb,List.map_append]; rfl
theorem proper_eq {X : List ApiBlock} {E : ApiBlock} {S : List SubprogramSub} (hX : ∀ b ∈ X,FreeB b) (hE : EndB E) (hl : X.length ≤ 1000) (hS : S = [] ∨ ∃ Y : List ApiBlock,S = [⟨1000,Y⟩] ∧ Y.length ≤ 1000 ∧ ∀ b ∈ Y,FreeB b) : sp_proper ⟨X ++ [E],S⟩ = some true := by
 unfold sp_proper
 rcases hS with rfl | ⟨Y,rfl,hYl,hY⟩
 ·rw [show bindX (guardO (okIdx (SubprogramProgram.mk (X ++ [E]) []).Subs) (rangeX (fun (i1 : Nat) (e1 : SubprogramSub) (v1 : Unit)=>if ((decide (e1.Number < 1)) || (decide (e1.Number > 9999))) = true then some (.ret (.ret false)) else some (.go ())) (fun (v1 : Unit)=>some (.go ())) (SubprogramProgram.mk (X ++ [E]) []).Subs 0 ())) _ = _ from rfl]
  rw [ordered_eq hX hE (fun s hs=>by simp at hs) (by omega) (by simp)]; rfl
 ·rw [show bindX (guardO (okIdx (SubprogramProgram.mk (X ++ [E]) [⟨1000,Y⟩]).Subs) (rangeX (fun (i1 : Nat) (e1 : SubprogramSub) (v1 : Unit)=>if ((decide (e1.Number < 1)) || (decide (e1.Number > 9999))) = true then some (.ret (.ret false)) else some (.go ())) (fun (v1 : Unit)=>some (.go ())) (SubprogramProgram.mk (X ++ [E]) [⟨1000,Y⟩]).Subs 0 ())) _ = _ from rfl]
  rw [ordered_eq hX hE (fun s hs=>by simp at hs; subst hs; exact ⟨by simp only; omega,hY⟩) (by omega) (by simp)]; rfl
theorem round {X A : List ApiBlock} {n : Nat} (hX : ∀ b ∈ X, StdB b) (hl : X.length ≤ 130) (hn : n = 0 ∨ 1 ≤ n) (hA : NumL A (if n = 0 then X ++ [endB] else foldJ (X ++ [endB]) n)) (hAl : A.length ≤ 300) :
    ∃ p l,sp_Split A = some (p,0) ∧ sp_Expand p = some (l,0) ∧ r46_Bare l = some (X ++ [endB]) := by
  have plainC : NumL A (X ++ [endB]) → ∃ p l,sp_Split A = some (p,0) ∧ sp_Expand p = some (l,0) ∧ r46_Bare l = some (X ++ [endB]) := by
    intro h
    obtain ⟨A1,A2,rfl,h1,h2⟩ := h.split
    obtain ⟨E,rfl,hE⟩ := h2.one
    have hf : ∀ b ∈ A1,FreeB b := fun b hb=>by
      obtain ⟨c,hc,hn⟩ := h1.mem b hb
      exact hn.free (.inl (hX c hc))
    have hno : ∀ b ∈ A1 ++ [E],hasV b 77 98000 = false := fun b hb=>by
      rcases List.mem_append.1 hb with hb | hb
      · obtain ⟨c,hc,hn⟩ := h1.mem b hb
        rw [hn.has]; exact (hX c hc).has (by omega)
      · simp at hb; subst hb; rw [hE.has]; rfl
    have hfew : ∀ b ∈ A1 ++ [E],fewB b := fun b hb=>by
      rcases List.mem_append.1 hb with hb | hb
      · exact (hf b hb).few
      · simp at hb; subst hb; exact hE.end.few
    have hlen : A1.length ≤ 300 := by simp at hAl; omega
    have hex := expand_eq (M := A1 ++ [E]) (Y := []) (S := []) (cl := fun _=>false) (proper_eq hf hE.end (by omega) (.inl rfl)) (.inl ⟨rfl,fun _ _=>rfl⟩) (fun b hb=>call_no (hfew b hb) (hno b hb)) (fun b hb=>by simp at hb) (by omega) (by simp) (by simp; omega) (fun b hb=>hfew b (by simpa using hb))
    have hfm : ((A1 ++ [E]).flatMap fun b=>if false = true then [] else [b]) = A1 ++ [E] := by simp
    rw [hfm] at hex
    refine ⟨_,_,split_plain hf hE.end (by omega),hex,?_⟩
    rw [bare_eq (by omega) hfew,List.map_append,num_map h1 hX,List.map_singleton,hE.bare]
    rfl
  rcases hn with rfl | hn
  · exact plainC (by simpa using hA)
  · rw [if_neg (by omega)] at hA
    rcases foldJ_std hX hn with ⟨_,h2⟩ | ⟨Z,Y,h2,hZ,hY,hflat,hYl⟩
    · rw [h2] at hA; exact plainC hA
    · rw [h2] at hA
      obtain ⟨A1,A2,rfl,h3,h4⟩ := hA.split
      obtain ⟨A3,A4,rfl,h5,h6⟩ := h3.split
      obtain ⟨E,rfl,hE⟩ := h6.one
      cases h4 with
      | cons hO h7 =>
        obtain ⟨A5,A6,rfl,h8,h9⟩ := h7.split
        obtain ⟨R,rfl,hR⟩ := h9.one
        have eO : _ = markB 79 1000000 := hO.resolve_right (by rintro ⟨⟨q,_⟩,_⟩; exact absurd q (by decide))
        have eR : R = markB 77 99000 := hR.resolve_right (by rintro ⟨⟨_,q⟩,_⟩; exact absurd q (by decide))
        subst eO
        subst eR
        have hf : ∀ b ∈ A3,FreeB b := fun b hb=>by
          obtain ⟨c,hc,hn⟩ := h5.mem b hb
          exact hn.free (hZ c hc)
        have hf2 : ∀ b ∈ A5,FreeB b := fun b hb=>by
          obtain ⟨c,hc,hn⟩ := h8.mem b hb
          exact hn.free (.inl (hY c hc))
        have hlen : A3.length ≤ 300 ∧ A5.length ≤ 300 := by simp at hAl; omega
        have hl5 := h8.len
        have hfew : ∀ b ∈ A3 ++ [E],fewB b := fun b hb=>by
          rcases List.mem_append.1 hb with hb | hb
          · exact (hf b hb).few
          · simp at hb; subst hb; exact hE.end.few
        have hmap := num_map h8 hY
        have hnf := num_flat hmap h5 hZ
        rw [hflat] at hnf
        have hEh : hasV E 77 98000 = false := by rw [hE.has]; rfl
        have hfm : ((A3 ++ [E]).flatMap fun b=>if hasV b 77 98000 = true then A5 else [b]) = (A3.flatMap fun b=>if hasV b 77 98000 = true then A5 else [b]) ++ [E] := by simp [hEh]
        have hl6 : (A3.flatMap fun b=>if hasV b 77 98000 = true then A5 else [b]).length = X.length := by rw [← hnf,List.length_map]
        have hex := expand_eq (M := A3 ++ [E]) (Y := A5) (S := [⟨1000,A5⟩]) (cl := fun b=>hasV b 77 98000) (proper_eq hf hE.end (by omega) (.inr ⟨A5,rfl,by omega,hf2⟩)) (.inr rfl) (fun b hb=>?_) (fun b hb=>call_no (hf2 b hb).few (by
          obtain ⟨c,hc,hn⟩ := h8.mem b hb
          rw [hn.has]; exact (hY c hc).has (by omega))) (by simp; omega) (by omega) (by rw [hfm,List.length_append,List.length_singleton]; omega) (fun b hb=>?_)
        · rw [hfm] at hex
          refine ⟨_,_,split_fold hf hE.end hf2 (by omega) (by omega),hex,?_⟩
          rw [bare_eq (by rw [List.length_append,List.length_singleton]; omega) (fun b hb=>?_),List.map_append,hnf,List.map_singleton,hE.bare]
          · rfl
          · rcases List.mem_append.1 hb with hb | hb
            · obtain ⟨c,hc1,hc2⟩ := List.mem_flatMap.1 hb
              split at hc2
              · exact (hf2 b hc2).few
              · simp at hc2; subst hc2; exact (hf _ hc1).few
            · simp at hb; subst hb; exact hE.end.few
        · rcases List.mem_append.1 hb with hb' | hb'
          · obtain ⟨c,hc,hn⟩ := h5.mem b hb'
            rcases hZ c hc with q | q
            · have : hasV b 77 98000 = false := by rw [hn.has]; exact q.has (by omega)
              rw [this]; exact call_no (hfew b hb) this
            · subst q
              have : hasV b 77 98000 = true := by rw [hn.has]; rfl
              rw [this]; exact call_yes hn
          · simp at hb'; subst hb'
            rw [hEh]; exact call_no hE.end.few hEh
        · rcases List.mem_append.1 hb with hb | hb
          · exact hfew b hb
          · exact (hf2 b hb).few
theorem in_i64 {n : Int} (h : (inInt .i64) n) : i64P n := by
 simp [inInt,Lit.wf,IntKind.min,IntKind.max,IntKind.signed,IntKind.bits] at h
 unfold i64P; omega
theorem in_pos {p : ApiPos} (h : inApiPos p) : okPos p := ⟨in_i64 h.1,in_i64 h.2.1,in_i64 h.2.2⟩
theorem in_move {m : ApiMove} (h : inApiMove m) : okMove m := by
 obtain ⟨a,⟨b1,b2,b3⟩,⟨c1,c2⟩,d⟩ := h
 exact ⟨in_i64 a,⟨in_i64 b1,in_i64 b2,in_i64 b3⟩,in_i64 c1,in_i64 c2,in_i64 d⟩
theorem r46_Few_tot {l : List ApiStage} (hl : l.length ≤ 9223372036854775807) (hm : ∀ s ∈ l,∀ m ∈ s.Moves,okMove m) : Tot (r46_Few l 30) (fun b=>b = true → okStages l) := by
 unfold r46_Few
 refine Tot.ite (fun q=>.ok (fun h=>by cases h)) (fun q=>?_)
 simp at q
 refine Tot.bindX (E := fun _=>∀ s ∈ l,s.Moves.length ≤ 30) (TotX.of (Tot.guard (okIdx_of hl) (Tot.range (fun i _=>∀ j,j < i → ∀ s,l[j]? = some s → s.Moves.length ≤ 30) _ (fun j q=>by omega) (fun i s _ hs hr=>?_) (fun _ hr=>.ok ?_)))) (fun _ h=>.ok (fun _=>⟨by omega,fun s hs=>⟨h s hs,hm s hs⟩⟩))
 ·refine TotX.ite (fun z=>.ret (fun h=>by cases h)) (fun z=>.go (fun j hj t ht=>?_))
  simp at z
  rcases Nat.lt_or_ge j i with y | y
  ·exact hr j y t ht
  ·obtain rfl : j = i := by omega
   rw [hs] at ht; injection ht with ht; rw [← ht]; omega
 ·intro s hs
  obtain ⟨j,hj⟩ := List.mem_iff_getElem?.1 hs
  exact hr j (getElem_lt hj) s hj
theorem postExpand_plain (w : L46Work) (o : R46Options) (hw : inL46Work w) (ho : inR46Options o) : l46_PostExpand w o = some true := by
 obtain ⟨hs,hp⟩ := hw
 obtain ⟨b,hb,hf⟩ := r46_Few_tot (l := w.Stages) hs.1 (fun s h m hm=>in_move ((hs.2 s h).2.2 m hm))
 unfold l46_PostExpand
 simp only [awake46,bindO_s,if_true,hb]
 cases b with
 | false=>rfl
 | true =>
  have hok := hf rfl
  have hpp := in_pos hp
  obtain ⟨c,d,e,f⟩ := o
  simp only [Bool.not_true,Bool.false_eq_true,if_false]
  rw [po_Blocks_eq hok hpp,bindO_s,po_Blocks_eq hok hpp,bindO_s]
  have hbf := blocks_few (w := c) (c := d) (n := e) (f := f) hok hpp
  have hb0 := blocks_few (w := c) (c := d) (n := 0) (f := 0) hok hpp
  by_cases h0 : (blocksV w.Stages w.Start c d e f).2 = 0
  ·rw [if_neg (by simp [h0])]
   have hov : optV c e f = 0 := by
    by_cases q : optV c e f = 0
    ·exact q
    ·unfold blocksV at h0; rw [if_pos q] at h0; exact h0
   have hpv : (plainV w.Stages w.Start c).2 = 0 := by
    by_cases q : (plainV w.Stages w.Start c).2 = 0
    ·exact q
    ·unfold blocksV at h0; rw [if_neg (by simpa using hov),if_pos q] at h0; exact h0
   obtain ⟨o1,o2,o3,o4⟩ := optV_ok hov
   have hov0 : optV c 0 0 = 0 := by
    unfold optV; rw [if_neg (by simp [o1])]
   obtain ⟨X,hX,hXl,hXs⟩ := base_std (c := d) hok hpp o1 hpv
   have eB : blocksV w.Stages w.Start c d 0 0 = (X ++ [endB],0) := by
    unfold blocksV
    rw [if_neg (by simpa using hov0),if_neg (by simpa using hpv)]
    simp only [if_true,bodyV,hX]
   have hA : NumL (blocksV w.Stages w.Start c d e f).1 (if f.toNat = 0 then X ++ [endB] else foldJ (X ++ [endB]) f.toNat) := by
    have ebody : bodyV w.Stages w.Start c d f = (if f.toNat = 0 then X ++ [endB] else foldJ (X ++ [endB]) f.toNat) := by
     unfold bodyV
     simp only [hX]
     by_cases hf0 : f = 0
     ·subst hf0; rfl
     ·rw [if_neg hf0,if_neg (by omega)]
    unfold blocksV
    rw [if_neg (by simpa using hov),if_neg (by simpa using hpv),ebody]
    by_cases he : e = 0
    ·simp only [he,if_true]; exact NumL.refl _
    ·simp only [he,if_false]; exact NumL.of _ _ _
   obtain ⟨p,l,r1,r2,r3⟩ := round hXs hXl (by omega) hA hbf.1
   rw [r1,bindO_s]
   simp only
   rw [r2,bindO_s]
   simp only [eB,beq_self_eq_true,if_true]
   rw [r3,bindO_s]
   rw [eB] at hb0
   rw [same_refl6 _ (by have := hb0.1; simp only at this; omega) (fun b hb=>by have := hb0.2 b hb; omega)]
   rfl
  ·rw [if_pos (by simpa using h0)]
   have : (blocksV w.Stages w.Start c d e f).1 = [] := by
    unfold blocksV at h0 ⊢
    by_cases q : optV c e f = 0
    ·rw [if_neg (by simpa using q)] at h0 ⊢
     by_cases q2 : (plainV w.Stages w.Start c).2 = 0
     ·rw [if_neg (by simpa using q2)] at h0; exact absurd rfl h0
     ·rw [if_pos q2]
    ·rw [if_pos q]
   rw [this]; rfl
end Go.Proofs.YtjgngikiglhleaaGreatDoor
