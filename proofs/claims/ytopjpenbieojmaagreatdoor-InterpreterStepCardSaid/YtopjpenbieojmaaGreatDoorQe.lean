import Derived.Test.YtopjpenbieojmaaGreatDoorQx
import Derived.Test.YtopjpenbieojmaaGreatDoorMH
namespace Go.Proofs.YtopjpenbieojmaaGreatDoor
open Go.RowKit
theorem r47_InRange_eq (p : ApiPos) : r47_InRange p = some (decide (inR p)) := by
 unfold r47_InRange r47_far
 simp only [bindO_s]
 by_cases h1 : (decide (p.X > 10000000) || decide (p.X < -10000000)) = true
 ·have : ¬ inR p := by unfold inR; simp at h1; omega
  simp [h1,this]
 by_cases h2 : (decide (p.Y > 10000000) || decide (p.Y < -10000000)) = true
 ·have : ¬ inR p := by unfold inR; simp at h2; omega
  simp [h1,h2,this]
 by_cases h3 : (decide (p.Z > 10000000) || decide (p.Z < -10000000)) = true
 ·have : ¬ inR p := by unfold inR; simp at h3; omega
  simp [h1,h2,h3,this]
 ·have : inR p := by unfold inR; simp at h1 h2 h3; omega
  simp [h1,h2,h3,this]
def fewL (l : List ApiBlock) : Prop := l.length ≤ 40 ∧ ∀ b ∈ l,b.Words.length ≤ 20 ∧ b.Comment.length ≤ 120
theorem r41_Few_tot (l : List ApiBlock) (hl : l.length ≤ 9223372036854775807) : Tot (r41_Few l 40) (fun b=>b = true → fewL l) := by
 unfold r41_Few
 refine Tot.ite (fun _=>.ok (by simp)) (fun h=>?_)
 simp at h
 refine Tot.bindX (E := fun _=>∀ b ∈ l,b.Words.length ≤ 20 ∧ b.Comment.length ≤ 120) (TotX.guard (okIdx_of hl) (TotX.of (Tot.range (fun i _=>∀ b ∈ l.take i,b.Words.length ≤ 20 ∧ b.Comment.length ≤ 120) _ (by simp) (fun i x v hx hr=>TotX.ite (fun _=>.ret (by simp)) (fun h2=>.go ?_)) (fun v hv=>.ok (by simpa using hv))))) (fun _ hw=>.ok fun _=>⟨by omega,hw⟩)
 intro b hb
 rw [List.take_add_one,hx,List.mem_append] at hb
 rcases hb with q | q
 ·exact hr b q
 ·simp at q; subst q
  simp at h2
  omega
theorem r47_Few_tot (l : List ApiBlock) (hl : l.length ≤ 9223372036854775807) : Tot (r47_Few l 40) (fun b=>b = true → fewL l) := by
 unfold r47_Few
 refine Tot.bind (r41_Few_tot l hl) fun b hb=>Tot.ite (fun _=>.ok (by simp)) (fun h=>?_)
 have hf := hb (by simpa using h)
 refine Tot.bindX (E := fun _=>True) (TotX.guard (okIdx_of hl) (TotX.of (Tot.range (fun _ _=>True) _ trivial (fun i x v hx _=>?_) (fun v _=>.ok trivial)))) (fun _ _=>.ok fun _=>hf)
 have hx20 := (hf.2 x (List.mem_of_getElem? hx)).1
 refine TotX.bindX (E := fun _=>True) (TotX.of (Tot.loop (fun m v=>0 ≤ v ∧ v ≤ (x.Words.length : Int) ∧ m = ((x.Words.length : Int) - v).toNat) _ x.Words.length (fuel_gt (by omega)) ⟨by simp,by simp,by simp⟩ (fun m v hr=>?_))) (fun _ _=>.go trivial)
 refine TotX.ite (fun h=>?_) (fun _=>.ret trivial)
 simp at h
 obtain ⟨y,hy,_⟩ := gt_ok' (l := x.Words) (i := v) hr.1 h
 rw [hy,bindO_s]
 refine TotX.ite (fun _=>.ret (by simp)) (fun _=>.go ?_)
 rw [wrap_i64 (by omega) (by omega)]
 exact ⟨_,by omega,by omega,by omega,rfl⟩
theorem l47_few_tot (l : List ApiBlock) (s : L47Setting) (hl : l.length ≤ 9223372036854775807) : Tot (l47_few l s) (fun b=>b = true → fewL l ∧ s.Table.Lengths.length ≤ 20) := by
 unfold l47_few
 refine Tot.bind (E := fun b=>b = true → fewL l ∧ s.Table.Lengths.length ≤ 20) (Tot.bind (r47_Few_tot l hl) fun b hb=>Tot.ite (fun h=>.ok fun h2=>⟨hb h,by simp at h2; omega⟩) (fun _=>.ok (by simp))) fun b hb=>.ok hb
def theirsW (t : R45Table) : TableTable := ⟨t.Work,t.Lengths.map fun l=>⟨l.Number,l.Length⟩⟩
theorem map_fold {α β : Type} (g : α → β) (l : List α) : ∀ o : List β,l.foldl (fun o x=>o ++ [g x]) o = o ++ l.map g := by
 induction l with
 | nil=>intro o; simp
 | cons x l ih=>intro o; rw [List.foldl_cons,ih]; simp
theorem l47_theirs_eq (t : R45Table) (hl : t.Lengths.length ≤ 1000) : l47_theirs t = some (theirsW t) := by
 unfold l47_theirs
 rw [okIdx_of (by omega),guardO_t,range_fold (g := fun (o : List TableLength) (x : R45Length)=>o ++ [TableLength.mk x.Number x.Length]) (R := fun i v=>v.length ≤ i) (L := t.Lengths) ?_ t.Lengths 0 [] rfl (by simp)]
 ·rw [bindO_s,map_fold]; rfl
 ·intro i x v hx hr
  have hlt := getElem_lt hx
  rw [okLen_of (by omega),guardO_t]
  exact ⟨rfl,by simp; omega⟩
def motEq (a b : ApiMotion) : Bool := (a.From.X == b.From.X) && ((a.From.Y == b.From.Y) && ((a.From.Z == b.From.Z) && ((a.To.X == b.To.X) && ((a.To.Y == b.To.Y) && ((a.To.Z == b.To.Z) && ((a.Rate == b.Rate) && ((a.Tool == b.Tool) && (a.Block == b.Block))))))))
theorem same_self (l : List ApiMotion) (hl : l.length ≤ 9223372036854775807) : r47_Same l l = some true := by
  unfold r47_Same
  simp only [bne_self_eq_false,Bool.false_eq_true,if_false]
  obtain ⟨e, h1, h2⟩ := Tot.bindX (E := fun _ => True) (F := fun b => b = true) (f := fun (_ : Unit) => some true) (TotX.guard (b := okIdx l) (okIdx_of hl) (TotX.of (Tot.range (f := fun (i141 : Nat) (e143 : ApiMotion) (_ : Unit) =>
          bindO (gt l (i141 : Int)) fun (e145 : ApiMotion) =>
          if (!(motEq e143 e145)) = true then
            some (.ret (.ret false))
          else
            some (.go ())) (d := fun _=>some (.go ())) (fun _ _=>True) _ trivial (fun i x v hx _=>by
    rw [gt_k hx,bindO_s]
    have : motEq x x = true := by simp [motEq]
    rw [this]
    exact .go trivial) (fun v _=>.ok trivial)))) (fun _ _=>.ok rfl)
  rw [h2] at h1
  exact h1
theorem r45_out_eq (p : ApiPos) : r45_out p = some (!decide (inR p)) := by
 unfold r45_out r45_far
 simp only [bindO_s]
 by_cases h1 : (decide (p.X > 10000000) || decide (p.X < -10000000)) = true
 ·have : ¬ inR p := by unfold inR; simp at h1; omega
  simp [h1,this]
 by_cases h2 : (decide (p.Y > 10000000) || decide (p.Y < -10000000)) = true
 ·have : ¬ inR p := by unfold inR; simp at h2; omega
  simp [h1,h2,this]
 by_cases h3 : (decide (p.Z > 10000000) || decide (p.Z < -10000000)) = true
 ·have : ¬ inR p := by unfold inR; simp at h3; omega
  simp [h1,h2,h3,this]
 ·have : inR p := by unfold inR; simp at h1 h2 h3; omega
  simp [h1,h2,h3,this]
theorem valid_same (t : R45Table) (hl : t.Lengths.length ≤ 1000) : tb_Valid (theirsW t) = r45_Valid t := by
 unfold tb_Valid r45_Valid theirsW
 simp only [tb_far_eq,r45_out_eq,bindO_s]
 by_cases h0 : inR t.Work.e0
 ·by_cases h1 : inR t.Work.e1
  ·by_cases h2 : inR t.Work.e2
   ·by_cases h3 : inR t.Work.e3
    ·by_cases h4 : inR t.Work.e4
     ·by_cases h5 : inR t.Work.e5
      ·simp only [h0,h1,h2,h3,h4,h5,decide_true,Bool.not_true,Bool.false_eq_true,if_false,bindX_g,bindO_s]
       rw [okIdx_of (l := t.Lengths) (by omega),okIdx_of (by simp; omega),guardO_t,guardO_t]
       simp only [show decide ((-1 : Int) ≥ 0) = false by decide,Bool.false_eq_true,if_false]
       congr 1
       have key : ∀ (f : Nat → TableLength → Unit → Option (Ex (Ex Int Unit) Unit)) (g : Nat → R45Length → Unit → Option (Ex (Ex Int Unit) Unit)),(∀ i x,t.Lengths[i]? = some x → f i ⟨x.Number,x.Length⟩ () = g i x ()) → (∀ i x,t.Lengths[i]? = some x → ∃ e,g i x () = some e) →
         ∀ (l : List R45Length) (i : Nat),t.Lengths.drop i = l → rangeX f (fun _=>some (.go ())) (l.map fun l=>⟨l.Number,l.Length⟩) i () = rangeX g (fun _=>some (.go ())) l i () := by
        intro f g hfg hg l
        induction l with
        | nil=>intro i _; rfl
        | cons x l ih =>
         intro i hd
         have hx : t.Lengths[i]? = some x := by
          have : (t.Lengths.drop i)[0]? = some x := by rw [hd]; rfl
          simpa using this
         have hrest : t.Lengths.drop (i + 1) = l := by rw [← List.drop_drop,hd]; rfl
         simp only [List.map_cons,rangeX,hfg i x hx]
         obtain ⟨e,he⟩ := hg i x hx
         rw [he]
         cases e with
         | ret e=>rfl
         | go v=>exact ih (i + 1) hrest
       refine key _ _ ?_ ?_ t.Lengths 0 rfl
       ·intro i x hx
        have hlt := getElem_lt hx
        change bindO (bindO (tb_entry ⟨x.Number,x.Length⟩) _) _ = _
        unfold tb_entry r45_entry
        simp only [bindO_s]
        by_cases hi : i = 0
        ·subst hi; simp
        ·rw [wrap_i64 (by omega) (by omega),show ((i : Int) - 1) = ((i - 1 : Nat) : Int) by omega]
         obtain ⟨y,hy⟩ : ∃ y,t.Lengths[i - 1]? = some y := ⟨_,List.getElem?_eq_getElem (by omega)⟩
         rw [gt_k hy,gt_k (x := ⟨y.Number,y.Length⟩) (by rw [List.getElem?_map,hy]; rfl)]
         simp only [bindO_s,ge_iff_le]
       ·intro i x hx
        have hlt := getElem_lt hx
        unfold r45_entry
        simp only [bindO_s]
        by_cases hi : i = 0
        ·subst hi
         refine Exists.imp (fun _ h=>h) ?_
         have := Tot.bind (m := if (decide (x.Number ≥ 1) && (decide (x.Number ≤ 999) && (decide (x.Length ≥ 0) && decide (x.Length ≤ 10000000)))) = true then (if decide (((0 : Nat) : Int) > 0) = true then bindO (gt t.Lengths (IntKind.i64.wrap (((0 : Nat) : Int) - 1))) fun (e197 : R45Length)=>some (decide (x.Number ≤ e197.Number)) else some false) else some true) (E := fun _=>True) (F := fun _=>True) (f := fun v198 : Bool=>if v198 = true then (some (.ret (.ret 1)) : Option (Ex (Ex Int Unit) Unit)) else some (.go ())) (Tot.ite (fun _=>.ok trivial) (fun _=>.ok trivial)) (fun b _=>Tot.ite (fun _=>.ok trivial) (fun _=>.ok trivial))
         obtain ⟨e,he,_⟩ := this
         exact ⟨e,he⟩
        ·rw [wrap_i64 (by omega) (by omega),show ((i : Int) - 1) = ((i - 1 : Nat) : Int) by omega]
         obtain ⟨y,hy⟩ : ∃ y,t.Lengths[i - 1]? = some y := ⟨_,List.getElem?_eq_getElem (by omega)⟩
         rw [gt_k hy]
         simp only [bindO_s]
         have := Tot.bind (m := if (decide (x.Number ≥ 1) && (decide (x.Number ≤ 999) && (decide (x.Length ≥ 0) && decide (x.Length ≤ 10000000)))) = true then (if decide ((i : Int) > 0) = true then some (decide (x.Number ≤ y.Number)) else some false) else some true) (E := fun _=>True) (F := fun _=>True) (f := fun v198 : Bool=>if v198 = true then (some (.ret (.ret 1)) : Option (Ex (Ex Int Unit) Unit)) else some (.go ())) (Tot.ite (fun _=>Tot.ite (fun _=>.ok trivial) (fun _=>.ok trivial)) (fun _=>.ok trivial)) (fun b _=>Tot.ite (fun _=>.ok trivial) (fun _=>.ok trivial))
         obtain ⟨e,he,_⟩ := this
         exact ⟨e,he⟩
      ·simp [h0,h1,h2,h3,h4,h5]
     ·simp [h0,h1,h2,h3,h4]
    ·simp [h0,h1,h2,h3]
   ·simp [h0,h1,h2]
  ·simp [h0,h1]
 ·simp [h0]
theorem r45_Valid_tot (t : R45Table) (hl : t.Lengths.length ≤ 1000) : Tot (r45_Valid t) (fun e=>e = 0 ∨ e = 1) := by
 rw [← valid_same t hl]
 exact (tb_Valid_tot (theirsW t) (by simp [theirsW]; omega)).mono fun e h=>h.1
end Go.Proofs.YtopjpenbieojmaaGreatDoor
