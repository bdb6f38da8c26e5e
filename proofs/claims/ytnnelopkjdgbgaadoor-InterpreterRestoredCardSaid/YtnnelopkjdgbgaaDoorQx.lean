/-
  Qa, Qb, Qc, Qd in one text.
-/
import Derived.Test.YtnnelopkjdgbgaaDoorNa
import Derived.Test.YtnnelopkjdgbgaaDoorPz
namespace Go.Proofs.YtnnelopkjdgbgaaDoor
open Go.RowKit
def inR (p : ApiPos) : Prop := (-10000000 ≤ p.X ∧ p.X ≤ 10000000) ∧ (-10000000 ≤ p.Y ∧ p.Y ≤ 10000000) ∧ (-10000000 ≤ p.Z ∧ p.Z ≤ 10000000)
instance (p : ApiPos) : Decidable (inR p) := by unfold inR; infer_instance
theorem tb_far_eq (p : ApiPos) : tb_far p = some (!decide (inR p)) := by
 unfold tb_far mmI
 by_cases h : inR p
 ·rw [decide_eq_true h]
  unfold inR at h
  simp only [Bool.not_true,Option.some.injEq,Bool.or_eq_false_iff,decide_eq_false_iff_not]
  constructor <;> (repeat' split) <;> omega
 ·rw [decide_eq_false h]
  unfold inR at h
  simp only [Bool.not_false,Option.some.injEq,Bool.or_eq_true,decide_eq_true_eq]
  repeat' split
  all_goals omega
theorem inp_inside_eq (p : ApiPos) : inp_inside p = some (decide (inR p)) := by
 have h : ∀ n,inp_inside_c1 n = some (decide (n < -10000000) || decide (n > 10000000)) := fun n=>rfl
 unfold inp_inside
 simp only [h,bindO_s]
 by_cases h1 : (decide (p.X < -10000000) || decide (p.X > 10000000)) = true
 ·have : ¬ inR p := by unfold inR; simp at h1; omega
  simp [h1,this]
 by_cases h2 : (decide (p.Y < -10000000) || decide (p.Y > 10000000)) = true
 ·have : ¬ inR p := by unfold inR; simp at h2; omega
  simp [h1,h2,this]
 by_cases h3 : (decide (p.Z < -10000000) || decide (p.Z > 10000000)) = true
 ·have : ¬ inR p := by unfold inR; simp at h3; omega
  simp [h1,h2,h3,this]
 ·have : inR p := by unfold inR; simp at h1 h2 h3; omega
  simp [h1,h2,h3,this]
def findW (b : ApiBlock) (c : Int) : Int × Bool := match b.Words.find? (fun w=>w.Letter == c) with | some w=>(w.Value,true) | none=>(0,false)
theorem bk_Find_eq (b : ApiBlock) (c : Int) (hl : b.Words.length ≤ 1000) : bk_Find b c = some (findW b c) := by
 unfold bk_Find findW
 rw [okIdx_of (by omega),guardO_t,range_find (p := fun w : ApiWord=>w.Letter == c) (e := fun w=>(w.Value,true)) b.Words 0 (fun i x=>rfl)]
 cases b.Words.find? (fun w=>w.Letter == c) <;> rfl
def hasW (b : ApiBlock) (l : List UInt8) : Bool := l.any fun c=>(findW b (c.toNat : Int)).2
theorem inp_has_eq (b : ApiBlock) (l : List UInt8) (hl : b.Words.length ≤ 1000) (h2 : l.length ≤ 1000) : inp_has b l = some (hasW b l) := by
 unfold inp_has hasW
 rw [okIdx_of (by omega),guardO_t,range_any (p := fun c : UInt8=>(findW b (c.toNat : Int)).2) (r := true) l 0 (fun i x=>by rw [bk_Find_eq b _ hl,bindO_s])]
 cases l.any fun c=>(findW b (c.toNat : Int)).2 <;> rfl
theorem inp_value_eq (b : ApiBlock) (c : Int) (hl : b.Words.length ≤ 1000) : inp_value b c = some (findW b c).1 := by
 unfold inp_value
 rw [bk_Find_eq b c hl,bindO_s]
theorem bk_Valid_tot (b : ApiBlock) (hl : b.Words.length ≤ 1000) (hc : b.Comment.length ≤ 1000) : Tot (bk_Valid b) (fun e=>(e = 0 ∨ e = 1) ∧ (e = 0 → ∀ w ∈ b.Words,-1000000000000 ≤ w.Value ∧ w.Value ≤ 1000000000000)) := by
 unfold bk_Valid
 refine Tot.ite (fun _=>.ok ⟨.inr rfl,by simp⟩) (fun _=>?_)
 refine Tot.bindX (E := fun _=>∀ w ∈ b.Words,-1000000000000 ≤ w.Value ∧ w.Value ≤ 1000000000000) (TotX.guard (okIdx_of (by omega)) (TotX.of (Tot.range (fun i _=>∀ w ∈ b.Words.take i,-1000000000000 ≤ w.Value ∧ w.Value ≤ 1000000000000) _ (by simp) (fun i x v hx hr=>?_) (fun v hr=>.ok (by simpa using hr))))) (fun _ hw=>?_)
 ·refine TotX.ite (fun _=>.ret ⟨.inr rfl,by simp⟩) (fun h=>.go ?_)
  intro w hw
  rw [List.take_add_one,hx,List.mem_append] at hw
  rcases hw with hw | hw
  ·exact hr w hw
  ·simp at hw; subst hw
   simp at h
   omega
 ·refine Tot.bindX (E := fun _=>True) (TotX.guard (okIdx_of (by simp [bytesI]; omega)) (TotX.of (Tot.range (fun _ _=>True) _ trivial (fun i x v _ _=>?_) (fun v _=>.ok trivial)))) (fun _ _=>.ok ⟨.inl rfl,fun _=>hw⟩)
  refine TotX.bind (E := fun _=>True) (.ok trivial) fun y _=>TotX.ite (fun _=>.ret ⟨.inr rfl,by simp⟩) (fun _=>.go trivial)
theorem index_tot (l : List Int) (c : Int) (hl : l.length ≤ 1000) : Tot (slices_Index_int64_int64 l c) (fun _=>True) := by
 unfold slices_Index_int64_int64
 exact Tot.bindX (E := fun _=>True) (TotX.guard (okIdx_of (by omega)) (TotX.of (Tot.range (fun _ _=>True) _ trivial (fun i x v _ _=>TotX.ite (fun _=>.ret trivial) (fun _=>.go trivial)) (fun v _=>.ok trivial)))) (fun _ _=>.ok trivial)
theorem contains_tot (l : List Int) (c : Int) (hl : l.length ≤ 1000) : Tot (slices_Contains_int64_int64 l c) (fun _=>True) := by
 unfold slices_Contains_int64_int64
 exact Tot.bind (index_tot l c hl) fun _ _=>.ok trivial
theorem inp_known_tot (b : ApiBlock) (hl : b.Words.length ≤ 1000) : Tot (inp_known b) (fun _=>True) := by
 unfold inp_known
 refine Tot.bindX (E := fun _=>True) (TotX.guard (okIdx_of (by omega)) (TotX.of (Tot.range (fun _ _=>True) _ trivial (fun i x v _ _=>?_) (fun v _=>.ok trivial)))) (fun _ _=>.ok trivial)
 refine TotX.bindX (E := fun _=>True) (TotX.of (Tot.bind (E := fun _=>True) ?_ fun y _=>?_)) (fun _ _=>.go trivial)
 ·repeat' (first | exact .ok trivial | refine Tot.ite (fun _=>?_) (fun _=>?_))
 ·refine Tot.ite (fun _=>.ok trivial) (fun _=>Tot.ite (fun _=>?_) (fun _=>Tot.ite (fun _=>Tot.ite (fun _=>.ok trivial) (fun _=>.ok trivial)) (fun _=>.ok trivial)))
  exact Tot.bind (contains_tot _ _ (by decide)) fun y _=>Tot.ite (fun _=>.ok trivial) (fun _=>.ok trivial)
theorem tb_Valid_tot (t : TableTable) (hl : t.Lengths.length ≤ 1000) : Tot (tb_Valid t) (fun e=>(e = 0 ∨ e = 1) ∧ (e = 0 → (inR t.Work.e0 ∧ inR t.Work.e1 ∧ inR t.Work.e2 ∧ inR t.Work.e3 ∧ inR t.Work.e4 ∧ inR t.Work.e5) ∧ ∀ x ∈ t.Lengths,0 ≤ x.Length ∧ x.Length ≤ 10000000)) := by
 unfold tb_Valid
 simp only [tb_far_eq,bindO_s]
 refine Tot.bind (E := fun b=>b = true ∨ (inR t.Work.e0 ∧ inR t.Work.e1 ∧ inR t.Work.e2 ∧ inR t.Work.e3 ∧ inR t.Work.e4 ∧ inR t.Work.e5)) (Tot.bind (E := fun i : Int=>i ≥ 0 ∨ (inR t.Work.e0 ∧ inR t.Work.e1 ∧ inR t.Work.e2 ∧ inR t.Work.e3 ∧ inR t.Work.e4 ∧ inR t.Work.e5)) (Tot.bindX (E := fun _=>inR t.Work.e0 ∧ inR t.Work.e1 ∧ inR t.Work.e2 ∧ inR t.Work.e3 ∧ inR t.Work.e4 ∧ inR t.Work.e5) ?_ (fun _ h=>.ok (.inr h))) (fun i hi=>.ok (hi.elim (fun h=>.inl (by simpa using h)) .inr))) (fun b hb=>Tot.ite (fun _=>.ok ⟨.inr rfl,by simp⟩) (fun h=>?_))
 ·by_cases h0 : inR t.Work.e0
  ·by_cases h1 : inR t.Work.e1
   ·by_cases h2 : inR t.Work.e2
    ·by_cases h3 : inR t.Work.e3
     ·by_cases h4 : inR t.Work.e4
      ·by_cases h5 : inR t.Work.e5
       ·simp only [h0,h1,h2,h3,h4,h5,decide_true,Bool.not_true,Bool.false_eq_true,if_false]; exact .go ⟨trivial,trivial,trivial,trivial,trivial,trivial⟩
       ·simp [h0,h1,h2,h3,h4,h5]; exact .ret (by simp)
      ·simp [h0,h1,h2,h3,h4]; exact .ret (by simp)
     ·simp [h0,h1,h2,h3]; exact .ret (by simp)
    ·simp [h0,h1,h2]; exact .ret (by simp)
   ·simp [h0,h1]; exact .ret (by simp)
  ·simp [h0]; exact .ret (by simp)
 ·have hw := hb.resolve_left (by simp [h])
  refine Tot.bindX (E := fun _=>∀ x ∈ t.Lengths,0 ≤ x.Length ∧ x.Length ≤ 10000000) (TotX.guard (okIdx_of (by omega)) (TotX.of (Tot.range (fun i _=>∀ x ∈ t.Lengths.take i,0 ≤ x.Length ∧ x.Length ≤ 10000000) _ (by simp) (fun i x v hx hr=>?_) (fun v hr=>.ok (by simpa using hr))))) (fun _ h=>.ok ⟨.inl rfl,fun _=>⟨hw,h⟩⟩)
  refine TotX.bind (E := fun b=>b = true ∨ (0 ≤ x.Length ∧ x.Length ≤ 10000000)) ?_ (fun b hb=>TotX.ite (fun _=>.ret ⟨.inr rfl,by simp⟩) (fun h=>.go ?_))
  ·unfold tb_entry
   rw [bindO_s]
   refine Tot.ite (fun he=>?_) (fun _=>.ok (.inl rfl))
   have he' : 0 ≤ x.Length ∧ x.Length ≤ 10000000 := by simp at he; omega
   refine Tot.ite (fun hi=>?_) (fun _=>.ok (.inr he'))
   have hlt := getElem_lt hx
   simp at hi
   rw [wrap_i64 (by omega) (by omega)]
   obtain ⟨y,hy,_⟩ := gt_ok' (l := t.Lengths) (i := (i : Int) - 1) (by omega) (by omega)
   rw [hy,bindO_s]
   exact .ok (.inr he')
  ·intro y hy
   rw [List.take_add_one,hx,List.mem_append] at hy
   rcases hy with hy | hy
   ·exact hr y hy
   ·simp at hy; subst hy
    exact hb.resolve_left (by simp [h])
theorem mid_eq {lo hi : Int} (h0 : 0 ≤ lo) (h1 : lo ≤ 4000000000000000000) (h2 : 0 ≤ hi) (h3 : hi ≤ 4000000000000000000) : IntKind.i64.wrap (shrI .u64 (IntKind.u64.wrap (IntKind.i64.wrap (lo + hi))) 1) = (lo + hi) / 2 := by
 rw [wrap_i64 (n := lo + hi) (by omega) (by omega)]
 have : IntKind.u64.wrap (lo + hi) = lo + hi := by unfold IntKind.wrap; simp [IntKind.signed,IntKind.bits]; omega
 rw [this]
 have : shrI .u64 (lo + hi) 1 = (lo + hi) / 2 := by
  unfold shrI
  simp [IntKind.bits]
  rw [Int.fdiv_eq_ediv_of_nonneg _ (by decide)]
 rw [this,wrap_i64 (by omega) (by omega)]
theorem compare_eq (a b : Int) : cmp_Compare_int64 a b = some (if a < b then -1 else if a > b then 1 else 0) := by
 unfold cmp_Compare_int64 cmp_isNaN_int64
 simp only [bne_self_eq_false,bindO_s,Bool.false_eq_true,if_false]
 by_cases h : a < b
 ·simp [h]
 ·by_cases h2 : a > b <;> simp [h,h2]
theorem tb_find_tot (t : TableTable) (n : Int) (hl : t.Lengths.length ≤ 1000) : Tot (tb_find t n) (fun r=>0 ≤ r.1 ∧ (r.2 = true → r.1 < (t.Lengths.length : Int))) := by
 unfold tb_find
 refine Tot.bind (E := fun r=>0 ≤ r.1 ∧ (r.2 = true → r.1 < (t.Lengths.length : Int))) (Tot.bind (E := fun v : Int=>0 ≤ v) ?_ (fun v hv=>?_)) (fun r hr=>.ok hr)
 ·refine Tot.loop (fun m v=>0 ≤ v.1 ∧ v.1 ≤ v.2 ∧ v.2 ≤ (t.Lengths.length : Int) ∧ m = (v.2 - v.1).toNat) _ t.Lengths.length (fuel_gt (by omega)) ⟨by simp,by simp,by simp,by simp⟩ (fun m v hr=>?_)
  obtain ⟨a,b,c,d⟩ := hr
  refine TotX.ite (fun h=>?_) (fun _=>.ret a)
  simp at h
  rw [mid_eq a (by omega) (by omega) (by omega)]
  obtain ⟨y,hy,_⟩ := gt_ok' (l := t.Lengths) (i := (v.1 + v.2) / 2) (by omega) (by omega)
  rw [hy,bindO_s]
  unfold tb_find_c1
  rw [compare_eq,bindO_s,bindO_s]
  refine TotX.ite (fun _=>.go ?_) (fun _=>.go ?_)
  ·rw [wrap_i64 (by omega) (by omega)]
   exact ⟨_,by omega,by simp; omega,by simp; omega,c,rfl⟩
  ·exact ⟨_,by omega,a,by simp; omega,by simp; omega,rfl⟩
 ·refine Tot.bind (E := fun b=>b = true → v < (t.Lengths.length : Int)) (Tot.ite (fun h=>?_) (fun _=>.ok (by simp))) (fun b hb=>.ok ⟨hv,hb⟩)
  simp at h
  obtain ⟨y,hy,_⟩ := gt_ok' (l := t.Lengths) (i := v) hv h
  rw [hy,bindO_s]
  unfold tb_find_c1
  rw [compare_eq,bindO_s,bindO_s]
  exact .ok fun _=>h
theorem tb_length_tot (t : TableTable) (n : Int) (hl : t.Lengths.length ≤ 1000) (hv : ∀ x ∈ t.Lengths,0 ≤ x.Length ∧ x.Length ≤ 10000000) : Tot (tb_length t n) (fun r=>0 ≤ r.1 ∧ r.1 ≤ 10000000) := by
 unfold tb_length
 refine Tot.ite (fun _=>.ok (by decide)) (fun _=>Tot.bind (tb_find_tot ⟨t.Work,t.Lengths⟩ n hl) fun r hr=>Tot.ite (fun _=>.ok (by decide)) (fun h=>?_))
 simp at h
 obtain ⟨y,hy,hq⟩ := gt_ok' (l := t.Lengths) (i := r.1) hr.1 (hr.2 h)
 rw [hy,bindO_s]
 exact .ok (hv y (List.mem_of_getElem? hq))
theorem tb_slot_tot (c : Int) : Tot (tb_slot c) (fun r=>r.2 = 0 → 0 ≤ r.1 ∧ r.1 < 6) := by
 unfold tb_slot
 refine Tot.ite (fun _=>.ok (by simp)) (fun h=>.ok fun _=>?_)
 simp at h
 have : Int.tdiv c 1000 = c / 1000 := Int.tdiv_eq_ediv_of_nonneg (by omega)
 simp only [this]
 rw [wrap_i64 (n := c / 1000) (by omega) (by omega),wrap_i64 (by omega) (by omega)]
 omega
theorem tb_offset_tot (t : TableTable) (c n : Int) (hl : t.Lengths.length ≤ 1000) : Tot (tb_offset t c n) (fun r=>r.2 = 0 → (-10000000 ≤ r.1.X ∧ r.1.X ≤ 10000000) ∧ (-10000000 ≤ r.1.Y ∧ r.1.Y ≤ 10000000) ∧ (-10000000 ≤ r.1.Z ∧ r.1.Z ≤ 20000000)) := by
 unfold tb_offset
 refine Tot.bind (tb_Valid_tot t hl) fun e he=>Tot.ite (fun h=>.ok fun h2=>?_) (fun h=>?_)
 ·simp at h h2; exact absurd h2 h
 ·simp at h
  obtain ⟨hw,hle⟩ := he.2 h
  refine Tot.bind (tb_slot_tot c) fun r hr=>Tot.bind (tb_length_tot ⟨t.Work,t.Lengths⟩ n hl hle) fun q hq=>Tot.ite (fun _=>.ok (by simp)) (fun h2=>?_)
  simp at h2
  have h3 := hr h2.1
  refine Tot.bind (E := fun p=>inR p) (Tot.guard (by simp; omega) ?_) (fun p hp=>.ok fun _=>?_)
  ·repeat' (first | exact .ok hw.1 | exact .ok hw.2.1 | exact .ok hw.2.2.1 | exact .ok hw.2.2.2.1 | exact .ok hw.2.2.2.2.1 | exact .ok hw.2.2.2.2.2 | refine Tot.ite (fun _=>?_) (fun _=>?_))
  ·unfold inR at hp
   simp only
   rw [wrap_i64 (by omega) (by omega)]
   omega
theorem tb_moved_tot (p by_ : ApiPos) (s : Int) : Tot (tb_moved p by_ s) (fun r=>r.2 = 0 → inR r.1) := by
 unfold tb_moved
 simp only [tb_far_eq,bindO_s]
 refine Tot.ite (fun _=>.ok (by simp)) (fun _=>Tot.ite (fun _=>.ok (by simp)) (fun h=>.ok fun _=>?_))
 simpa using h
theorem tb_Machine_tot (t : TableTable) (c n : Int) (p : ApiPos) (hl : t.Lengths.length ≤ 1000) : Tot (tb_Machine t c n p) (fun r=>r.2 = 0 → inR r.1) := by
 unfold tb_Machine
 refine Tot.bind (tb_offset_tot t c n hl) fun e _=>Tot.ite (fun h=>.ok fun h2=>?_) (fun _=>Tot.bind (tb_moved_tot _ _ _) fun r hr=>.ok hr)
 simp at h h2; exact absurd h2 h
theorem tb_Work_tot (t : TableTable) (c n : Int) (p : ApiPos) (hl : t.Lengths.length ≤ 1000) : Tot (tb_Work t c n p) (fun r=>r.2 = 0 → inR r.1) := by
 unfold tb_Work
 refine Tot.bind (tb_offset_tot ⟨t.Work,t.Lengths⟩ c n hl) fun e _=>Tot.ite (fun h=>.ok fun h2=>?_) (fun _=>Tot.bind (tb_moved_tot _ _ _) fun r hr=>.ok hr)
 simp at h h2; exact absurd h2 h
theorem inp_checked_tot (t : TableTable) (p : ApiPos) (hl : t.Lengths.length ≤ 1000) : Tot (inp_checked t p) (fun e=>e = 0 → inR p) := by
 unfold inp_checked
 refine Tot.bind (tb_Valid_tot ⟨t.Work,t.Lengths⟩ hl) fun e he=>Tot.ite (fun _=>.ok (by simp)) (fun _=>?_)
 rw [inp_inside_eq,bindO_s]
 exact Tot.ite (fun _=>.ok (by simp)) (fun h=>.ok fun _=>by simpa using h)
end Go.Proofs.YtnnelopkjdgbgaaDoor
namespace Go.Proofs.YtnnelopkjdgbgaaDoor
open Go.RowKit
theorem ip_apart_tot (a b : Int) : Tot (ip_apart a b) (fun _=>True) := by
 unfold ip_apart
 exact Tot.bind (E := fun _=>True) (Tot.ite (fun _=>.ok trivial) (fun _=>.ok trivial)) fun _ _=>.ok trivial
theorem ip_point_tot (p : ApiPos) (c : ApiGrid2) : Tot (ip_point p c) (fun r=>0 ≤ r.1 ∧ r.1 ≤ 3) := by
 unfold ip_point
 refine Tot.ite (fun _=>Tot.bind (ip_apart_tot _ _) fun _ _=>.ok (by simp)) (fun _=>Tot.ite (fun _=>Tot.bind (ip_apart_tot _ _) fun _ _=>.ok (by simp)) (fun _=>Tot.ite (fun _=>Tot.bind (ip_apart_tot _ _) fun _ _=>.ok (by simp)) (fun _=>Tot.ite (fun _=>Tot.bind (ip_apart_tot _ _) fun _ _=>.ok (by simp)) (fun _=>.ok (by simp)))))
theorem ip_right_tot (p : ApiPos) (m : ApiMove) : Tot (ip_right p m) (fun _=>True) := by
 unfold ip_right
 refine Tot.ite (fun _=>.ok trivial) (fun _=>Tot.ite (fun _=>.ok trivial) (fun _=>Tot.bind (ip_point_tot _ _) fun a _=>Tot.bind (ip_point_tot _ _) fun b _=>Tot.bind (E := fun _=>True) (Tot.bind (E := fun _=>True) (.ok trivial) fun y _=>?_) fun _ _=>.ok trivial))
 exact Tot.ite (fun _=>Tot.ite (fun _=>Tot.ite (fun _=>.ok trivial) (fun _=>.ok trivial)) (fun _=>.ok trivial)) (fun _=>.ok trivial)
theorem ip_Valid_tot (p : ApiPos) (m : ApiMove) : Tot (ip_Valid p m) (fun _=>True) := by
 unfold ip_Valid
 refine Tot.bind (ip_right_tot _ _) fun _ _=>Tot.ite (fun _=>.ok trivial) (fun _=>Tot.bind (E := fun _=>True) (.ok trivial) fun b _=>?_)
 refine Tot.bindX (E := fun l=>l.length ≤ 10) (TotX.ite (fun _=>TotX.bind (ip_point_tot _ _) fun r _=>TotX.bind (E := fun _=>True) ?_ fun b _=>TotX.ite (fun _=>.ret trivial) (fun _=>.go (by simp))) (fun _=>.go (by simp))) (fun l hl=>?_)
 ·refine Tot.ite (fun _=>.ok trivial) (fun _=>Tot.bind (ip_apart_tot _ _) fun _ _=>Tot.ite (fun _=>.ok trivial) (fun _=>Tot.bind (ip_apart_tot _ _) fun _ _=>.ok trivial))
 ·refine Tot.bindX (E := fun _=>True) (TotX.guard (okIdx_of (by omega)) (TotX.of (Tot.range (fun _ _=>True) _ trivial (fun i x v _ _=>TotX.bind (ip_apart_tot _ _) fun _ _=>TotX.ite (fun _=>.ret trivial) (fun _=>.go trivial)) (fun v _=>.ok trivial)))) (fun _ _=>.ok trivial)
theorem ip_Quarters_tot (p : ApiPos) (m : ApiMove) : Tot (ip_Quarters p m) (fun r=>r.2 = 0 → 1 ≤ r.1 ∧ r.1 ≤ 4) := by
 unfold ip_Quarters
 refine Tot.bind (E := fun _=>True) (.ok trivial) fun b _=>Tot.ite (fun _=>.ok (by simp)) (fun _=>Tot.bind (ip_Valid_tot _ _) fun e _=>Tot.ite (fun h=>.ok fun h2=>?_) (fun _=>Tot.bind (ip_point_tot _ _) fun a ha=>Tot.bind (ip_point_tot _ _) fun c hc=>?_))
 ·simp at h h2; exact absurd h2 h
 ·have e1 : IntKind.i64.wrap (c.1 - a.1) = c.1 - a.1 := wrap_i64 (by omega) (by omega)
  rw [e1,wrap_i64 (n := 0 - (c.1 - a.1)) (by omega) (by omega)]
  refine Tot.bind (E := fun v : Int=>-3 ≤ v ∧ v ≤ 3) (Tot.ite (fun _=>.ok (by omega)) (fun _=>.ok (by omega))) fun v hv=>Tot.bind (E := fun v : Int=>1 ≤ v ∧ v ≤ 4) (Tot.ite (fun h=>.ok ?_) (fun h=>.ok ?_)) fun v hv=>.ok fun _=>hv
  ·simp at h; rw [wrap_i64 (by omega) (by omega)]; omega
  ·simp at h; omega
theorem ip_Chords_tot (r : Int) : Tot (ip_Chords r) (fun n=>0 ≤ n ∧ n ≤ 1073741824) := by
 unfold ip_Chords
 refine Tot.ite (fun _=>.ok (by decide)) (fun _=>Tot.bind (E := fun n : Int=>0 ≤ n ∧ n ≤ 1073741824) ?_ fun n hn=>.ok hn)
 refine Tot.loop (fun m v=>1 ≤ v.1 ∧ v.1 ≤ v.2 ∧ v.2 ≤ 1073741824 ∧ m = (v.2 - v.1).toNat) _ 1073741823 (fuel_gt (by omega)) (by decide) (fun m v hr=>?_)
 obtain ⟨a,b,c,d⟩ := hr
 refine TotX.ite (fun h=>?_) (fun _=>.ret (by omega))
 simp at h
 rw [wrap_i64 (n := v.1 + v.2) (by omega) (by omega),Int.tdiv_eq_ediv_of_nonneg (by omega),wrap_i64 (n := (v.1 + v.2) / 2) (by omega) (by omega)]
 refine TotX.ite (fun _=>.go ?_) (fun _=>.go ?_)
 ·exact ⟨_,by omega,a,by simp; omega,by simp; omega,rfl⟩
 ·rw [wrap_i64 (by omega) (by omega)]
  exact ⟨_,by omega,by simp; omega,by simp; omega,c,rfl⟩
theorem ip_turned_tot (x y q : Int) : Tot (ip_turned x y q) (fun _=>True) := by
 unfold ip_turned
 have hA : -9223372036854775808 ≤ andI .i64 q 3 ∧ andI .i64 q 3 ≤ 9223372036854775807 := i64_lo _
 generalize andI .i64 q 3 = A at hA
 refine Tot.bind (E := fun _=>True) ?_ fun _ _=>.ok trivial
 refine Tot.loop (fun m v=>0 ≤ v.2.2 ∧ m = (A - v.2.2).toNat) _ A.toNat (fuel_gt (by omega)) ⟨by simp,by simp⟩ (fun m v hr=>?_)
 refine TotX.ite (fun h=>.go ?_) (fun _=>.ret trivial)
 simp at h
 rw [wrap_i64 (n := v.2.2 + 1) (by omega) (by omega)]
 exact ⟨(A - (v.2.2 + 1)).toNat,by have := hr.2; have := hr.1; omega,by simp; omega,rfl⟩
theorem ip_floor_tot (a b : Int) (h : b ≠ 0) : Tot (ip_floor a b) (fun _=>True) := by
 unfold ip_floor
 have hb : (!(b == 0)) = true := by simp [h]
 exact Tot.guard hb (Tot.guard hb (Tot.bind (E := fun _=>True) (Tot.ite (fun _=>.ok trivial) (fun _=>.ok trivial)) fun _ _=>.ok trivial))
theorem sq_le {i n : Int} (h0 : 0 ≤ i) (h : i ≤ n) (hn : n ≤ 20000) : 0 ≤ i * i ∧ i * i ≤ 400000000 := by
 have h1 : i * i ≤ 20000 * i := Int.mul_le_mul_of_nonneg_right (by omega) h0
 have h2 : 0 ≤ i * i := Int.mul_nonneg h0 h0
 omega
theorem ip_Arc_tot (p : ApiPos) (mv : ApiMove) : Tot (ip_Arc p mv) (fun r=>r.1.length ≤ 80000) := by
 unfold ip_Arc
 refine Tot.bind (ip_Quarters_tot _ _) fun q hq=>Tot.ite (fun _=>.ok (by simp)) (fun h=>?_)
 simp at h
 have hq4 := hq h
 refine Tot.bind (ip_point_tot _ _) fun pt _=>Tot.bind (ip_Chords_tot _) fun n hn=>Tot.ite (fun _=>.ok (by simp)) (fun hm=>?_)
 have hn2 : n ≤ 20000 := by
  simp at hm
  have : q.1 = 1 ∨ q.1 = 2 ∨ q.1 = 3 ∨ q.1 = 4 := by omega
  rcases this with e | e | e | e <;> (rw [e,wrap_i64 (by omega) (by omega)] at hm; omega)
 have hnq : 0 < n → IntKind.i64.wrap (n * q.1) ≠ 0 := by
  intro h0
  have : q.1 = 1 ∨ q.1 = 2 ∨ q.1 = 3 ∨ q.1 = 4 := by omega
  rcases this with e | e | e | e <;> (rw [e,wrap_i64 (by omega) (by omega)]; omega)
 have hnn := sq_le (i := n) hn.1 (Int.le_refl n) hn2
 refine Tot.bind (E := fun l : List ApiPos=>l.length ≤ 80000) ?_ fun l hl=>.ok hl
 refine Tot.loop (fun m v=>0 ≤ v.2 ∧ v.2 ≤ q.1 ∧ (v.1.length : Int) ≤ v.2 * 20000 ∧ m = (q.1 - v.2).toNat) _ q.1.toNat (fuel_gt (by omega)) ⟨by simp,by simp; omega,by simp,by simp⟩ (fun m v hr=>?_)
 obtain ⟨a,b,c,d⟩ := hr
 refine TotX.ite (fun h=>?_) (fun _=>.ret (by omega))
 simp at h
 refine TotX.bind (E := fun l : List ApiPos=>(l.length : Int) ≤ (v.2 + 1) * 20000) ?_ (fun l hl=>.go ?_)
 ·refine Tot.loop (fun m u=>1 ≤ u.2 ∧ u.2 ≤ n + 1 ∧ (u.1.length : Int) ≤ v.2 * 20000 + u.2 - 1 ∧ m = (n + 1 - u.2).toNat) _ n.toNat (fuel_gt (by omega)) ⟨by simp,by simp; omega,by simp; omega,by simp⟩ (fun m u hr=>?_)
  obtain ⟨a',b',c',d'⟩ := hr
  refine TotX.ite (fun h'=>?_) (fun h'=>.ret ?_)
  ·simp at h'
   have hii := sq_le (i := u.2) (by omega) h' hn2
   have hpos : 0 < n * n := Int.mul_pos (by omega) (by omega)
   have hg : (!((IntKind.i64.wrap ((IntKind.i64.wrap (n * n)) + (IntKind.i64.wrap (u.2 * u.2)))) == 0)) = true := by
    rw [wrap_i64 (n := n * n) (by omega) (by omega),wrap_i64 (n := u.2 * u.2) (by omega) (by omega),wrap_i64 (by omega) (by omega)]
    simp; omega
   refine TotX.guard hg (TotX.guard hg (TotX.bind (E := fun _=>True) (Tot.ite (fun _=>Tot.bind (ip_turned_tot _ _ _) fun _ _=>.ok trivial) (fun _=>Tot.bind (ip_turned_tot _ _ _) fun _ _=>.ok trivial)) fun r _=>TotX.bind (ip_floor_tot _ _ (hnq (by omega))) fun z _=>TotX.guard (okLen_of (by omega)) (.go ?_)))
   rw [wrap_i64 (n := u.2 + 1) (by omega) (by omega)]
   exact ⟨_,by omega,by simp; omega,by simp; omega,by simp; omega,rfl⟩
  ·simp at h'; omega
 ·rw [wrap_i64 (n := v.2 + 1) (by omega) (by omega)]
  exact ⟨_,by omega,by simp; omega,by simp; omega,by simpa using hl,rfl⟩
theorem inp_arc_tot (s : ModalState) (b : ApiBlock) (p q : ApiPos) (hl : b.Words.length ≤ 1000) : Tot (inp_arc s b p q) (fun r=>r.1.length ≤ 80000) := by
 unfold inp_arc
 rw [inp_value_eq b _ hl,bindO_s,inp_value_eq b _ hl,bindO_s]
 refine Tot.bind (E := fun _=>True) (Tot.ite (fun _=>.ok trivial) (fun _=>.ok trivial)) fun k _=>Tot.bind (ip_Arc_tot _ _) fun r hr=>Tot.bind (E := fun l : List InterpreterReached=>l.length ≤ 80000) ?_ fun l hl=>.ok hl
 refine Tot.guard (okIdx_of (by omega)) (Tot.range (fun i v=>v.length ≤ i) _ (by simp) (fun i x v hx hr'=>?_) (fun v hv=>.ok (by omega)))
 have hlt := getElem_lt hx
 exact TotX.guard (okLen_of (by omega)) (.go (by simp; omega))
theorem cy_Read_c1_tot (c d : Int) (b : ApiBlock) (hl : b.Words.length ≤ 1000) : Tot (cy_Read_c1 c d b) (fun _=>True) := by
 unfold cy_Read_c1
 rw [bk_Find_eq b c hl,bindO_s]
 exact Tot.ite (fun _=>.ok trivial) (fun _=>.ok trivial)
def cyOk (c : CycleCycle) : Prop := c.Code = 83000 → 0 < c.Q ∧ c.Q ≤ 10000000 ∧ (-10000000 ≤ c.R ∧ c.R ≤ 10000000) ∧ (-10000000 ≤ c.Z ∧ c.Z ≤ 10000000) ∧ c.R - c.Z - 1 < 1000 * c.Q ∧ c.Z < c.R
theorem cy_Valid_tot (c : CycleCycle) : Tot (cy_Valid c) (fun e=>e = 0 → cyOk c) := by
 unfold cy_Valid
 refine Tot.ite (fun _=>.ok (by simp)) (fun h0=>?_)
 simp only [cy_far,bindO_s]
 refine Tot.bind (E := fun b=>b = true ∨ ((c.Code = 83000 → c.Q ≤ 10000000) ∧ (-10000000 ≤ c.R ∧ c.R ≤ 10000000) ∧ (-10000000 ≤ c.Z ∧ c.Z ≤ 10000000))) ?_ (fun b hb=>Tot.ite (fun _=>.ok (by simp)) (fun hf=>?_))
 ·refine Tot.ite (fun _=>.ok (.inl rfl)) (fun h1=>Tot.ite (fun _=>.ok (.inl rfl)) (fun h2=>Tot.ite (fun _=>.ok (.inl rfl)) (fun h3=>Tot.ite (fun hc=>?_) (fun hc=>.ok (.inr ?_)))))
  ·simp at h1 h2 hc
   by_cases hq : c.Q > 10000000 ∨ c.Q < -10000000
   ·exact .ok (.inl (by simpa using hq))
   ·exact .ok (.inr ⟨fun _=>by omega,by omega,by omega⟩)
  ·simp at h1 h2 hc
   exact ⟨fun e=>absurd e hc,by omega,by omega⟩
 ·have hb' := hb.resolve_left (by simp [hf])
  refine Tot.bind (E := fun b=>b = true ∨ cyOk c) (Tot.ite (fun hc=>?_) (fun hc=>.ok (.inr fun e=>?_))) (fun b hb2=>Tot.ite (fun _=>.ok (by simp)) (fun hf2=>.ok fun _=>hb2.resolve_left (by simp [hf2])))
  ·simp at hc
   simp only [hc,beq_self_eq_true,if_true,Bool.or_eq_false_iff,decide_eq_false_iff_not] at h0
   have hq : 0 < c.Q := by omega
   refine Tot.guard (by simp; omega) (.ok ?_)
   have hqq := hb'.1 hc
   rw [wrap_i64 (n := c.R - c.Z) (by omega) (by omega),wrap_i64 (n := c.R - c.Z - 1) (by omega) (by omega),Int.tdiv_eq_ediv_of_nonneg (by omega)]
   have hd0 : 0 ≤ (c.R - c.Z - 1) / c.Q := Int.ediv_nonneg (by omega) (by omega)
   have hd1 : (c.R - c.Z - 1) / c.Q ≤ c.R - c.Z - 1 := Int.ediv_le_self _ (by omega)
   rw [wrap_i64 (by omega) (by omega)]
   by_cases h9 : (c.R - c.Z - 1) / c.Q > 999
   ·exact .inl (by simpa using h9)
   ·refine .inr fun _=>⟨hq,hqq,hb'.2.1,hb'.2.2,?_,by omega⟩
    have := Int.lt_mul_of_ediv_lt hq (show (c.R - c.Z - 1) / c.Q < 1000 by omega)
    exact this
  ·simp at hc; exact absurd e hc
theorem cy_Depths_tot (c : CycleCycle) : Tot (cy_Depths c) (fun r=>r.1.length ≤ 1001) := by
 unfold cy_Depths
 refine Tot.bind (cy_Valid_tot c) fun e he=>Tot.ite (fun _=>.ok (by simp)) (fun h=>Tot.bind (E := fun l : List Int=>l.length ≤ 1000) (Tot.ite (fun hc=>?_) (fun _=>.ok (by simp))) fun l hl=>Tot.guard (okLen_of (by omega)) (.ok (by simp; omega)))
 simp at h hc
 obtain ⟨h1,h2,h3,h4,h5,h6⟩ := he h hc
 rw [wrap_i64 (n := c.R - c.Q) (by omega) (by omega)]
 refine Tot.loop (fun m v=>v.2 = c.R - ((v.1.length : Int) + 1) * c.Q ∧ c.Z - c.Q ≤ v.2 ∧ v.2 ≤ c.R ∧ v.1.length ≤ 1000 ∧ m = (v.2 - c.Z).toNat) _ (c.R - c.Q - c.Z).toNat (fuel_gt (by omega)) ?_ (fun m v hr=>?_)
 ·exact ⟨by simp,by simp; omega,by simp; omega,by simp,rfl⟩
 ·obtain ⟨a,b,b2,c',d⟩ := hr
  refine TotX.ite (fun h=>?_) (fun _=>.ret c')
  simp at h
  have hlt : (v.1.length : Int) + 1 < 1000 := by
   have : ((v.1.length : Int) + 1) * c.Q < 1000 * c.Q := by omega
   exact Int.lt_of_mul_lt_mul_right this (by omega)
  refine TotX.guard (okLen_of (by omega)) (.go ?_)
  rw [wrap_i64 (n := v.2 - c.Q) (by omega) (by omega)]
  refine ⟨_,by omega,?_,by simp; omega,by simp; omega,by simp; omega,rfl⟩
  simp only [List.length_append,List.length_cons,List.length_nil]
  rw [a]
  have : (((v.1.length + (0 + 1) : Nat) : Int) + 1) * c.Q = ((v.1.length : Int) + 1) * c.Q + c.Q := by
   rw [show (((v.1.length + (0 + 1) : Nat) : Int) + 1) = ((v.1.length : Int) + 1) + 1 by omega,Int.add_mul,Int.one_mul]
  omega
end Go.Proofs.YtnnelopkjdgbgaaDoor
namespace Go.Proofs.YtnnelopkjdgbgaaDoor
open Go.RowKit
theorem cy_Expand_tot (c : CycleCycle) (p : ApiPos) (l : List ApiGrid2) (hl : l.length ≤ 100) : Tot (cy_Expand c p l) (fun r=>r.1.length ≤ 300000) := by
 unfold cy_Expand
 refine Tot.bind (cy_Depths_tot c) fun ds hd=>Tot.ite (fun _=>.ok (by simp)) (fun _=>?_)
 refine Tot.bind (E := fun _=>True) (Tot.bind (E := fun _=>True) (.ok trivial) fun _ _=>Tot.ite (fun _=>.ok trivial) (fun _=>Tot.bind (E := fun _=>True) (.ok trivial) fun _ _=>Tot.ite (fun _=>.ok trivial) (fun _=>Tot.bind (E := fun _=>True) (.ok trivial) fun _ _=>.ok trivial))) fun b _=>?_
 refine Tot.bind (E := fun _=>True) (Tot.guard (okIdx_of (by omega)) (Tot.range (fun _ _=>True) _ trivial (fun i x v _ _=>TotX.bind (E := fun _=>True) (Tot.ite (fun _=>.ok trivial) (fun _=>Tot.bind (E := fun _=>True) (.ok trivial) fun _ _=>Tot.ite (fun _=>.ok trivial) (fun _=>Tot.bind (E := fun _=>True) (.ok trivial) fun _ _=>.ok trivial))) fun _ _=>.go trivial) (fun v _=>.ok trivial))) fun far _=>Tot.ite (fun _=>.ok (by simp)) (fun _=>?_)
 refine Tot.bindX (E := fun v : ApiPos × List ApiMove=>v.2.length ≤ 300000) (TotX.guard (okIdx_of (by omega)) (TotX.of (Tot.range (fun i v=>v.2.length ≤ i * 3000) _ (by simp) (fun i x v hx hr=>?_) (fun v hv=>.ok (by simp only; omega))))) (fun v hv=>.ok hv)
 have hi := getElem_lt hx
 have e1 : (i + 1) * 3000 = i * 3000 + 3000 := by omega
 have e2 : i * 3000 ≤ 297000 := by omega
 rw [e1]
 generalize i * 3000 = B at hr e2
 refine TotX.bindX (E := fun v : ApiPos × List ApiMove=>v.2.length ≤ B + 3000) (TotX.of ?_) (fun v hv=>.go hv)
 refine Tot.bind (E := fun u : Int × List ApiMove=>u.2.length ≤ B + 1) (Tot.ite (fun _=>Tot.bind (E := fun u : Int × List ApiMove=>u.2.length ≤ B + 1) (Tot.ite (fun _=>Tot.guard (okLen_of (by omega)) (.ok (by simp; omega))) (fun _=>.ok (by simp only; omega))) fun u hu=>.ok hu) (fun _=>.ok (by simp only; omega))) fun u1 h1=>?_
 refine Tot.bind (E := fun u : ApiPos × List ApiMove=>u.2.length ≤ B + 2) (Tot.ite (fun _=>Tot.guard (okLen_of (by omega)) (.ok (by simp; omega))) (fun _=>.ok (by simp only; omega))) fun u2 h2=>?_
 refine Tot.bind (E := fun u : ApiPos × List ApiMove=>u.2.length ≤ B + 3) (Tot.ite (fun _=>Tot.guard (okLen_of (by omega)) (.ok (by simp; omega))) (fun _=>.ok (by simp only; omega))) fun u3 h3=>?_
 refine Tot.bind (E := fun u : ApiPos × List ApiMove=>u.2.length ≤ B + 2010) (Tot.guard (okIdx_of (by omega)) (Tot.range (fun j v=>v.2.length ≤ B + 3 + 2 * j) _ (by simpa using h3) (fun j z w hz hw=>?_) (fun v hv=>.ok (by simp only; omega)))) fun u4 h4=>?_
 ·have hj := getElem_lt hz
  refine TotX.bind (E := fun u : ApiPos × List ApiMove=>u.2.length ≤ B + 3 + 2 * j + 1) (Tot.ite (fun _=>Tot.guard (okLen_of (by omega)) (.ok (by simp; omega))) (fun _=>.ok (by simp only; omega))) fun a ha=>TotX.bind (E := fun u : ApiPos × List ApiMove=>u.2.length ≤ B + 3 + 2 * j + 2) (Tot.ite (fun _=>Tot.guard (okLen_of (by omega)) (.ok (by simp; omega))) (fun _=>.ok (by simp only; omega))) fun b hb=>.go (by simp only; omega)
 ·refine Tot.bind (E := fun u : ApiPos × List ApiMove=>u.2.length ≤ B + 2011) (Tot.ite (fun _=>Tot.bind (E := fun u : ApiPos × List ApiMove=>u.2.length ≤ B + 2011) (Tot.ite (fun _=>Tot.guard (okLen_of (by omega)) (.ok (by simp; omega))) (fun _=>.ok (by simp only; omega))) fun u hu=>.ok hu) (fun _=>.ok (by simp only; omega))) fun u5 h5=>Tot.ite (fun _=>.ok (by simp)) (fun _=>.ok (by simp only; omega))
theorem cy_Read_tot (b : ApiBlock) (k f i : Int) (h : Bool) (c : CycleCycle) (hl : b.Words.length ≤ 1000) : Tot (cy_Read b k f i h c) (fun _=>True) := by
 unfold cy_Read
 refine Tot.bind (cy_Read_c1_tot _ _ _ hl) fun _ _=>Tot.bind (cy_Read_c1_tot _ _ _ hl) fun _ _=>Tot.bind (cy_Read_c1_tot _ _ _ hl) fun _ _=>Tot.bind (cy_Read_c1_tot _ _ _ hl) fun _ _=>Tot.bind (cy_Valid_tot _) fun _ _=>Tot.ite (fun _=>.ok trivial) (fun _=>.ok trivial)
theorem inp_canned_tot (s : ModalState) (c : CycleCycle) (b : ApiBlock) (p q : ApiPos) (hl : b.Words.length ≤ 1000) : Tot (inp_canned s c b p q) (fun r=>r.1.length ≤ 300000) := by
 unfold inp_canned
 refine Tot.bind (E := fun _=>True) (Tot.ite (fun _=>.ok trivial) (fun _=>.ok trivial)) fun i _=>Tot.bind (cy_Read_tot _ _ _ _ _ _ hl) fun r _=>Tot.ite (fun _=>.ok (by simp)) (fun _=>Tot.bind (cy_Expand_tot _ _ _ (by simp)) fun m hm=>Tot.ite (fun _=>.ok (by simp)) (fun _=>Tot.bind (E := fun l : List InterpreterReached=>l.length ≤ 300000) ?_ fun l hl=>.ok hl))
 refine Tot.guard (okIdx_of (by omega)) (Tot.range (fun i v=>v.length ≤ i) _ (by simp) (fun i x v hx hr'=>?_) (fun v hv=>.ok (by omega)))
 have hlt := getElem_lt hx
 exact TotX.guard (okLen_of (by omega)) (.go (by simp; omega))
theorem inp_target_tot (s : ModalState) (b : ApiBlock) (p : ApiPos) (hl : b.Words.length ≤ 1000) : Tot (inp_target s b p) (fun _=>True) := by
 unfold inp_target
 simp only [bk_Find_eq b _ hl,bindO_s]
 refine Tot.bind (E := fun _=>True) (Tot.bind (E := fun _=>True) (Tot.ite (fun _=>.ok trivial) (fun _=>Tot.ite (fun _=>.ok trivial) (fun _=>.ok trivial))) fun _ _=>Tot.bind (E := fun _=>True) (Tot.ite (fun _=>.ok trivial) (fun _=>Tot.ite (fun _=>.ok trivial) (fun _=>.ok trivial))) fun _ _=>Tot.bind (E := fun _=>True) (Tot.ite (fun _=>.ok trivial) (fun _=>Tot.ite (fun _=>.ok trivial) (fun _=>.ok trivial))) fun _ _=>.ok trivial) fun _ _=>.ok trivial
theorem inp_positions_tot (s : ModalState) (c : CycleCycle) (b : ApiBlock) (p : ApiPos) (hl : b.Words.length ≤ 1000) : Tot (inp_positions s c b p) (fun r=>r.1.length ≤ 300000) := by
 unfold inp_positions
 refine Tot.bind (inp_target_tot s ⟨b.Skip,b.Words,b.Comment⟩ p hl) fun q _=>Tot.ite (fun _=>.ok (by simp)) (fun _=>Tot.ite (fun _=>.ok (by simp)) (fun _=>Tot.bind (E := fun _=>True) (.ok trivial) fun y _=>Tot.ite (fun _=>Tot.bind (inp_canned_tot _ _ _ _ _ hl) fun r hr=>.ok hr) (fun _=>Tot.bind (inp_arc_tot _ ⟨b.Skip,b.Words,b.Comment⟩ _ _ hl) fun r hr=>.ok (by simp only; omega))))
theorem endW_cons (x : ApiMotion) (l : List ApiMotion) (p : ApiPos) : endW p (x :: l) = endW x.To l := by
 cases l with
 | nil=>rfl
 | cons y r =>
  unfold endW
  rw [List.getLast?_cons_cons]
  cases h : (y :: r).getLast? with
  | none=>simp at h
  | some z=>rfl
theorem connW_snoc (l : List ApiMotion) (m : ApiMotion) : ∀ p,connW p (l ++ [m]) = (connW p l && posEq m.From (endW p l)) := by
 induction l with
 | nil=>intro p; simp [connW,endW]
 | cons x l ih =>
  intro p
  simp only [List.cons_append,connW,ih]
  rw [endW_cons,Bool.and_assoc]
theorem endW_snoc (l : List ApiMotion) (m : ApiMotion) (p : ApiPos) : endW p (l ++ [m]) = m.To := by simp [endW]
theorem posEq_refl (p : ApiPos) : posEq p p = true := posEq_iff.2 rfl
def goodM (p : ApiPos) (l : List ApiMotion) : Prop := connW p l = true ∧ (∀ m ∈ l,inR m.From ∧ inR m.To ∧ m.From ≠ m.To) ∧ inR (endW p l)
def okS (b : ApiBlock) : Prop := (∀ w ∈ b.Words,u8W w) ∧ b.Words.length ≤ 1000 ∧ b.Comment.length ≤ 1000
def stepE (p : ApiPos) (b : ApiBlock) (r : List ApiMotion × ModalState × CycleCycle × Int) : Prop := r.1.length ≤ 300000 ∧ (∀ m ∈ r.1,m.Block = 0) ∧ (r.2.2.2 = 0 → goodM p r.1 ∧ goodW [] b.Words = true)
theorem stepE_fail {p : ApiPos} {b : ApiBlock} {s : ModalState} {c : CycleCycle} {e : Int} (h : e ≠ 0) : stepE p b ([],s,c,e) := ⟨by simp,by simp,fun q=>absurd q h⟩
theorem inp_Step_tot (s : ModalState) (c : CycleCycle) (b : ApiBlock) (t : TableTable) (p : ApiPos) (hb : okS b) (ht : t.Lengths.length ≤ 1000) : Tot (inp_Step s c b t p) (stepE p b) := by
 obtain ⟨hu,hl,hc⟩ := hb
 have hok : okB b := ⟨hu,by omega⟩
 unfold inp_Step
 refine Tot.bind (inp_checked_tot t p ht) fun e he=>Tot.ite (fun h=>.ok (stepE_fail (by simpa using h))) (fun h0=>?_)
 have hp := he (by simpa using h0)
 refine Tot.bind (E := fun x=>x = true ∨ goodW [] b.Words = true) (Tot.bind (bk_Valid_tot b hl hc) fun _ _=>Tot.ite (fun _=>.ok (.inl rfl)) (fun _=>Tot.bind (E := fun x=>x = if goodW [] b.Words = true then 0 else 1) (.eq (md_Check_eq b hu (by omega)) rfl) fun x hx=>Tot.ite (fun _=>.ok (.inl rfl)) (fun hx0=>Tot.bind (inp_known_tot b hl) fun _ _=>.ok (.inr ?_)))) fun bad hbad=>Tot.ite (fun _=>.ok (stepE_fail (by decide))) (fun hbf=>?_)
 ·rw [hx] at hx0
  cases hg : goodW [] b.Words with
  | true=>rfl
  | false=>simp [hg] at hx0
 have hgood := hbad.resolve_left (by simp [hbf])
 refine Tot.bind (E := fun _=>True) (.eq (md_Apply_eq s b hok) trivial) fun r _=>Tot.ite (fun h=>.ok (stepE_fail (by simpa using h))) (fun _=>?_)
 refine Tot.bind (E := fun _=>True) (.ok trivial) fun cy _=>Tot.bind (E := fun _=>True) (Tot.ite (fun _=>.ok trivial) (fun _=>.ok trivial)) fun c2 _=>?_
 simp only [inp_has_eq b _ hl (show ([88,89,90,73,74,81,82] : List UInt8).length ≤ 1000 by decide),inp_has_eq b _ hl (show ([73,74] : List UInt8).length ≤ 1000 by decide),inp_has_eq b _ hl (show ([81,82] : List UInt8).length ≤ 1000 by decide),bindO_s,inp_cycles]
 refine Tot.ite (fun _=>.ok ⟨by simp,by simp,fun _=>⟨⟨rfl,by simp,hp⟩,hgood⟩⟩) (fun _=>?_)
 refine Tot.bind (E := fun _=>True) ?_ fun bad _=>Tot.ite (fun _=>.ok (stepE_fail (by decide))) (fun _=>Tot.ite (fun _=>.ok (stepE_fail (by decide))) (fun _=>?_))
 ·repeat' (first | exact .ok trivial | refine Tot.ite (fun _=>?_) (fun _=>?_))
 refine Tot.bind (E := fun _=>True) (Tot.ite (fun _=>.ok trivial) (fun _=>.ok trivial)) fun num _=>Tot.bind (tb_Work_tot ⟨t.Work,t.Lengths⟩ _ _ _ ht) fun wp _=>Tot.ite (fun h=>.ok (stepE_fail (by simpa using h))) (fun _=>?_)
 refine Tot.bind (inp_positions_tot _ _ ⟨b.Skip,b.Words,b.Comment⟩ _ hl) fun ps hps=>Tot.ite (fun h=>.ok (stepE_fail (by simpa using h))) (fun _=>?_)
 refine Tot.bindX (E := fun v : List ApiMotion × ApiPos=>v.1.length ≤ 300000 ∧ (∀ m ∈ v.1,m.Block = 0) ∧ goodM p v.1) (TotX.guard (okIdx_of (by omega)) (TotX.of (Tot.range (fun (i : Nat) (v : List ApiMotion × ApiPos)=>v.1.length ≤ i ∧ (∀ m ∈ v.1,m.Block = 0) ∧ goodM p v.1 ∧ v.2 = endW p v.1) _ ⟨by simp,by simp,⟨rfl,by simp,hp⟩,rfl⟩ (fun i x v hx hr=>?_) (fun v hv=>.ok ⟨by have := hv.1; simp only; omega,hv.2.1,hv.2.2.1⟩)))) (fun v hv=>.ok ⟨hv.1,hv.2.1,fun _=>⟨hv.2.2,hgood⟩⟩)
 have hi := getElem_lt hx
 obtain ⟨a1,a2,a3,a4⟩ := hr
 refine TotX.bind (tb_Machine_tot ⟨t.Work,t.Lengths⟩ _ _ _ ht) fun q2 hto=>TotX.ite (fun h=>.ret (stepE_fail (by simpa using h))) (fun h=>?_)
 have hto' := hto (by simpa using h)
 have hv2 : inR v.2 := a4 ▸ a3.2.2
 refine TotX.bind (E := fun l=>l.length ≤ i + 1 ∧ (∀ m ∈ l,m.Block = 0) ∧ goodM p l ∧ q2.1 = endW p l) (Tot.ite (fun hne=>Tot.guard (okLen_of (by omega)) (.ok ?_)) (fun heq=>.ok ?_)) fun l hl=>.go hl
 ·have hne' : ¬ (q2.1 = v.2) := by
   intro e
   have : posEq q2.1 v.2 = true := posEq_iff.2 e
   unfold posEq at this
   simp [this] at hne
  refine ⟨by simp; omega,?_,⟨?_,?_,?_⟩,?_⟩
  ·intro m hm
   rcases List.mem_append.1 hm with q | q
   ·exact a2 m q
   ·simp at q; subst q; rfl
  ·rw [connW_snoc,a3.1,a4]
   exact posEq_refl _
  ·intro m hm
   rcases List.mem_append.1 hm with q | q
   ·exact a3.2.1 m q
   ·simp at q; subst q; exact ⟨hv2,hto',fun e=>hne' e.symm⟩
  ·rw [endW_snoc]; exact hto'
  ·rw [endW_snoc]
 ·have he : q2.1 = v.2 := by
   refine posEq_iff.1 ?_
   unfold posEq
   simpa using heq
  exact ⟨by omega,a2,a3,by rw [he]; exact a4⟩
end Go.Proofs.YtnnelopkjdgbgaaDoor
namespace Go.Proofs.YtnnelopkjdgbgaaDoor
open Go.RowKit
def codesW (b : ApiBlock) (c : Int) : List Int := (b.Words.filter fun w=>w.Letter == c).map (·.Value)
theorem codes_fold (l : List ApiWord) (c : Int) : ∀ o : List Int,l.foldl (fun o w=>if (w.Letter == c) = true then o ++ [w.Value] else o) o = o ++ (l.filter fun w=>w.Letter == c).map (·.Value) := by
 induction l with
 | nil=>intro o; simp
 | cons w l ih =>
  intro o
  rw [List.foldl_cons,ih]
  by_cases h : (w.Letter == c) = true
  ·simp [h]
  ·simp [h]
theorem bk_Codes_eq (b : ApiBlock) (c : Int) (hl : b.Words.length ≤ 1000) : bk_Codes b c = some (codesW b c) := by
 unfold bk_Codes
 rw [okIdx_of (by omega),guardO_t,range_fold (g := fun (o : List Int) (w : ApiWord)=>if (w.Letter == c) = true then o ++ [w.Value] else o) (R := fun i v=>v.length ≤ i) (L := b.Words) ?_ b.Words 0 [] rfl (by simp)]
 ·rw [bindO_s,codes_fold]; rfl
 ·intro i x v hx hr
  have hlt := getElem_lt hx
  by_cases h : (x.Letter == c) = true
  ·simp only [h,if_true]
   rw [okLen_of (by omega),guardO_t]
   exact ⟨rfl,by simp; omega⟩
  ·have h' : (x.Letter == c) = false := by simpa using h
   simp only [h',Bool.false_eq_true,if_false]
   exact ⟨rfl,by omega⟩
theorem range_idx {f : Nat → Int → Unit → Option (Ex (Ex Int Unit) Unit)} {p : Int → Bool} (hf : ∀ (i : Nat) x,f i x () = if p x = true then some (.ret (.ret (i : Int))) else some (.go ())) : ∀ (l : List Int) (i : Nat),∃ k : Nat,rangeX f (fun _=>some (.go ())) l i () = some (if l.any p = true then .ret (k : Int) else .go ())
 | [],i=>⟨0,rfl⟩
 | x :: l,i=>by
  simp only [rangeX,hf i x,List.any_cons]
  by_cases h : p x = true
  ·exact ⟨i,by simp [h]⟩
  ·have h' : p x = false := by simpa using h
   obtain ⟨k,hk⟩ := range_idx hf l (i + 1)
   exact ⟨k,by simpa [h'] using hk⟩
theorem contains_eq (l : List Int) (c : Int) (hl : l.length ≤ 1000) : slices_Contains_int64_int64 l c = some (l.contains c) := by
 unfold slices_Contains_int64_int64 slices_Index_int64_int64
 rw [okIdx_of (by omega),guardO_t]
 obtain ⟨k,hk⟩ := range_idx (f := fun (i127 : Nat) (e129 : Int) (_ : Unit)=>if (c == e129) = true then some (.ret (.ret (i127 : Int))) else some (.go ())) (p := fun x=>c == x) (fun i x=>rfl) l 0
 rw [hk]
 have : l.any (fun x=>c == x) = l.contains c := by
  rw [Bool.eq_iff_iff,List.contains_iff_mem]; simp
 rw [this]
 cases l.contains c <;> simp
def setB (i : Nat) (m : ApiMotion) : ApiMotion := ⟨m.From,m.To,m.Rate,m.Tool,(i : Int)⟩
theorem range_set {L : List ApiMotion} (g : ApiMotion → ApiMotion) {f : Nat → ApiMotion → List ApiMotion → Option (Ex (List ApiMotion) (List ApiMotion))} (hf : ∀ (i : Nat) x v e,gt v (i : Int) = some e → f i x v = some (.go (v.set i (g e)))) : rangeX f (fun v=>some v) L 0 L = some (L.map g) := by
  obtain ⟨e,h1,h2⟩ := rangeX_inv (f := f) (d := fun v=>some v) (fun i v=>v = (L.take i).map g ++ L.drop i) (fun e=>e = L.map g) L (fun i x v hx hr=>by
    right
    have hlt := getElem_lt hx
    have hgt : gt v (i : Int) = some x := by
      refine gt_k ?_
      rw [hr,List.getElem?_append_right (by simp; omega)]
      simp [Nat.min_eq_left (Nat.le_of_lt hlt),hx]
    refine ⟨_,hf i x v x hgt,?_⟩
    rw [hr,List.set_append_right _ _ (by simp; omega)]
    have hd : L.drop i = x :: L.drop (i + 1) := by
      rw [List.drop_eq_getElem_cons hlt]
      rw [List.getElem?_eq_getElem hlt] at hx
      injection hx with hx
      rw [hx]
    rw [hd,List.take_add_one,hx]
    simp [Nat.min_eq_left (Nat.le_of_lt hlt)]) (fun v hv=>⟨v,rfl,by simpa using hv⟩) L 0 L rfl (Nat.zero_le _) (by simp)
  rw [h1,h2]
def zC : CycleCycle := ⟨0,0,0,0,0,0,false⟩
def stepT (s : ModalState) (c : CycleCycle) (b : ApiBlock) (t : TableTable) (p : ApiPos) : List ApiMotion × ModalState × CycleCycle × Int := (inp_Step s c b t p).getD ([],zS,zC,1)
theorem stepT_eq {s : ModalState} {c : CycleCycle} {b : ApiBlock} {t : TableTable} {p : ApiPos} (hb : okS b) (ht : t.Lengths.length ≤ 1000) : inp_Step s c b t p = some (stepT s c b t p) := by
 obtain ⟨e,h,_⟩ := inp_Step_tot s c b t p hb ht
 unfold stepT; rw [h]; rfl
theorem stepT_E {s : ModalState} {c : CycleCycle} {b : ApiBlock} {t : TableTable} {p : ApiPos} (hb : okS b) (ht : t.Lengths.length ≤ 1000) : stepE p b (stepT s c b t p) := by
 obtain ⟨e,h,h2⟩ := inp_Step_tot s c b t p hb ht
 unfold stepT; rw [h]; exact h2
abbrev Run := List ApiMotion × ApiPos × ModalState × CycleCycle
def endsW (b : ApiBlock) : Bool := (codesW b 77).contains 30000
def runB (t : TableTable) (N : Nat) : Nat → List ApiBlock → Run → List ApiMotion × InterpreterAlarm
 | _,[],v=>(v.1,⟨(N : Int),13⟩)
 | i,b :: l,v =>
  let r := stepT v.2.2.1 v.2.2.2 b t v.2.1
  if r.2.2.2 ≠ 0 then (v.1,⟨(i : Int),r.2.2.2⟩)
  else if v.1.length + r.1.length > 20000 then (v.1,⟨(i : Int),3⟩)
  else if endsW b = true then (v.1 ++ r.1.map (setB i),⟨-1,0⟩)
  else runB t N (i + 1) l (v.1 ++ r.1.map (setB i),endW v.2.1 r.1,r.2.1,r.2.2.1)
theorem endW_map (p : ApiPos) (i : Nat) (l : List ApiMotion) : endW p (l.map (setB i)) = endW p l := by
 unfold endW
 rw [List.getLast?_map]
 cases l.getLast? <;> rfl
def newS : ModalState := ⟨0,90000,54000,49000,98000,0,0,0⟩
theorem inp_Blocks_eq (L : List ApiBlock) (t : TableTable) (p : ApiPos) (e : Int) (he : inp_checked t p = some e) (hL : L.length ≤ 1000) (hb : ∀ b ∈ L, okS b) (ht : t.Lengths.length ≤ 1000) :
    inp_Blocks L t p = some (if e ≠ 0 then ([],⟨-1,e⟩) else runB t L.length 0 L ([],p,newS,zC)) := by
  unfold inp_Blocks
  rw [show (TableTable.mk t.Work t.Lengths) = t from rfl,he,bindO_s]
  by_cases h0 : e = 0
  · have h0' : (e != 0) = false := by simp [h0]
    rw [if_neg (show ¬ (e ≠ 0) by simpa using h0)]
    simp only [h0',Bool.false_eq_true,if_false,md_New,bindO_s]
    rw [okIdx_of (by omega),guardO_t]
    have key : ∀ (f : Nat → ApiBlock → Run → Option (Ex (Ex (List ApiMotion × InterpreterAlarm) Run) Run)),
        (∀ (i : Nat) (b : ApiBlock) (v : Run),b ∈ L → v.1.length ≤ 20000 → f i b v = (let r := stepT v.2.2.1 v.2.2.2 b t v.2.1
          if r.2.2.2 ≠ 0 then some (.ret (.ret (v.1,⟨(i : Int),r.2.2.2⟩)))
          else if v.1.length + r.1.length > 20000 then some (.ret (.ret (v.1,⟨(i : Int),3⟩)))
          else if endsW b = true then some (.ret (.ret (v.1 ++ r.1.map (setB i),⟨-1,0⟩)))
          else some (.go (v.1 ++ r.1.map (setB i),endW v.2.1 r.1,r.2.1,r.2.2.1)))) →
        ∀ (l : List ApiBlock) (i : Nat) (v : Run),(∀ b ∈ l,b ∈ L) → v.1.length ≤ 20000 → bindX (rangeX f (fun v=>some (.go (v.1,v.2.1,v.2.2.1,v.2.2.2))) l i v) (fun v=>some (v.1,InterpreterAlarm.mk (L.length : Int) 13)) = some (runB t L.length i l v) := by
      intro f hf l
      induction l with
      | nil=>intro i v _ _; rfl
      | cons b l ih =>
        intro i v hm hv
        simp only [rangeX,hf i b v (hm b (by simp)) hv,runB]
        by_cases h1 : (stepT v.2.2.1 v.2.2.2 b t v.2.1).2.2.2 = 0
        · by_cases h2 : v.1.length + (stepT v.2.2.1 v.2.2.2 b t v.2.1).1.length > 20000
          · simp [h1,h2]
          · by_cases h3 : endsW b = true
            · simp [h1,h2,h3]
            · simp only [h1,h2,h3,ne_eq,not_true_eq_false,if_false]
              exact ih (i + 1) _ (fun b hb=>hm b (by simp [hb])) (by simp; omega)
        · simp [h1]
    refine key _ ?_ L 0 _ (fun b h=>h) (by simp)
    intro i b v hbL hv
    have hbk := hb b hbL
    rw [stepT_eq hbk ht,bindO_s]
    have hE := stepT_E (s := v.2.2.1) (c := v.2.2.2) (p := v.2.1) hbk ht
    generalize stepT v.2.2.1 v.2.2.2 b t v.2.1 = r at hE
    obtain ⟨hlen,_,_⟩ := hE
    simp only
    by_cases h1 : r.2.2.2 = 0
    · have hw : IntKind.i64.wrap ((v.1.length : Int) + (r.1.length : Int)) = (v.1.length : Int) + (r.1.length : Int) := wrap_i64 (by omega) (by omega)
      by_cases h2 : v.1.length + r.1.length > 20000
      · have : decide ((v.1.length : Int) + (r.1.length : Int) > 20000) = true := by simp; omega
        simp [h1,hw,this,h2]
      · have h2' : decide ((v.1.length : Int) + (r.1.length : Int) > 20000) = false := by simp; omega
        simp only [h1,beq_self_eq_true,if_true,hw,h2',bindO_s,Bool.false_eq_true,if_false,ne_eq,not_true_eq_false,h2,bne_self_eq_false]
        rw [okIdx_of (by omega),guardO_t,range_set (setB i) (fun k x v e hg=>by rw [hg,bindO_s]; rfl),bindO_s,okLen_of (by simp; omega),guardO_t,inp_End_eq _ _ (by simp; omega),bindO_s,bk_Codes_eq b _ hbk.2.1,bindO_s,contains_eq _ _ (by
          unfold codesW
          have := List.length_filter_le (fun w : ApiWord=>w.Letter == 77) b.Words
          have := hbk.2.1
          simp; omega),bindO_s,endW_map]
        unfold endsW
        cases (codesW b 77).contains 30000 <;> simp
    · simp [h1]
  · have h0' : (e != 0) = true := by simp [h0]
    simp [h0',h0]
end Go.Proofs.YtnnelopkjdgbgaaDoor
