import Derived.Test.YtjgngikiglhleaaGreatDoorBa
namespace Go.Proofs.YtjgngikiglhleaaGreatDoor
open Go.RowKit
set_option linter.unusedVariables false
set_option linter.unusedSimpArgs false
theorem wrap_u64 (n : Int) : IntKind.u64.wrap n = n % 18446744073709551616 := by
 simp [IntKind.wrap,IntKind.bits,IntKind.signed]
theorem same_refl6 (l : List ApiBlock) (hl : l.length ≤ 100000) (hw : ∀ b ∈ l,b.Words.length ≤ 1000000) : r41_Same l l = some true := by
  unfold r41_Same
  rw [bne_self_eq_false,if_neg (by simp)]
  have key : Tot (guardO (okIdx l) (
        rangeX (fun (i155 : Nat) (e157 : ApiBlock) (v156 : Unit) =>
          bindO (gt l (i155 : Int)) fun (e160 : ApiBlock) =>
          bindO (r41_Equal e157 e160) fun (y161 : Bool) =>
          if (!y161) = true then
            some (.ret (.ret false))
          else
            some (.go ())) (fun (v156 : Unit)=>some (.go ())) l 0 ())) (fun x : Ex Bool Unit=>x = .go ()) := by
    refine Tot.guard (okIdx_of (by omega)) (Tot.range (fun _ _=>True) _ trivial (fun i x v hx hr=>?_) (fun v hr=>.ok rfl))
    rw [gt_k hx,bindO_s,r41_equal_eq x x (hw x (List.mem_of_getElem? hx)),bindO_s,decide_eq_true rfl,if_neg (by simp)]
    exact .go trivial
  obtain ⟨e,h1,rfl⟩ := key
  rw [h1]; rfl
def codes1 : List Int := [0,1000,2000,3000,80000,81000,82000,83000]
def codes2 : List Int := [90000,91000]
def codes3 : List Int := [54000,55000,56000,57000,58000,59000]
def codes4 : List Int := [43000,49000]
def codes5 : List Int := [98000,99000]
def grp (c : Int) : Int := if c ∈ codes1 then 1 else if c ∈ codes2 then 2 else if c ∈ codes3 then 3 else if c ∈ codes4 then 4 else if c ∈ codes5 then 5 else 0
theorem grp_cases (c : Int) : (c ∈ codes1 ++ codes2 ++ codes3 ++ codes4 ++ codes5) ∨ (c ∉ codes1 ++ codes2 ++ codes3 ++ codes4 ++ codes5) := Decidable.em _
theorem md_Group_eq (c : Int) : md_Group c = some (grp c) := by
 rcases grp_cases c with h | h
 ·simp only [codes1,codes2,codes3,codes4,codes5,List.cons_append,List.nil_append,List.mem_cons,List.not_mem_nil,or_false] at h
  rcases h with h | h | h | h | h | h | h | h | h | h | h | h | h | h | h | h | h | h | h | h <;> (subst h; decide)
 ·simp only [codes1,codes2,codes3,codes4,codes5,List.cons_append,List.nil_append,List.mem_cons,List.not_mem_nil,or_false,not_or] at h
  have e : ∀ k : Int,c ≠ k → (c == k) = false := fun k hk=>by simpa using hk
  simp [md_Group,grp,codes1,codes2,codes3,codes4,codes5,e,h]
def optV (w n f : Int) : Int := if grp w ≠ 3 ∨ n < 0 ∨ n > 1000 ∨ (f ≠ 0 ∧ (f < 2 ∨ f > 100)) then 1 else 0
theorem po_Valid_eq (o : PostOptions) : po_Valid o = some (optV o.Work o.Numbers o.Fold) := by
 unfold po_Valid optV
 simp only [md_Group_eq,bindO_s]
 by_cases h1 : grp o.Work = 3 <;> by_cases h2 : o.Numbers < 0 <;> by_cases h3 : o.Numbers > 1000 <;> by_cases h4 : o.Fold = 0 <;> by_cases h5 : o.Fold < 2 <;> by_cases h6 : o.Fold > 100 <;> simp [h1,h2,h3,h4,h5,h6]
def i64P (n : Int) : Prop := -9223372036854775808 ≤ n ∧ n ≤ 9223372036854775807
def dst (a b : Int) : Int := if a < b then b - a else a - b
theorem ip_apart_eq {a b : Int} (ha : i64P a) (hb : i64P b) : ip_apart a b = some (dst a b) := by
 unfold i64P at *
 unfold ip_apart dst
 by_cases h : a < b
 ·simp only [h,decide_true,if_true,bindO_s,wrap_u64]; congr 1; omega
 ·simp only [h,decide_false,if_false,bindO_s,wrap_u64,Bool.false_eq_true]; congr 1; omega
def rad (p : ApiPos) (c : ApiGrid2) : Int := if p.Y = c.Y then dst p.X c.X else if p.X = c.X then dst p.Y c.Y else 0
theorem ip_point_eq {p : ApiPos} {c : ApiGrid2} (h1 : i64P p.X) (h2 : i64P p.Y) (h3 : i64P c.X) (h4 : i64P c.Y) : ∃ d,ip_point p c = some (d,rad p c) := by
 unfold ip_point rad
 simp only [ip_apart_eq h1 h3,ip_apart_eq h2 h4,bindO_s]
 by_cases e1 : p.Y = c.Y <;> by_cases e2 : p.X = c.X <;> rcases Int.lt_trichotomy p.X c.X with q | q | q <;> rcases Int.lt_trichotomy p.Y c.Y with r | r | r <;> first | (exfalso; omega) | (simp [e1,e2,q,r,dst]; done) | (simp [e1,e2,q,r,dst]; split <;> exact ⟨_,rfl⟩) | (simp [e1,e2,q,r,dst]; repeat (first | exact ⟨_,rfl⟩ | split))
def farP (n : Int) : Bool := decide (n > 10000000 ∨ n < -10000000)
theorem dst0 (n : Int) : decide (dst n 0 > 10000000) = farP n := by
 unfold farP dst
 apply decide_eq_decide.2
 split <;> omega
def far6 (p q : ApiPos) : Bool := farP p.X || farP p.Y || farP p.Z || farP q.X || farP q.Y || farP q.Z
def movV (p : ApiPos) (m : ApiMove) : Int :=
 if (m.Kind = 1 ∧ m.Rate = 0) ∨ (m.Kind = 2 ∧ m.Rate > 0) then (if far6 p m.To = true then 11 else 0)
 else if (m.Kind = 3 ∨ m.Kind = 4) ∧ m.Rate > 0 ∧ rad p m.Center > 0 ∧ rad p m.Center = rad m.To m.Center then
  (if (far6 p m.To || farP m.Center.X || farP m.Center.Y || farP (m.Center.X + rad p m.Center) || farP (m.Center.X - rad p m.Center) || farP (m.Center.Y + rad p m.Center) || farP (m.Center.Y - rad p m.Center)) = true then 11 else 0)
 else 1
def okPos (p : ApiPos) : Prop := i64P p.X ∧ i64P p.Y ∧ i64P p.Z
def okMove (m : ApiMove) : Prop := i64P m.Kind ∧ okPos m.To ∧ i64P m.Center.X ∧ i64P m.Center.Y ∧ i64P m.Rate
def apU (a b : Int) : Int := if a < b then IntKind.u64.wrap (IntKind.u64.wrap b - IntKind.u64.wrap a) else IntKind.u64.wrap (IntKind.u64.wrap a - IntKind.u64.wrap b)
theorem ip_apart_tot (a b : Int) : ip_apart a b = some (apU a b) := by
 unfold ip_apart apU
 by_cases h : a < b <;> simp [h]
theorem apU_eq {a b : Int} (ha : i64P a) (hb : i64P b) : apU a b = dst a b := by
 have h1 := ip_apart_tot a b
 rw [ip_apart_eq ha hb] at h1
 injection h1 with h1
 exact h1.symm
theorem any_congr' {α : Type} {p q : α → Bool} : ∀ {l : List α},(∀ x ∈ l,p x = q x) → l.any p = l.any q
 | [],_=>rfl
 | x :: l,h=>by rw [List.any_cons,List.any_cons,h x (by simp),any_congr' fun y hy=>h y (by simp [hy])]
theorem bindX_go {ε ν : Type} {f : ν → Option ε} {v : ν} : bindX (some (.go v)) f = f v := rfl
theorem far_list (l : List Int) (hl : ∀ x ∈ l,i64P x) (hs : l.length ≤ 100) :
  bindX (guardO (okIdx l) (rangeX (fun (i : Nat) (e : Int) (v : Unit)=>bindO (ip_apart e 0) fun (y : Int)=>if (decide (y > 10000000)) = true then some (.ret (.ret 11)) else some (.go ())) (fun (v : Unit)=>some (.go ())) l 0 ())) (fun (v : Unit)=>some (0 : Int)) = some (if l.any farP = true then 11 else 0) := by
 have h := range_any (r := (11 : Int)) (p := fun e=>decide (apU e 0 > 10000000)) (f := fun (i : Nat) (e : Int) (v : Unit)=>bindO (ip_apart e 0) fun (y : Int)=>if (decide (y > 10000000)) = true then some (.ret (.ret 11)) else some (.go ())) l 0 (fun i x=>by rw [ip_apart_tot,bindO_s])
 rw [okIdx_of (by omega),guardO_t,h,any_congr' (q := farP) (fun x hx=>by rw [apU_eq (hl x hx) (by unfold i64P; omega),dst0])]
 cases l.any farP <;> rfl
theorem ip_right_eq {p : ApiPos} {m : ApiMove} (hp : okPos p) (hm : okMove m) : ip_right p m = some (decide ((m.Kind = 1 ∧ m.Rate = 0) ∨ (m.Kind = 2 ∧ m.Rate > 0) ∨ ((m.Kind = 3 ∨ m.Kind = 4) ∧ m.Rate > 0 ∧ rad p m.Center > 0 ∧ rad p m.Center = rad m.To m.Center))) := by
 obtain ⟨h1,h2,h3,h4,h5⟩ := hm
 obtain ⟨d,hd⟩ := ip_point_eq hp.1 hp.2.1 h3 h4
 obtain ⟨d',hd'⟩ := ip_point_eq h2.1 h2.2.1 h3 h4
 unfold ip_right ip_isArc
 by_cases e1 : m.Kind = 1
 ·by_cases q : m.Rate = 0 <;> simp [e1,q]
 ·by_cases e2 : m.Kind = 2
  ·by_cases q : m.Rate > 0 <;> simp [e2,q]
  ·by_cases e3 : m.Kind = 3 ∨ m.Kind = 4
   ·have hb : ((m.Kind == 3) || (m.Kind == 4)) = true := by simpa using e3
    by_cases q : m.Rate > 0 <;> by_cases q2 : rad p m.Center > 0 <;> by_cases q3 : rad p m.Center = rad m.To m.Center <;> simp [e1,e2,e3,hb,hd,hd',q,q2,q3] <;> first | done | (simp_all; done) | (simp_all; by_cases w : 0 < rad m.To m.Center <;> simp [w])
   ·have hb : ((m.Kind == 3) || (m.Kind == 4)) = false := by
     rw [not_or] at e3
     simp [e3]
    simp [e1,e2,e3,hb,hd,hd']
theorem rad_nn (p : ApiPos) (c : ApiGrid2) : 0 ≤ rad p c := by
 unfold rad dst; split <;> (try split) <;> (try split) <;> omega
theorem ip_Valid_eq {p : ApiPos} {m : ApiMove} (hp : okPos p) (hm : okMove m) : ip_Valid p m = some (movV p m) := by
 have hr := ip_right_eq hp hm
 obtain ⟨h1,h2,h3,h4,h5⟩ := hm
 obtain ⟨d,hd⟩ := ip_point_eq hp.1 hp.2.1 h3 h4
 have z : i64P 0 := by unfold i64P; omega
 unfold ip_Valid
 rw [show ip_right (ApiPos.mk p.X p.Y p.Z) (ApiMove.mk m.Kind m.To m.Center m.Rate) = ip_right p m from rfl,hr,bindO_s]
 rw [show ip_point (ApiPos.mk p.X p.Y p.Z) m.Center = ip_point p m.Center from rfl,hd]
 simp only [bindO_s,ip_isArc,ip_apart_eq h3 z,ip_apart_eq h4 z]
 unfold movV
 by_cases e1 : (m.Kind = 1 ∧ m.Rate = 0) ∨ (m.Kind = 2 ∧ m.Rate > 0)
 ·have hb : ((m.Kind == 3) || (m.Kind == 4)) = false := by
   have h3 : ¬ (m.Kind = 3) := by omega
   have h4 : ¬ (m.Kind = 4) := by omega
   simp [h3,h4]
  rw [decide_eq_true (by rcases e1 with e | e; exact .inl e; exact .inr (.inl e)),if_neg (by simp),hb,if_neg (by simp)]
  rw [if_pos e1]
  rw [bindX_go,far_list _ (fun x hx=>?_) (by simp)]
  ·simp [far6,Bool.or_assoc]
  ·obtain ⟨p1,p2,p3⟩ := hp
   obtain ⟨t1,t2,t3⟩ := h2
   simp only [List.mem_cons,List.not_mem_nil,or_false] at hx
   rcases hx with rfl | rfl | rfl | rfl | rfl | rfl <;> assumption
 ·rw [if_neg e1]
  by_cases e2 : (m.Kind = 3 ∨ m.Kind = 4) ∧ m.Rate > 0 ∧ rad p m.Center > 0 ∧ rad p m.Center = rad m.To m.Center
  ·have hb : ((m.Kind == 3) || (m.Kind == 4)) = true := by simpa using e2.1
   rw [decide_eq_true (.inr (.inr e2)),if_neg (by simp),hb,if_pos rfl,if_pos e2]
   simp only [dst0]
   have hnn := rad_nn p m.Center
   by_cases q1 : rad p m.Center > 10000000
   ·have hf : (far6 p m.To || farP m.Center.X || farP m.Center.Y || farP (m.Center.X + rad p m.Center) || farP (m.Center.X - rad p m.Center) || farP (m.Center.Y + rad p m.Center) || farP (m.Center.Y - rad p m.Center)) = true := by
     have : farP (m.Center.X + rad p m.Center) = true ∨ farP (m.Center.X - rad p m.Center) = true := by
      unfold farP; simp only [decide_eq_true_eq]; omega
     simp only [Bool.or_eq_true]
     rcases this with q | q <;> simp [q]
    rw [decide_eq_true q1,if_pos rfl,bindO_s,if_pos rfl,if_pos hf]
    rfl
   ·rw [decide_eq_false q1,if_neg (by simp)]
    by_cases q2 : farP m.Center.X = true
    ·rw [if_pos q2,bindO_s,if_pos rfl,if_pos (by simp [q2])]
     rfl
    ·rw [if_neg q2]
     by_cases q3 : farP m.Center.Y = true
     ·rw [q3,bindO_s,if_pos rfl,if_pos (by simp)]
      rfl
     ·have q2' : farP m.Center.X = false := by simpa using q2
      have q3' : farP m.Center.Y = false := by simpa using q3
      have b1 : -10000000 ≤ m.Center.X ∧ m.Center.X ≤ 10000000 := by unfold farP at q2'; simp at q2'; omega
      have b2 : -10000000 ≤ m.Center.Y ∧ m.Center.Y ≤ 10000000 := by unfold farP at q3'; simp at q3'; omega
      rw [q3',bindO_s,if_neg (by simp)]
      rw [wrap_i64 (n := rad p m.Center) (by omega) (by omega),wrap_i64 (by omega) (by omega),wrap_i64 (by omega) (by omega),wrap_i64 (by omega) (by omega),wrap_i64 (by omega) (by omega)]
      rw [bindX_go,far_list _ (fun x hx=>?_) (by simp)]
      ·simp [far6,Bool.or_assoc,q2',q3']
      ·obtain ⟨p1,p2,p3⟩ := hp
       obtain ⟨t1,t2,t3⟩ := h2
       simp only [List.mem_cons,List.not_mem_nil,or_false] at hx
       rcases hx with rfl | rfl | rfl | rfl | rfl | rfl | rfl | rfl | rfl | rfl <;> first | assumption | (unfold i64P; omega)
  ·rw [if_neg e2,decide_eq_false (by rintro (q | q | q); exact e1 (.inl q); exact e1 (.inr q); exact e2 q)]
   rfl
theorem movV_kind {p : ApiPos} {m : ApiMove} (h : movV p m = 0) : m.Kind = 1 ∨ m.Kind = 2 ∨ m.Kind = 3 ∨ m.Kind = 4 := by
 unfold movV at h
 split at h
 ·omega
 ·split at h
  ·omega
  ·omega
def movW (p : ApiPos) (m : ApiMove) : List ApiWord :=
 [⟨71,1000 * (m.Kind - 1)⟩,⟨88,m.To.X⟩,⟨89,m.To.Y⟩,⟨90,m.To.Z⟩] ++ (if m.Kind = 3 ∨ m.Kind = 4 then [⟨73,IntKind.i64.wrap (m.Center.X - p.X)⟩,⟨74,IntKind.i64.wrap (m.Center.Y - p.Y)⟩] else []) ++ (if m.Kind = 1 then [] else [⟨70,m.Rate⟩])
def movB (p : ApiPos) (m : ApiMove) : ApiBlock × Int :=
 if movV p m ≠ 0 then (⟨false,[],[]⟩,movV p m) else if m.Rate > 1000000000000 then (⟨false,[],[]⟩,11) else (⟨false,movW p m,[]⟩,0)
theorem po_whole_eq {c n : Int} (h : -9000000 ≤ n) (h2 : n ≤ 9000000) : po_whole c n = some ⟨c,1000 * n⟩ := by
 unfold po_whole po_word
 rw [wrap_i64 (by omega) (by omega)]; rfl
theorem po_Move_eq {p : ApiPos} {m : ApiMove} (hp : okPos p) (hm : okMove m) : po_Move p m = some (movB p m) := by
 unfold po_Move movB
 rw [show ip_Valid (ApiPos.mk p.X p.Y p.Z) (ApiMove.mk m.Kind m.To m.Center m.Rate) = ip_Valid p m from rfl,ip_Valid_eq hp hm,bindO_s]
 by_cases h : movV p m = 0
 ·rw [if_neg (show ¬ (movV p m != 0) = true by simp [h]),if_neg (show ¬ movV p m ≠ 0 by simpa using h)]
  by_cases hr : m.Rate > 1000000000000
  ·rw [if_pos (show decide (m.Rate > 1000000000000) = true by simpa using hr),if_pos hr]
  ·rw [if_neg (show ¬ decide (m.Rate > 1000000000000) = true by simpa using hr),if_neg hr]
   have w0 : po_whole 71 0 = some ⟨71,0⟩ := po_whole_eq (by omega) (by omega)
   have w1 : po_whole 71 1 = some ⟨71,1000⟩ := po_whole_eq (by omega) (by omega)
   have w2 : po_whole 71 2 = some ⟨71,2000⟩ := po_whole_eq (by omega) (by omega)
   have w3 : po_whole 71 3 = some ⟨71,3000⟩ := po_whole_eq (by omega) (by omega)
   rcases movV_kind h with k | k | k | k <;> simp [movW,k,w0,w1,w2,w3,po_word,po_words,okLen_of]
 ·rw [if_pos (show (movV p m != 0) = true by simpa using h),if_pos h]
def chgB (n : Int) : List ApiBlock := [⟨false,[⟨84,1000 * n⟩,⟨77,6000⟩],[]⟩,⟨false,[⟨71,43000⟩,⟨72,1000 * n⟩],[]⟩]
def chgV (n : Int) : List ApiBlock × Int := if n < 1 ∨ n > 999 then ([],1) else (chgB n,0)
theorem po_Change_eq (n : Int) : po_Change n = some (chgV n) := by
 unfold po_Change chgV
 by_cases h : n < 1 ∨ n > 999
 ·rw [if_pos (by simpa using h),if_pos h]
 ·rw [if_neg (by simpa using h),if_neg h]
  simp only [po_whole,po_word,po_words,bindO_s]
  rw [wrap_i64 (n := 1000 * n) (by omega) (by omega)]
  rfl
set_option maxRecDepth 100000 in
theorem awake46 : l46_awake = some true := by kernel_rfl
end Go.Proofs.YtjgngikiglhleaaGreatDoor
