/-
  Va, Vb, Vc in one text.
-/
import Derived.Test.YtnnelopkjdgbgaaDoorQx
import Derived.Test.YtnnelopkjdgbgaaDoorMW
namespace Go.Proofs.YtnnelopkjdgbgaaDoor
open Go.RowKit
set_option linter.unusedVariables false
set_option linter.unusedSimpArgs false
theorem Tot.get {α : Type} {m : Option α} {x : α} (h : Tot m (fun e=>e = x)) : m = some x := by
 obtain ⟨e,h1,h2⟩ := h
 rw [h1,h2]
def cycV (c : CycleCycle) : Int :=
 if ¬ (c.Code = 83000 ∨ c.Code = 81000 ∨ c.Code = 82000) ∨ c.Z ≥ c.R ∨ c.R > c.Initial ∨ c.Rate < 1 ∨ c.Rate > 1000000000000 ∨ (c.Code = 83000 ∧ c.Q ≤ 0) then 1
 else if (c.R > 10000000 ∨ c.R < -10000000) ∨ (c.Z > 10000000 ∨ c.Z < -10000000) ∨ (c.Initial > 10000000 ∨ c.Initial < -10000000) ∨ (c.Code = 83000 ∧ (c.Q > 10000000 ∨ c.Q < -10000000)) then 11
 else if c.Code = 83000 ∧ (c.R - c.Z - 1) / c.Q > 999 then 3 else 0
theorem tdiv_ed {a b : Int} (h : 0 ≤ a) : Int.tdiv a b = a / b := Int.tdiv_eq_ediv_of_nonneg h
theorem cy_Valid_eq (c : CycleCycle) : cy_Valid c = some (cycV c) := by
 obtain ⟨code,R,Z,Q,rate,ini,high⟩ := c
 apply Tot.get
 unfold cy_Valid cycV
 dsimp only
 refine Tot.ite (fun q=>.ok ?_) (fun q=>?_)
 ·rw [if_pos]
  by_cases a : code = 83000
  ·subst a; simp at q; omega
  ·rw [if_neg (by simpa using a)] at q
   by_cases b : code = 81000
   ·subst b; simp at q; omega
   ·simp [b] at q; omega
 ·have hb : ¬ (¬ (code = 83000 ∨ code = 81000 ∨ code = 82000) ∨ Z ≥ R ∨ R > ini ∨ rate < 1 ∨ rate > 1000000000000 ∨ (code = 83000 ∧ Q ≤ 0)) := by
   by_cases a : code = 83000
   ·subst a; simp at q; omega
   ·rw [if_neg (by simpa using a)] at q
    by_cases b : code = 81000
    ·subst b; simp at q; omega
    ·simp [b] at q; omega
  rw [if_neg hb]
  refine Tot.bind (E := fun v=>v = decide ((R > 10000000 ∨ R < -10000000) ∨ (Z > 10000000 ∨ Z < -10000000) ∨ (ini > 10000000 ∨ ini < -10000000) ∨ (code = 83000 ∧ (Q > 10000000 ∨ Q < -10000000)))) ?_ (fun v hv=>?_)
  ·unfold cy_far
   simp only [bindO_s]
   refine Tot.ite (fun q1=>.ok ?_) (fun q1=>Tot.ite (fun q2=>.ok ?_) (fun q2=>Tot.ite (fun q3=>.ok ?_) (fun q3=>Tot.ite (fun q4=>.ok ?_) (fun q4=>.ok ?_))))
   ·simp at q1; rw [eq_comm,decide_eq_true_eq]; omega
   ·simp at q2; rw [eq_comm,decide_eq_true_eq]; omega
   ·simp at q3; rw [eq_comm,decide_eq_true_eq]; omega
   ·simp at q4
    subst q4
    simp at q1 q2 q3
    rw [Bool.eq_iff_iff]
    simp only [Bool.or_eq_true,decide_eq_true_eq,true_and]
    omega
   ·simp at q1 q2 q3 q4
    rw [decide_eq_false (by omega)]
  ·by_cases z : (R > 10000000 ∨ R < -10000000) ∨ (Z > 10000000 ∨ Z < -10000000) ∨ (ini > 10000000 ∨ ini < -10000000) ∨ (code = 83000 ∧ (Q > 10000000 ∨ Q < -10000000))
   ·rw [decide_eq_true z] at hv
    subst hv
    rw [if_pos rfl,if_pos z]
    exact .ok rfl
   ·rw [decide_eq_false z] at hv
    subst hv
    rw [if_neg (by simp),if_neg z]
    by_cases a : code = 83000
    ·subst a
     have hQ : 0 < Q := by omega
     rw [if_pos (by simp),wrap_i64 (n := R - Z) (by omega) (by omega),wrap_i64 (n := R - Z - 1) (by omega) (by omega),tdiv_ed (by omega)]
     have hd : 0 ≤ (R - Z - 1) / Q := Int.ediv_nonneg (by omega) (by omega)
     have hd2 : (R - Z - 1) / Q ≤ R - Z - 1 := Int.ediv_le_self _ (by omega)
     rw [wrap_i64 (by omega) (by omega),beq_eq_false_iff_ne.2 (show Q ≠ 0 by omega)]
     refine Tot.bind (E := fun v=>v = decide ((R - Z - 1) / Q > 999)) (.ok rfl) (fun v hv=>?_)
     subst hv
     by_cases y : (R - Z - 1) / Q > 999
     ·rw [decide_eq_true y,if_pos rfl,if_pos ⟨rfl,y⟩]; exact .ok rfl
     ·rw [decide_eq_false y,if_neg (by simp),if_neg (fun w=>y w.2)]; exact .ok rfl
    ·rw [if_neg (by simpa using a),if_neg (fun w=>a w.1)]
     exact .ok rfl
structure CycOk (c : CycleCycle) : Prop where
 code : c.Code = 83000 ∨ c.Code = 81000 ∨ c.Code = 82000
 zr : c.Z < c.R
 ri : c.R ≤ c.Initial
 rate : 1 ≤ c.Rate ∧ c.Rate ≤ 1000000000000
 q : c.Code = 83000 → 0 < c.Q ∧ c.Q ≤ 10000000
 r : -10000000 ≤ c.R ∧ c.R ≤ 10000000
 z : -10000000 ≤ c.Z ∧ c.Z ≤ 10000000
 i : -10000000 ≤ c.Initial ∧ c.Initial ≤ 10000000
 n : c.Code = 83000 → 0 ≤ (c.R - c.Z - 1) / c.Q ∧ (c.R - c.Z - 1) / c.Q ≤ 999
theorem cycV_ok {c : CycleCycle} (h : cycV c = 0) : CycOk c := by
 unfold cycV at h
 by_cases h1 : ¬ (c.Code = 83000 ∨ c.Code = 81000 ∨ c.Code = 82000) ∨ c.Z ≥ c.R ∨ c.R > c.Initial ∨ c.Rate < 1 ∨ c.Rate > 1000000000000 ∨ (c.Code = 83000 ∧ c.Q ≤ 0)
 ·rw [if_pos h1] at h; cases h
 rw [if_neg h1] at h
 by_cases h2 : (c.R > 10000000 ∨ c.R < -10000000) ∨ (c.Z > 10000000 ∨ c.Z < -10000000) ∨ (c.Initial > 10000000 ∨ c.Initial < -10000000) ∨ (c.Code = 83000 ∧ (c.Q > 10000000 ∨ c.Q < -10000000))
 ·rw [if_pos h2] at h; cases h
 rw [if_neg h2] at h
 by_cases h3 : c.Code = 83000 ∧ (c.R - c.Z - 1) / c.Q > 999
 ·rw [if_pos h3] at h; cases h
 refine ⟨by omega,by omega,by omega,by omega,fun a=>by omega,by omega,by omega,by omega,fun a=>⟨?_,?_⟩⟩
 ·exact Int.ediv_nonneg (by omega) (by omega)
 ·rcases Int.lt_or_le 999 ((c.R - c.Z - 1) / c.Q) with y | y
  ·exact absurd ⟨a,y⟩ h3
  ·exact y
def depN (c : CycleCycle) : Nat := if c.Code = 83000 then ((c.R - c.Z - 1) / c.Q).toNat else 0
def depL (c : CycleCycle) : List Int := (List.range (depN c)).map (fun (k : Nat)=>c.R - ((k : Int) + 1) * c.Q) ++ [c.Z]
theorem dep_iff {R Z Q : Int} (hQ : 0 < Q) (k : Nat) : (R - ((k : Int) + 1) * Q > Z) ↔ (k : Int) + 1 ≤ (R - Z - 1) / Q := by
 rw [Int.le_ediv_iff_mul_le hQ]; omega
theorem depN_le {c : CycleCycle} (h : CycOk c) : depN c ≤ 999 := by
 unfold depN
 split
 ·rename_i a
  have := h.n a; omega
 ·omega
theorem depL_len {c : CycleCycle} (h : CycOk c) : (depL c).length ≤ 1000 := by
 have := depN_le h
 unfold depL
 simp; omega
theorem mul_bd {k Q : Int} (h0 : 0 ≤ k) (h1 : k ≤ 2000) (q0 : 0 < Q) (q1 : Q ≤ 10000000) : 0 ≤ k * Q ∧ k * Q ≤ 20000000000 := by
 have h2 : k * Q ≤ 2000 * 10000000 := Int.mul_le_mul h1 q1 (by omega) (by omega)
 exact ⟨Int.mul_nonneg h0 (by omega),by omega⟩
theorem cy_Depths_eq (c : CycleCycle) : cy_Depths c = some (if cycV c = 0 then (depL c,0) else ([],cycV c)) := by
 unfold cy_Depths
 rw [cy_Valid_eq,bindO_s]
 by_cases h : cycV c = 0
 ·rw [if_pos h,h,if_neg (by simp)]
  have ok := cycV_ok h
  have hN := depN_le ok
  apply Tot.get
  refine Tot.bind (E := fun v=>v = (List.range (depN c)).map (fun (k : Nat)=>c.R - ((k : Int) + 1) * c.Q)) (Tot.ite (fun q=>?_) (fun q=>.ok ?_)) (fun v hv=>?_)
  ·have a : c.Code = 83000 := by simpa using q
   obtain ⟨q0,q1⟩ := ok.q a
   have r := ok.r
   have hdn : depN c = ((c.R - c.Z - 1) / c.Q).toNat := by unfold depN; rw [if_pos a]
   have hn := ok.n a
   refine Tot.loop (fun m (v : List Int × Int)=>∃ k : Nat,v = ((List.range k).map (fun (k : Nat)=>c.R - ((k : Int) + 1) * c.Q),c.R - ((k : Int) + 1) * c.Q) ∧ k ≤ depN c ∧ m = depN c - k) _ (depN c) (by unfold fuel; omega) ⟨0,?_,Nat.zero_le _,rfl⟩ (fun m v hr=>?_)
   ·rw [wrap_i64 (by omega) (by omega)]; simp
   ·obtain ⟨k,rfl,k1,k2⟩ := hr
    have hb := mul_bd (k := (k : Int) + 1) (by omega) (by omega) q0 q1
    have hb2 := mul_bd (k := (k : Int) + 2) (by omega) (by omega) q0 q1
    have he : ((k : Int) + 2) * c.Q = ((k : Int) + 1) * c.Q + c.Q := by
     rw [show (k : Int) + 2 = ((k : Int) + 1) + 1 by omega,Int.add_mul]; omega
    have hi := dep_iff (R := c.R) (Z := c.Z) q0 k
    dsimp only
    by_cases y : c.R - ((k : Int) + 1) * c.Q > c.Z
    ·have y2 := hi.1 y
     rw [decide_eq_true y,if_pos rfl]
     refine .guard (okLen_of (by simp; omega)) (.go ⟨depN c - (k + 1),by omega,k + 1,?_,by omega,rfl⟩)
     rw [wrap_i64 (by omega) (by omega),List.range_succ,List.map_append]
     have e : c.R - ((k : Int) + 1) * c.Q - c.Q = c.R - (((k + 1 : Nat) : Int) + 1) * c.Q := by
      rw [show ((k + 1 : Nat) : Int) + 1 = (k : Int) + 2 by omega,he]; omega
     rw [e]; rfl
    ·have y2 : ¬ ((k : Int) + 1 ≤ (c.R - c.Z - 1) / c.Q) := fun w=>y (hi.2 w)
     rw [decide_eq_false y,if_neg (by simp)]
     refine .ret ?_
     rw [show k = depN c by omega]
  ·have a : c.Code ≠ 83000 := by simpa using q
   unfold depN
   rw [if_neg a]; rfl
  ·subst hv
   refine .guard (okLen_of (by simp; omega)) (.ok rfl)
 ·rw [if_neg h,if_pos (by simpa using h)]
def goM (s : ApiPos × List ApiMove) (q : ApiPos) (r : Int) : ApiPos × List ApiMove := if q = s.1 then s else (q,s.2 ++ [ApiMove.mk (if r > 0 then 2 else 1) q (ApiGrid2.mk 0 0) r])
theorem pos_eta (p : ApiPos) : ApiPos.mk p.X p.Y p.Z = p := rfl
theorem pos_ext {p q : ApiPos} : p = q ↔ p.X = q.X ∧ p.Y = q.Y ∧ p.Z = q.Z := by
 cases p; cases q; simp
theorem goM_len (s : ApiPos × List ApiMove) (q : ApiPos) (r : Int) : (goM s q r).2.length ≤ s.2.length + 1 := by
 unfold goM; split <;> simp
theorem goM_pos (s : ApiPos × List ApiMove) (q : ApiPos) (r : Int) : (goM s q r).1 = q := by
 unfold goM; split
 ·rename_i h; exact h.symm
 ·rfl
def cycM (c : CycleCycle) (p : ApiPos) (g : ApiGrid2) : ApiPos × List ApiMove :=
 let m0 := goM (p,[]) (ApiPos.mk p.X p.Y (if p.Z < c.R then c.R else p.Z)) 0
 let m1 := goM m0 (ApiPos.mk g.X g.Y m0.1.Z) 0
 let m2 := goM m1 (ApiPos.mk g.X g.Y c.R) 0
 let m3 := (depL c).foldl (fun s z=>goM (goM s (ApiPos.mk g.X g.Y z) c.Rate) (ApiPos.mk g.X g.Y c.R) 0) m2
 if c.High = true then goM m3 (ApiPos.mk g.X g.Y c.Initial) 0 else m3
theorem own_go {p q : ApiPos} {l : List ApiMove} {k r : Int} (hk : k = if r > 0 then 2 else 1) (hl : l.length ≤ 10000000) : (if (!((q.X == p.X) && ((q.Y == p.Y) && (q.Z == p.Z)))) = true then guardO (okLen (l.length + 1)) (some (q,l ++ [ApiMove.mk k q (ApiGrid2.mk 0 0) r])) else some (p,l)) = some (goM (p,l) q r) := by
 unfold goM
 rw [okLen_of (by omega),guardO_t]
 by_cases h : q = p
 ·subst h; simp
 ·rw [if_neg (show ¬ q = (p,l).1 from h),if_pos,hk]
  rw [pos_ext] at h
  simp; omega
theorem fold_len (c : CycleCycle) (g : ApiGrid2) : ∀ (l : List Int) (s : ApiPos × List ApiMove),(l.foldl (fun s z=>goM (goM s (ApiPos.mk g.X g.Y z) c.Rate) (ApiPos.mk g.X g.Y c.R) 0) s).2.length ≤ s.2.length + 2 * l.length
 | [],s=>by simp
 | z :: l,s=>by
  rw [List.foldl_cons]
  have h1 := fold_len c g l (goM (goM s (ApiPos.mk g.X g.Y z) c.Rate) (ApiPos.mk g.X g.Y c.R) 0)
  have h2 := goM_len (goM s (ApiPos.mk g.X g.Y z) c.Rate) (ApiPos.mk g.X g.Y c.R) 0
  have h3 := goM_len s (ApiPos.mk g.X g.Y z) c.Rate
  simp only [List.length_cons]
  omega
theorem cycM_len {c : CycleCycle} (h : CycOk c) (p : ApiPos) (g : ApiGrid2) : (cycM c p g).2.length ≤ 2010 := by
 unfold cycM
 have hd := depL_len h
 dsimp only
 have a0 := goM_len (p,[]) (ApiPos.mk p.X p.Y (if p.Z < c.R then c.R else p.Z)) 0
 generalize goM (p,[]) (ApiPos.mk p.X p.Y (if p.Z < c.R then c.R else p.Z)) 0 = m0 at *
 have a1 := goM_len m0 (ApiPos.mk g.X g.Y m0.1.Z) 0
 generalize goM m0 (ApiPos.mk g.X g.Y m0.1.Z) 0 = m1 at *
 have a2 := goM_len m1 (ApiPos.mk g.X g.Y c.R) 0
 generalize goM m1 (ApiPos.mk g.X g.Y c.R) 0 = m2 at *
 have a3 := fold_len c g (depL c) m2
 generalize (depL c).foldl (fun s z=>goM (goM s (ApiPos.mk g.X g.Y z) c.Rate) (ApiPos.mk g.X g.Y c.R) 0) m2 = m3 at *
 have a4 := goM_len m3 (ApiPos.mk g.X g.Y c.Initial) 0
 simp only [List.length_nil] at a0
 split <;> omega
def far3 (p : ApiPos) (g : ApiGrid2) : Prop := (p.X > 10000000 ∨ p.X < -10000000) ∨ (p.Y > 10000000 ∨ p.Y < -10000000) ∨ (p.Z > 10000000 ∨ p.Z < -10000000) ∨ (g.X > 10000000 ∨ g.X < -10000000) ∨ (g.Y > 10000000 ∨ g.Y < -10000000)
instance (p : ApiPos) (g : ApiGrid2) : Decidable (far3 p g) := by unfold far3; infer_instance
def expV (c : CycleCycle) (p : ApiPos) (g : ApiGrid2) : List ApiMove × Int := if cycV c = 0 then (if far3 p g then ([],11) else ((cycM c p g).2,0)) else ([],cycV c)
theorem cy_far_eq (n : Int) : cy_far n = some (decide (n > 10000000 ∨ n < -10000000)) := by
 unfold cy_far
 congr 1
 by_cases a : n > 10000000 <;> by_cases b : n < -10000000 <;> simp [a,b]
theorem range_one {α ε ν : Type} {f : Nat → α → ν → Option (Ex ε ν)} {d : ν → Option ε} {x : α} {v : ν} : rangeX f d [x] 0 v = match f 0 x v with
  | some (.ret e)=>some e
  | some (.go u)=>d u
  | none=>none := by
 simp only [rangeX]
 cases f 0 x v with
 | none=>rfl
 | some e=>cases e <;> rfl
theorem cy_Expand_one (c : CycleCycle) (p : ApiPos) (g : ApiGrid2) : cy_Expand c p [g] = some (expV c p g) := by
  unfold cy_Expand expV
  rw [cy_Depths_eq,bindO_s]
  by_cases h : cycV c = 0
  · rw [if_pos h,if_pos h,if_neg (by simp)]
    have ok := cycV_ok h
    have hdl := depL_len ok
    apply Tot.get
    refine Tot.bind (E := fun v=>v = decide ((p.X > 10000000 ∨ p.X < -10000000) ∨ (p.Y > 10000000 ∨ p.Y < -10000000) ∨ (p.Z > 10000000 ∨ p.Z < -10000000))) ?_ (fun v hv=>?_)
    · rw [cy_far_eq,cy_far_eq,cy_far_eq]
      simp only [bindO_s]
      refine Tot.ite (fun q1=>.ok ?_) (fun q1=>Tot.ite (fun q2=>.ok ?_) (fun q2=>.ok ?_))
      · simp at q1; rw [eq_comm,decide_eq_true_eq]; omega
      · simp at q2; rw [eq_comm,decide_eq_true_eq]; omega
      · simp at q1 q2
        by_cases z : p.Z > 10000000 ∨ p.Z < -10000000
        · rw [decide_eq_true z,decide_eq_true (by omega)]
        · rw [decide_eq_false z,decide_eq_false (by omega)]
    · refine Tot.bind (E := fun u=>u = decide (far3 p g)) (Tot.guard rfl ?_) (fun u hu=>?_)
      · rw [range_one,hv]
        refine Tot.eq (x := decide (far3 p g)) ?_ rfl
        rw [cy_far_eq,cy_far_eq]
        by_cases a : (p.X > 10000000 ∨ p.X < -10000000) ∨ (p.Y > 10000000 ∨ p.Y < -10000000) ∨ (p.Z > 10000000 ∨ p.Z < -10000000)
        · rw [decide_eq_true a,decide_eq_true (show far3 p g by unfold far3; omega)]; rfl
        · rw [decide_eq_false a]
          by_cases b : g.X > 10000000 ∨ g.X < -10000000
          · rw [decide_eq_true b,decide_eq_true (show far3 p g by unfold far3; omega)]; rfl
          · rw [decide_eq_false b]
            by_cases d : g.Y > 10000000 ∨ g.Y < -10000000
            · rw [decide_eq_true d,decide_eq_true (show far3 p g by unfold far3; omega)]; rfl
            · rw [decide_eq_false d,decide_eq_false (show ¬ far3 p g by unfold far3; omega)]; rfl
      · subst hu
        by_cases z : far3 p g
        · rw [decide_eq_true z,if_pos rfl,if_pos z]; exact .ok rfl
        · rw [decide_eq_false z,if_neg (by simp),if_neg z]
          obtain ⟨m0,hm0⟩ : ∃ m0,goM (p,[]) (ApiPos.mk p.X p.Y (if p.Z < c.R then c.R else p.Z)) 0 = m0 := ⟨_,rfl⟩
          obtain ⟨m1,hm1⟩ : ∃ m1,goM m0 (ApiPos.mk g.X g.Y m0.1.Z) 0 = m1 := ⟨_,rfl⟩
          obtain ⟨m2,hm2⟩ : ∃ m2,goM m1 (ApiPos.mk g.X g.Y c.R) 0 = m2 := ⟨_,rfl⟩
          obtain ⟨m3,hm3⟩ : ∃ m3,(depL c).foldl (fun s z=>goM (goM s (ApiPos.mk g.X g.Y z) c.Rate) (ApiPos.mk g.X g.Y c.R) 0) m2 = m3 := ⟨_,rfl⟩
          have hcyc : cycM c p g = if c.High = true then goM m3 (ApiPos.mk g.X g.Y c.Initial) 0 else m3 := by
            unfold cycM
            dsimp only
            rw [hm0,hm1,hm2,hm3]
          have hlenM := cycM_len ok p g
          have p0 : m0.1 = ApiPos.mk p.X p.Y (if p.Z < c.R then c.R else p.Z) := by rw [← hm0]; exact goM_pos _ _ _
          have l0 : m0.2.length ≤ 1 := by rw [← hm0]; exact goM_len _ _ _
          have l1 : m1.2.length ≤ 2 := by have := goM_len m0 (ApiPos.mk g.X g.Y m0.1.Z) 0; rw [hm1] at this; omega
          have l2 : m2.2.length ≤ 3 := by have := goM_len m1 (ApiPos.mk g.X g.Y c.R) 0; rw [hm2] at this; omega
          have l3 : m3.2.length ≤ 2003 := by have := fold_len c g (depL c) m2; rw [hm3] at this; omega
          have hrate : c.Rate > 0 := by have := ok.rate; omega
          refine Tot.bindX (E := fun s=>s = cycM c p g) (TotX.of (Tot.guard rfl (Tot.range (fun i v=>v = if i = 0 then (p,[]) else cycM c p g) _ rfl (fun i x v hx hv=>?_) (fun v hv=>.ok ?_)))) (fun s hs=>.ok (by rw [hs]))
          · have hi : i = 0 := by have := getElem_lt hx; simpa using this
            subst hi
            injection hx with hx
            subst hx
            rw [if_pos rfl] at hv
            subst hv
            rw [if_neg (show ¬ (0 + 1 = 0) by omega)]
            refine TotX.bindX (E := fun s=>s = cycM c p g) ?_ (fun s hs=>.go hs)
            dsimp only
            refine TotX.bind (E := fun v=>v = (m0.1.Z,m0.2)) (Tot.ite (fun q=>?_) (fun q=>.ok ?_)) (fun v hv=>?_)
            · have q' : p.Z < c.R := by simpa using q
              have e0 : m0 = (ApiPos.mk p.X p.Y c.R,[ApiMove.mk 1 (ApiPos.mk p.X p.Y c.R) (ApiGrid2.mk 0 0) 0]) := by
                rw [← hm0,if_pos q']
                unfold goM
                rw [if_neg (by
                  show ¬ (ApiPos.mk p.X p.Y c.R = p)
                  rw [pos_ext]
                  show ¬ (p.X = p.X ∧ p.Y = p.Y ∧ c.R = p.Z)
                  omega)]
                rfl
              rw [e0]
              refine Tot.bind (E := fun v=>v = (c.R,[ApiMove.mk 1 (ApiPos.mk p.X p.Y c.R) (ApiGrid2.mk 0 0) 0])) (Tot.ite (fun _=>.guard (okLen_of (by simp)) (.ok rfl)) (fun q2=>?_)) (fun v hv=>.ok (by rw [hv]))
              simp at q2; omega
            · have q' : ¬ p.Z < c.R := by simpa using q
              have e0 : m0 = (p,[]) := by
                rw [← hm0,if_neg q']
                unfold goM
                rw [if_pos (pos_eta p)]
              rw [e0]
            · subst hv
              dsimp only
              have e0 : (ApiPos.mk p.X p.Y m0.1.Z,m0.2) = m0 := by
                have : ApiPos.mk p.X p.Y m0.1.Z = m0.1 := by rw [p0]
                rw [this]
              have g1 := own_go (p := ApiPos.mk p.X p.Y m0.1.Z) (q := ApiPos.mk g.X g.Y m0.1.Z) (l := m0.2) (k := 1) (r := 0) rfl (by omega)
              refine TotX.bind (E := fun v=>v = m1) (Tot.eq g1 (by rw [e0,hm1])) (fun v hv=>?_)
              subst hv
              have g2 := own_go (p := v.1) (q := ApiPos.mk g.X g.Y c.R) (l := v.2) (k := 1) (r := 0) rfl (by omega)
              refine TotX.bind (E := fun v=>v = m2) (Tot.eq g2 hm2) (fun v2 hv=>?_)
              subst hv
              refine TotX.bind (E := fun v=>v = m3) (Tot.guard (okIdx_of (by omega)) (Tot.range (fun i v=>v = ((depL c).take i).foldl (fun s z=>goM (goM s (ApiPos.mk g.X g.Y z) c.Rate) (ApiPos.mk g.X g.Y c.R) 0) v2 ∧ v.2.length ≤ 3 + 2 * i) _ ⟨rfl,by simpa using l2⟩ (fun i z u hx hu=>?_) (fun u hu=>.ok ?_))) (fun v3 hv=>?_)
              · obtain ⟨hu1,hu2⟩ := hu
                have hil := getElem_lt hx
                have g3 := own_go (p := u.1) (q := ApiPos.mk g.X g.Y z) (l := u.2) (k := 2) (r := c.Rate) (by rw [if_pos hrate]) (by omega)
                have lu := goM_len (u.1,u.2) (ApiPos.mk g.X g.Y z) c.Rate
                refine TotX.bind (E := fun w=>w = goM (u.1,u.2) (ApiPos.mk g.X g.Y z) c.Rate) (Tot.eq g3 rfl) (fun w hw=>?_)
                subst hw
                have g4 := own_go (p := (goM (u.1,u.2) (ApiPos.mk g.X g.Y z) c.Rate).1) (q := ApiPos.mk g.X g.Y c.R) (l := (goM (u.1,u.2) (ApiPos.mk g.X g.Y z) c.Rate).2) (k := 1) (r := 0) rfl (by
                  have : (u.1,u.2).2.length = u.2.length := rfl
                  omega)
                refine TotX.bind (E := fun w=>w = goM (goM (u.1,u.2) (ApiPos.mk g.X g.Y z) c.Rate) (ApiPos.mk g.X g.Y c.R) 0) (Tot.eq g4 rfl) (fun w hw=>.go ?_)
                subst hw
                have lw := goM_len (goM (u.1,u.2) (ApiPos.mk g.X g.Y z) c.Rate) (ApiPos.mk g.X g.Y c.R) 0
                refine ⟨?_,?_⟩
                · rw [List.take_add_one,hx,List.foldl_append,← hu1]; rfl
                · have : (u.1,u.2).2.length = u.2.length := rfl
                  show (goM (goM (u.1,u.2) (ApiPos.mk g.X g.Y z) c.Rate) (ApiPos.mk g.X g.Y c.R) 0).2.length ≤ _
                  omega
              · rw [hu.1,List.take_length,hm3]
              · subst hv
                refine TotX.bind (E := fun v=>v = cycM c p g) (Tot.ite (fun q=>?_) (fun q=>.ok ?_)) (fun v4 hv=>?_)
                · have g5 := own_go (p := v3.1) (q := ApiPos.mk g.X g.Y c.Initial) (l := v3.2) (k := 1) (r := 0) rfl (by omega)
                  refine Tot.bind (E := fun w=>w = cycM c p g) (Tot.eq g5 (by rw [hcyc,if_pos q])) (fun w hw=>.ok (by rw [hw]))
                · rw [hcyc,if_neg (by rw [q]; simp)]
                · subst hv
                  refine TotX.ite (fun q=>?_) (fun _=>.go rfl)
                  simp at q; omega
          · rw [hv]; simp
  · rw [if_neg h,if_neg h,if_pos (by simpa using h)]
theorem cy_Read_same (b : ApiBlock) (k f i : Int) (hi : Bool) (o : CycleCycle) (hl : b.Words.length ≤ 1000) : ∃ c : CycleCycle,cy_Read b k f i hi o = some (if cycV c = 0 then (c,0) else (CycleCycle.mk 0 0 0 0 0 0 false,cycV c)) ∧ c = CycleCycle.mk k (if (findW b 82).2 = true then (findW b 82).1 else o.R) (if (findW b 90).2 = true then (findW b 90).1 else o.Z) (if (findW b 81).2 = true then (findW b 81).1 else o.Q) (if (findW b 70).2 = true then (findW b 70).1 else f) i hi := by
 have hc : ∀ l d,cy_Read_c1 l d b = some (if (findW b l).2 = true then (findW b l).1 else d) := by
  intro l d
  unfold cy_Read_c1
  rw [bk_Find_eq b l hl,bindO_s]
  split <;> rfl
 refine ⟨_,?_,rfl⟩
 unfold cy_Read
 rw [hc,hc,hc,hc,bindO_s,bindO_s,bindO_s,bindO_s,cy_Valid_eq,bindO_s]
 by_cases h : cycV (CycleCycle.mk k (if (findW b 82).2 = true then (findW b 82).1 else o.R) (if (findW b 90).2 = true then (findW b 90).1 else o.Z) (if (findW b 81).2 = true then (findW b 81).1 else o.Q) (if (findW b 70).2 = true then (findW b 70).1 else f) i hi) = 0
 ·rw [if_pos h,h]; rfl
 ·rw [if_neg h,if_pos (by simpa using h)]
end Go.Proofs.YtnnelopkjdgbgaaDoor
namespace Go.Proofs.YtnnelopkjdgbgaaDoor
open Go.RowKit
set_option linter.unusedVariables false
set_option linter.unusedSimpArgs false
theorem wrap_u64 (n : Int) : IntKind.u64.wrap n = n % 18446744073709551616 := by
 simp [IntKind.wrap,IntKind.bits,IntKind.signed]
def i64P (n : Int) : Prop := -9223372036854775808 ≤ n ∧ n ≤ 9223372036854775807
def dst (a b : Int) : Int := if a < b then b - a else a - b
theorem ip_apart_eq {a b : Int} (ha : i64P a) (hb : i64P b) : ip_apart a b = some (dst a b) := by
 unfold i64P at *
 unfold ip_apart dst
 by_cases h : a < b
 ·simp only [h,decide_true,if_true,bindO_s,wrap_u64]; congr 1; omega
 ·simp only [h,decide_false,if_false,bindO_s,wrap_u64,Bool.false_eq_true]; congr 1; omega
def rad (p : ApiPos) (c : ApiGrid2) : Int := if p.Y = c.Y then dst p.X c.X else if p.X = c.X then dst p.Y c.Y else 0
theorem ip_point_eq {p : ApiPos} {c : ApiGrid2} (h1 : i64P p.X) (h2 : i64P p.Y) (h3 : i64P c.X) (h4 : i64P c.Y) : ∃ d,ip_point p c = some (d,rad p c) := by
 unfold ip_point rad
 simp only [ip_apart_eq h1 h3,ip_apart_eq h2 h4,bindO_s]
 by_cases e1 : p.Y = c.Y <;> by_cases e2 : p.X = c.X <;> rcases Int.lt_trichotomy p.X c.X with q | q | q <;> rcases Int.lt_trichotomy p.Y c.Y with r | r | r <;> first | (exfalso; omega) | (simp [e1,e2,q,r,dst]; done) | (simp [e1,e2,q,r,dst]; split <;> exact ⟨_,rfl⟩) | (simp [e1,e2,q,r,dst]; repeat (first | exact ⟨_,rfl⟩ | split))
def farP (n : Int) : Bool := decide (n > 10000000 ∨ n < -10000000)
theorem dst0 (n : Int) : decide (dst n 0 > 10000000) = farP n := by
 unfold farP dst
 apply decide_eq_decide.2
 split <;> omega
def far6 (p q : ApiPos) : Bool := farP p.X || farP p.Y || farP p.Z || farP q.X || farP q.Y || farP q.Z
def movV (p : ApiPos) (m : ApiMove) : Int :=
 if (m.Kind = 1 ∧ m.Rate = 0) ∨ (m.Kind = 2 ∧ m.Rate > 0) then (if far6 p m.To = true then 11 else 0)
 else if (m.Kind = 3 ∨ m.Kind = 4) ∧ m.Rate > 0 ∧ rad p m.Center > 0 ∧ rad p m.Center = rad m.To m.Center then
  (if (far6 p m.To || farP m.Center.X || farP m.Center.Y || farP (m.Center.X + rad p m.Center) || farP (m.Center.X - rad p m.Center) || farP (m.Center.Y + rad p m.Center) || farP (m.Center.Y - rad p m.Center)) = true then 11 else 0)
 else 1
def okPos (p : ApiPos) : Prop := i64P p.X ∧ i64P p.Y ∧ i64P p.Z
def okMove (m : ApiMove) : Prop := i64P m.Kind ∧ okPos m.To ∧ i64P m.Center.X ∧ i64P m.Center.Y ∧ i64P m.Rate
def apU (a b : Int) : Int := if a < b then IntKind.u64.wrap (IntKind.u64.wrap b - IntKind.u64.wrap a) else IntKind.u64.wrap (IntKind.u64.wrap a - IntKind.u64.wrap b)
theorem ip_apart_u (a b : Int) : ip_apart a b = some (apU a b) := by
 unfold ip_apart apU
 by_cases h : a < b <;> simp [h]
theorem apU_eq {a b : Int} (ha : i64P a) (hb : i64P b) : apU a b = dst a b := by
 have h1 := ip_apart_u a b
 rw [ip_apart_eq ha hb] at h1
 injection h1 with h1
 exact h1.symm
theorem any_congr' {α : Type} {p q : α → Bool} : ∀ {l : List α},(∀ x ∈ l,p x = q x) → l.any p = l.any q
 | [],_=>rfl
 | x :: l,h=>by rw [List.any_cons,List.any_cons,h x (by simp),any_congr' fun y hy=>h y (by simp [hy])]
theorem bindX_go {ε ν : Type} {f : ν → Option ε} {v : ν} : bindX (some (.go v)) f = f v := rfl
theorem far_list (l : List Int) (hl : ∀ x ∈ l,i64P x) (hs : l.length ≤ 100) :
  bindX (guardO (okIdx l) (rangeX (fun (i : Nat) (e : Int) (v : Unit)=>bindO (ip_apart e 0) fun (y : Int)=>if (decide (y > 10000000)) = true then some (.ret (.ret 11)) else some (.go ())) (fun (v : Unit)=>some (.go ())) l 0 ())) (fun (v : Unit)=>some (0 : Int)) = some (if l.any farP = true then 11 else 0) := by
 have h := range_any (r := (11 : Int)) (p := fun e=>decide (apU e 0 > 10000000)) (f := fun (i : Nat) (e : Int) (v : Unit)=>bindO (ip_apart e 0) fun (y : Int)=>if (decide (y > 10000000)) = true then some (.ret (.ret 11)) else some (.go ())) l 0 (fun i x=>by rw [ip_apart_u,bindO_s])
 rw [okIdx_of (by omega),guardO_t,h,any_congr' (q := farP) (fun x hx=>by rw [apU_eq (hl x hx) (by unfold i64P; omega),dst0])]
 cases l.any farP <;> rfl
theorem ip_right_eq {p : ApiPos} {m : ApiMove} (hp : okPos p) (hm : okMove m) : ip_right p m = some (decide ((m.Kind = 1 ∧ m.Rate = 0) ∨ (m.Kind = 2 ∧ m.Rate > 0) ∨ ((m.Kind = 3 ∨ m.Kind = 4) ∧ m.Rate > 0 ∧ rad p m.Center > 0 ∧ rad p m.Center = rad m.To m.Center))) := by
 obtain ⟨h1,h2,h3,h4,h5⟩ := hm
 obtain ⟨d,hd⟩ := ip_point_eq hp.1 hp.2.1 h3 h4
 obtain ⟨d',hd'⟩ := ip_point_eq h2.1 h2.2.1 h3 h4
 unfold ip_right ip_isArc
 by_cases e1 : m.Kind = 1
 ·by_cases q : m.Rate = 0 <;> simp [e1,q]
 ·by_cases e2 : m.Kind = 2
  ·by_cases q : m.Rate > 0 <;> simp [e2,q]
  ·by_cases e3 : m.Kind = 3 ∨ m.Kind = 4
   ·have hb : ((m.Kind == 3) || (m.Kind == 4)) = true := by simpa using e3
    by_cases q : m.Rate > 0 <;> by_cases q2 : rad p m.Center > 0 <;> by_cases q3 : rad p m.Center = rad m.To m.Center <;> simp [e1,e2,e3,hb,hd,hd',q,q2,q3] <;> first | done | (simp_all; done) | (simp_all; by_cases w : 0 < rad m.To m.Center <;> simp [w])
   ·have hb : ((m.Kind == 3) || (m.Kind == 4)) = false := by
     rw [not_or] at e3
     simp [e3]
    simp [e1,e2,e3,hb,hd,hd']
theorem rad_nn (p : ApiPos) (c : ApiGrid2) : 0 ≤ rad p c := by
 unfold rad dst; split <;> (try split) <;> (try split) <;> omega
theorem ip_Valid_eq {p : ApiPos} {m : ApiMove} (hp : okPos p) (hm : okMove m) : ip_Valid p m = some (movV p m) := by
 have hr := ip_right_eq hp hm
 obtain ⟨h1,h2,h3,h4,h5⟩ := hm
 obtain ⟨d,hd⟩ := ip_point_eq hp.1 hp.2.1 h3 h4
 have z : i64P 0 := by unfold i64P; omega
 unfold ip_Valid
 rw [show ip_right (ApiPos.mk p.X p.Y p.Z) (ApiMove.mk m.Kind m.To m.Center m.Rate) = ip_right p m from rfl,hr,bindO_s]
 rw [show ip_point (ApiPos.mk p.X p.Y p.Z) m.Center = ip_point p m.Center from rfl,hd]
 simp only [bindO_s,ip_isArc,ip_apart_eq h3 z,ip_apart_eq h4 z]
 unfold movV
 by_cases e1 : (m.Kind = 1 ∧ m.Rate = 0) ∨ (m.Kind = 2 ∧ m.Rate > 0)
 ·have hb : ((m.Kind == 3) || (m.Kind == 4)) = false := by
   have h3 : ¬ (m.Kind = 3) := by omega
   have h4 : ¬ (m.Kind = 4) := by omega
   simp [h3,h4]
  rw [decide_eq_true (by rcases e1 with e | e; exact .inl e; exact .inr (.inl e)),if_neg (by simp),hb,if_neg (by simp)]
  rw [if_pos e1]
  rw [bindX_go,far_list _ (fun x hx=>?_) (by simp)]
  ·simp [far6,Bool.or_assoc]
  ·obtain ⟨p1,p2,p3⟩ := hp
   obtain ⟨t1,t2,t3⟩ := h2
   simp only [List.mem_cons,List.not_mem_nil,or_false] at hx
   rcases hx with rfl | rfl | rfl | rfl | rfl | rfl <;> assumption
 ·rw [if_neg e1]
  by_cases e2 : (m.Kind = 3 ∨ m.Kind = 4) ∧ m.Rate > 0 ∧ rad p m.Center > 0 ∧ rad p m.Center = rad m.To m.Center
  ·have hb : ((m.Kind == 3) || (m.Kind == 4)) = true := by simpa using e2.1
   rw [decide_eq_true (.inr (.inr e2)),if_neg (by simp),hb,if_pos rfl,if_pos e2]
   simp only [dst0]
   have hnn := rad_nn p m.Center
   by_cases q1 : rad p m.Center > 10000000
   ·have hf : (far6 p m.To || farP m.Center.X || farP m.Center.Y || farP (m.Center.X + rad p m.Center) || farP (m.Center.X - rad p m.Center) || farP (m.Center.Y + rad p m.Center) || farP (m.Center.Y - rad p m.Center)) = true := by
     have : farP (m.Center.X + rad p m.Center) = true ∨ farP (m.Center.X - rad p m.Center) = true := by
      unfold farP; simp only [decide_eq_true_eq]; omega
     simp only [Bool.or_eq_true]
     rcases this with q | q <;> simp [q]
    rw [decide_eq_true q1,if_pos rfl,bindO_s,if_pos rfl,if_pos hf]
    rfl
   ·rw [decide_eq_false q1,if_neg (by simp)]
    by_cases q2 : farP m.Center.X = true
    ·rw [if_pos q2,bindO_s,if_pos rfl,if_pos (by simp [q2])]
     rfl
    ·rw [if_neg q2]
     by_cases q3 : farP m.Center.Y = true
     ·rw [q3,bindO_s,if_pos rfl,if_pos (by simp)]
      rfl
     ·have q2' : farP m.Center.X = false := by simpa using q2
      have q3' : farP m.Center.Y = false := by simpa using q3
      have b1 : -10000000 ≤ m.Center.X ∧ m.Center.X ≤ 10000000 := by unfold farP at q2'; simp at q2'; omega
      have b2 : -10000000 ≤ m.Center.Y ∧ m.Center.Y ≤ 10000000 := by unfold farP at q3'; simp at q3'; omega
      rw [q3',bindO_s,if_neg (by simp)]
      rw [wrap_i64 (n := rad p m.Center) (by omega) (by omega),wrap_i64 (by omega) (by omega),wrap_i64 (by omega) (by omega),wrap_i64 (by omega) (by omega),wrap_i64 (by omega) (by omega)]
      rw [bindX_go,far_list _ (fun x hx=>?_) (by simp)]
      ·simp [far6,Bool.or_assoc,q2',q3']
      ·obtain ⟨p1,p2,p3⟩ := hp
       obtain ⟨t1,t2,t3⟩ := h2
       simp only [List.mem_cons,List.not_mem_nil,or_false] at hx
       rcases hx with rfl | rfl | rfl | rfl | rfl | rfl | rfl | rfl | rfl | rfl <;> first | assumption | (unfold i64P; omega)
  ·rw [if_neg e2,decide_eq_false (by rintro (q | q | q); exact e1 (.inl q); exact e1 (.inr q); exact e2 q)]
   rfl
theorem far_bd {n : Int} (h : farP n = false) : -10000000 ≤ n ∧ n ≤ 10000000 := by unfold farP at h; simp at h; omega
end Go.Proofs.YtnnelopkjdgbgaaDoor
namespace Go.Proofs.YtnnelopkjdgbgaaDoor
open Go.RowKit
set_option linter.unusedVariables false
set_option linter.unusedSimpArgs false
def IsCh (r n : Int) : Prop := 1 ≤ n ∧ r ≤ 10 * (n * n) ∧ 10 * ((n - 1) * (n - 1)) < r
theorem sq_mono {a b : Int} (h0 : 0 ≤ a) (h : a ≤ b) : a * a ≤ b * b := Int.mul_le_mul h h h0 (by omega)
theorem IsCh.unique {r n m : Int} (hn : IsCh r n) (hm : IsCh r m) : n = m := by
 obtain ⟨a1,a2,a3⟩ := hn
 obtain ⟨b1,b2,b3⟩ := hm
 rcases Int.lt_trichotomy n m with h | h | h
 ·have := sq_mono (a := n) (b := m - 1) (by omega) (by omega); omega
 ·exact h
 ·have := sq_mono (a := m) (b := n - 1) (by omega) (by omega); omega
def chordsFrom (r : Int) : Nat → Int → Int
 | 0,n=>n
 | f + 1,n=>if 10 * (n * n) < r then chordsFrom r f (n + 1) else n
theorem chordsFrom_is (r : Int) : ∀ (f : Nat) (n : Int),1 ≤ n → 10 * ((n - 1) * (n - 1)) < r → r ≤ 10 * ((n + f) * (n + f)) → IsCh r (chordsFrom r f n) := by
 intro f
 induction f with
 | zero=>intro n h1 h2 h3; show IsCh r n; exact ⟨h1,by simpa using h3,h2⟩
 | succ f ih =>
  intro n h1 h2 h3
  unfold chordsFrom
  split
  ·rename_i h
   exact ih (n + 1) (by omega) (by rw [show n + 1 - 1 = n from by omega]; omega) (by rw [show n + 1 + (f : Int) = n + ((f + 1 : Nat) : Int) from by omega]; exact h3)
  ·exact ⟨h1,by omega,h2⟩
def chordsM (r : Int) : Int := if r ≤ 0 then 0 else chordsFrom r r.toNat 1
theorem chordsM_is {r : Int} (h : 0 < r) : IsCh r (chordsM r) := by
 unfold chordsM
 rw [if_neg (by omega)]
 refine chordsFrom_is r _ 1 (by omega) (by simpa using h) ?_
 have e : (1 : Int) + (r.toNat : Int) = 1 + r := by omega
 rw [e]
 have := Int.mul_le_mul (a := 1) (b := r) (c := 1 + r) (d := 1 + r) (by omega) (by omega) (by omega) (by omega)
 have h2 : (1 + r) * (1 + r) = 1 + r + r * (1 + r) := by rw [Int.add_mul,Int.one_mul]
 omega
theorem chordsM_eq {r n : Int} (h : IsCh r n) : chordsM r = n := by
 have hr : 0 < r := by
  have := h.2.2
  have h2 : 0 ≤ (n - 1) * (n - 1) := Int.mul_nonneg (by have := h.1; omega) (by have := h.1; omega)
  omega
 exact (chordsM_is hr).unique h
theorem IsCh.le {r n b : Int} (h : IsCh r n) (hb : 0 ≤ b) (hr : r ≤ 10 * (b * b)) : n ≤ b := by
 rcases Int.lt_or_le b n with h1 | h1
 ·have := sq_mono (a := b) (b := n - 1) hb (by omega)
  have := h.2.2
  omega
 ·exact h1
def rot : Nat → Int → Int → Int × Int
 | 0,x,y=>(x,y)
 | n + 1,x,y=>(-(rot n x y).2,(rot n x y).1)
theorem rot_bd (b : Int) (n : Nat) (x y : Int) (hx : -b ≤ x ∧ x ≤ b) (hy : -b ≤ y ∧ y ≤ b) : (-b ≤ (rot n x y).1 ∧ (rot n x y).1 ≤ b) ∧ (-b ≤ (rot n x y).2 ∧ (rot n x y).2 ≤ b) := by
 induction n with
 | zero=>exact ⟨hx,hy⟩
 | succ n ih=>simp only [rot]; omega
theorem rot4 (n : Nat) (x y : Int) : rot (n + 4) x y = rot n x y := by simp [rot]
theorem rot_add4 (n k : Nat) (x y : Int) : rot (n + 4 * k) x y = rot n x y := by
 induction k with
 | zero=>rfl
 | succ k ih=>rw [show n + 4 * (k + 1) = (n + 4 * k) + 4 from by omega,rot4,ih]
theorem rot_mod (n : Nat) (x y : Int) : rot (n % 4) x y = rot n x y := by
 have := rot_add4 (n % 4) (n / 4) x y
 rw [show n % 4 + 4 * (n / 4) = n from by omega] at this
 exact this.symm
theorem floor_neg {a b : Int} (hb : 0 < b) (h : a.tmod b < 0) : a.tdiv b - 1 = a / b := by
 rw [Int.tdiv_eq_ediv]
 rw [Int.tmod_eq_emod] at h
 have h3 := Int.emod_nonneg a (show b ≠ 0 by omega)
 have h6 : b.sign = 1 := Int.sign_eq_one_of_pos hb
 split at h
 ·omega
 ·rename_i hn
  rw [if_neg hn,h6]
  omega
theorem floor_pos {a b : Int} (hb : 0 < b) (h : ¬ a.tmod b < 0) : a.tdiv b = a / b := by
 rw [Int.tdiv_eq_ediv]
 rw [Int.tmod_eq_emod] at h
 have h4 := Int.emod_lt_of_pos a hb
 split at h
 ·rename_i hn
  rw [if_pos hn]
  omega
 ·omega
theorem ediv_bd {a b c : Int} (hb : 0 < b) (hc : 0 ≤ c) (h1 : -c ≤ a) (h2 : a ≤ c) : -c ≤ a / b ∧ a / b ≤ c := by
 have hm := Int.mul_le_mul_of_nonneg_left (show 1 ≤ b by omega) hc
 constructor
 ·refine Int.le_ediv_of_mul_le hb ?_
  rw [Int.neg_mul]; omega
 ·have : a / b < c + 1 := Int.ediv_lt_of_lt_mul hb (by rw [Int.add_mul]; omega)
  omega
def chordX (r n k : Int) : Int := r * (n * n - k * k) / (n * n + k * k)
def chordY (r n k : Int) : Int := 2 * r * k * n / (n * n + k * k)
def arcXY (kind : Int) (first q : Nat) (x y : Int) : Int × Int := if kind = 3 then rot (first + 4 - q) x (-y) else rot (first + q) x y
theorem chord_facts {R n K : Int} (h1 : 0 < R) (h2 : R ≤ 10000000) (h3 : n ≤ 1000) (h4 : 1 ≤ K) (h5 : K ≤ n) :
  IntKind.i64.wrap (n * n) = n * n ∧ IntKind.i64.wrap (K * K) = K * K ∧ IntKind.i64.wrap (n * n - K * K) = n * n - K * K ∧ IntKind.i64.wrap (R * (n * n - K * K)) = R * (n * n - K * K) ∧ IntKind.i64.wrap (n * n + K * K) = n * n + K * K ∧
  IntKind.i64.wrap ((R * (n * n - K * K)).tdiv (n * n + K * K)) = chordX R n K ∧ IntKind.i64.wrap (2 * R) = 2 * R ∧ IntKind.i64.wrap (2 * R * K) = 2 * R * K ∧ IntKind.i64.wrap (2 * R * K * n) = 2 * R * K * n ∧ IntKind.i64.wrap ((2 * R * K * n).tdiv (n * n + K * K)) = chordY R n K ∧
  ¬ n * n + K * K = 0 ∧ (0 ≤ chordX R n K ∧ chordX R n K ≤ R) ∧ (0 ≤ chordY R n K ∧ chordY R n K ≤ R) := by
 have a1 : n * n ≤ 1000 * 1000 := sq_mono (by omega) h3
 have a2 : 1 * 1 ≤ K * K := sq_mono (by omega) h4
 have a3 : K * K ≤ n * n := sq_mono (by omega) h5
 have a4 : 0 ≤ R * (n * n - K * K) := Int.mul_nonneg (by omega) (by omega)
 have a5 : R * (n * n - K * K) ≤ R * (n * n + K * K) := Int.mul_le_mul_of_nonneg_left (by omega) (by omega)
 have a6 : R * (n * n + K * K) ≤ 10000000 * 2000000 := Int.mul_le_mul h2 (by omega) (by omega) (by omega)
 have b1 : R * K ≤ 10000000 * 1000 := Int.mul_le_mul h2 (by omega) (by omega) (by omega)
 have b2 : 0 ≤ R * K := Int.mul_nonneg (by omega) (by omega)
 have b3 : R * K * n ≤ 10000000000 * 1000 := Int.mul_le_mul b1 h3 (by omega) (by omega)
 have b4 : 0 ≤ R * K * n := Int.mul_nonneg b2 (by omega)
 have c1 : 2 * R * K = 2 * (R * K) := Int.mul_assoc _ _ _
 have c2 : 2 * R * K * n = 2 * (R * K * n) := by rw [c1,Int.mul_assoc]
 have d1 : 2 * (K * n) ≤ n * n + K * K := by
  have e := Int.mul_nonneg (show 0 ≤ n - K by omega) (show 0 ≤ n - K by omega)
  have e2 : (n - K) * (n - K) = n * n - 2 * (K * n) + K * K := by
   rw [Int.sub_mul,Int.mul_sub,Int.mul_sub,Int.mul_comm n K]; omega
  omega
 have d2 : 2 * R * K * n ≤ R * (n * n + K * K) := by
  have e := Int.mul_le_mul_of_nonneg_left d1 (show 0 ≤ R by omega)
  have e3 : R * (2 * (K * n)) = 2 * R * K * n := by
   rw [c2,Int.mul_assoc R K n,← Int.mul_assoc R 2,Int.mul_comm R 2,Int.mul_assoc]
  omega
 have x1 : 0 ≤ chordX R n K := Int.ediv_nonneg a4 (by omega)
 have x2 : chordX R n K ≤ R := by
  have : chordX R n K < R + 1 := Int.ediv_lt_of_lt_mul (by omega) (by rw [Int.add_mul]; omega)
  omega
 have y1 : 0 ≤ chordY R n K := Int.ediv_nonneg (by omega) (by omega)
 have y2 : chordY R n K ≤ R := by
  have : chordY R n K < R + 1 := Int.ediv_lt_of_lt_mul (by omega) (by rw [Int.add_mul]; omega)
  omega
 refine ⟨IntWalk.i64_in _ (by omega),IntWalk.i64_in _ (by omega),IntWalk.i64_in _ (by omega),IntWalk.i64_in _ (by omega),IntWalk.i64_in _ (by omega),?_,IntWalk.i64_in _ (by omega),IntWalk.i64_in _ (by omega),IntWalk.i64_in _ (by omega),?_,by omega,⟨x1,x2⟩,⟨y1,y2⟩⟩
 ·rw [Int.tdiv_eq_ediv_of_nonneg a4]; exact IntWalk.i64_in _ (by unfold chordX at x1 x2; omega)
 ·rw [Int.tdiv_eq_ediv_of_nonneg (by omega)]; exact IntWalk.i64_in _ (by unfold chordY at y1 y2; omega)
theorem arcXY_bd (R k : Int) (f q : Nat) {x y : Int} (hx : 0 ≤ x ∧ x ≤ R) (hy : 0 ≤ y ∧ y ≤ R) : (-R ≤ (arcXY k f q x y).1 ∧ (arcXY k f q x y).1 ≤ R) ∧ (-R ≤ (arcXY k f q x y).2 ∧ (arcXY k f q x y).2 ≤ R) := by
 unfold arcXY
 split
 ·exact rot_bd R _ _ _ (by omega) (by omega)
 ·exact rot_bd R _ _ _ (by omega) (by omega)
theorem take_map_range {α : Type} (g : Nat → α) (T m : Nat) (h : m < T) : ((List.range T).map g).take (m + 1) = ((List.range T).map g).take m ++ [g m] := by
 rw [List.take_succ_eq_append_getElem (by simpa using h)]; simp
def qd (p : ApiPos) (c : ApiGrid2) : Nat := if p.Y = c.Y ∧ p.X > c.X then 0 else if p.X = c.X ∧ p.Y > c.Y then 1 else if p.Y = c.Y ∧ p.X < c.X then 2 else if p.X = c.X ∧ p.Y < c.Y then 3 else 0
theorem qd_le (p : ApiPos) (c : ApiGrid2) : qd p c ≤ 3 := by
 unfold qd; repeat' split
 all_goals omega
theorem ip_point_exact {p : ApiPos} {c : ApiGrid2} (h1 : i64P p.X) (h2 : i64P p.Y) (h3 : i64P c.X) (h4 : i64P c.Y) : ip_point p c = some ((qd p c : Int),rad p c) := by
 have e1 := ip_apart_eq h1 h3
 have e2 := ip_apart_eq h2 h4
 unfold ip_point
 rw [e1,e2]
 unfold qd rad dst
 by_cases x1 : p.X = c.X <;> by_cases x2 : p.X > c.X <;> by_cases x3 : p.X < c.X <;> by_cases y1 : p.Y = c.Y <;> by_cases y2 : p.Y > c.Y <;> by_cases y3 : p.Y < c.Y <;> first | (exfalso; omega) | simp [x1,x2,x3,y1,y2,y3]
def qtr (k : Int) (a b : Nat) : Nat := if k = 3 then (if a ≤ b then a + 4 - b else a - b) else (if b ≤ a then b + 4 - a else b - a)
theorem qtr_bd {k : Int} {a b : Nat} (ha : a ≤ 3) (hb : b ≤ 3) : 1 ≤ qtr k a b ∧ qtr k a b ≤ 4 := by
 unfold qtr; repeat' split
 all_goals omega
structure ArcOk (p : ApiPos) (m : ApiMove) : Prop where
 kind : m.Kind = 3 ∨ m.Kind = 4
 p1 : -10000000 ≤ p.X ∧ p.X ≤ 10000000
 p2 : -10000000 ≤ p.Y ∧ p.Y ≤ 10000000
 p3 : -10000000 ≤ p.Z ∧ p.Z ≤ 10000000
 t1 : -10000000 ≤ m.To.X ∧ m.To.X ≤ 10000000
 t2 : -10000000 ≤ m.To.Y ∧ m.To.Y ≤ 10000000
 t3 : -10000000 ≤ m.To.Z ∧ m.To.Z ≤ 10000000
 c1 : -10000000 ≤ m.Center.X ∧ m.Center.X ≤ 10000000
 c2 : -10000000 ≤ m.Center.Y ∧ m.Center.Y ≤ 10000000
 r0 : 0 < rad p m.Center
 r1 : rad p m.Center = rad m.To m.Center
 x1 : -10000000 ≤ m.Center.X - rad p m.Center ∧ m.Center.X + rad p m.Center ≤ 10000000
 y1 : -10000000 ≤ m.Center.Y - rad p m.Center ∧ m.Center.Y + rad p m.Center ≤ 10000000
theorem ArcOk.rad_le {p : ApiPos} {m : ApiMove} (h : ArcOk p m) : rad p m.Center ≤ 10000000 := by
 have := h.x1; omega
theorem i64_of {n : Int} (h : -10000000 ≤ n ∧ n ≤ 10000000) : i64P n := by unfold i64P; omega
theorem ip_Quarters_eq {p : ApiPos} {m : ApiMove} (h : ArcOk p m) (hp : okPos p) (hm : okMove m) (hv : movV p m = 0) : ip_Quarters p m = some ((qtr m.Kind (qd p m.Center) (qd m.To m.Center) : Int),0) := by
 unfold ip_Quarters ip_isArc
 have hk : ((m.Kind == 3) || (m.Kind == 4)) = true := by simpa using h.kind
 rw [hk,bindO_s,if_neg (by simp)]
 show bindO (ip_Valid p m) _ = _
 rw [ip_Valid_eq hp hm,hv,bindO_s,if_neg (by simp),ip_point_exact (i64_of h.p1) (i64_of h.p2) (i64_of h.c1) (i64_of h.c2),bindO_s,ip_point_exact (i64_of h.t1) (i64_of h.t2) (i64_of h.c1) (i64_of h.c2),bindO_s]
 have ha := qd_le p m.Center
 have hb := qd_le m.To m.Center
 generalize qd p m.Center = a at *
 generalize qd m.To m.Center = b at *
 dsimp only
 have ha' : a = 0 ∨ a = 1 ∨ a = 2 ∨ a = 3 := by omega
 have hb' : b = 0 ∨ b = 1 ∨ b = 2 ∨ b = 3 := by omega
 rcases h.kind with k | k <;> rw [k] <;> rcases ha' with rfl | rfl | rfl | rfl <;> rcases hb' with rfl | rfl | rfl | rfl <;> decide
theorem ip_Chords_eq {r : Int} (h0 : 0 < r) (h1 : r ≤ 10000000) : ip_Chords r = some (chordsM r) := by
 apply Tot.get
 unfold ip_Chords
 rw [wrap_i64 (n := r - 1) (by omega) (by omega),tdiv_ed (by omega),wrap_i64 (n := (r - 1) / 10) (by omega) (by omega),wrap_i64 (n := (r - 1) / 10 + 1) (by omega) (by omega)]
 obtain ⟨need,hneed⟩ : ∃ need,(r - 1) / 10 + 1 = need := ⟨_,rfl⟩
 rw [hneed]
 refine Tot.ite (fun q=>absurd q (by simp; omega)) (fun _=>?_)
 refine Tot.bind (E := fun x=>x = chordsM r) (Tot.loop (fun k (v : Int × Int)=>1 ≤ v.1 ∧ v.1 ≤ v.2 ∧ v.2 ≤ 1073741824 ∧ (v.1 - 1) * (v.1 - 1) < need ∧ need ≤ v.2 * v.2 ∧ k = (v.2 - v.1).toNat) _ 1073741823 (by unfold fuel; omega) ⟨by omega,by omega,by omega,(by show (0 : Int) < need; omega),(by show need ≤ 1152921504606846976; omega),rfl⟩ (fun k v hr=>?_)) (fun x hx=>.ok hx)
 obtain ⟨lo,hi⟩ := v
 obtain ⟨a1,a2,a3,a4,a5,a6⟩ := hr
 dsimp only at *
 by_cases z : lo < hi
 ·rw [decide_eq_true z,if_pos rfl,wrap_i64 (n := lo + hi) (by omega) (by omega),tdiv_ed (by omega),wrap_i64 (n := (lo + hi) / 2) (by omega) (by omega)]
  obtain ⟨n,hn⟩ : ∃ n,(lo + hi) / 2 = n := ⟨_,rfl⟩
  rw [hn]
  have n1 : lo ≤ n := by omega
  have n2 : n < hi := by omega
  have sq := sq_mono (a := n) (b := 1073741824) (by omega) (by omega)
  have sq0 : 0 ≤ n * n := Int.mul_nonneg (by omega) (by omega)
  rw [wrap_i64 (n := n * n) (by omega) (by omega)]
  by_cases y : n * n ≥ need
  ·rw [decide_eq_true y,if_pos rfl]
   exact .go ⟨(n - lo).toNat,by omega,a1,n1,by omega,a4,y,rfl⟩
  ·rw [decide_eq_false y,if_neg (by simp),wrap_i64 (n := n + 1) (by omega) (by omega)]
   exact .go ⟨(hi - (n + 1)).toNat,by omega,(by show (1 : Int) ≤ n + 1; omega),(by show n + 1 ≤ hi; omega),a3,(by show (n + 1 - 1) * (n + 1 - 1) < need; rw [show n + 1 - 1 = n by omega]; omega),a5,rfl⟩
 ·rw [decide_eq_false z,if_neg (by simp)]
  have e : lo = hi := by omega
  subst e
  refine .ret (chordsM_eq ⟨a1,by omega,by omega⟩).symm
theorem andI3 (q : Nat) (h : q ≤ 11) : andI .i64 (q : Int) 3 = ((q % 4 : Nat) : Int) := by
 have : q = 0 ∨ q = 1 ∨ q = 2 ∨ q = 3 ∨ q = 4 ∨ q = 5 ∨ q = 6 ∨ q = 7 ∨ q = 8 ∨ q = 9 ∨ q = 10 ∨ q = 11 := by omega
 rcases this with rfl | rfl | rfl | rfl | rfl | rfl | rfl | rfl | rfl | rfl | rfl | rfl <;> decide
theorem ip_turned_eq {x y : Int} {q : Nat} (hx : -100000000 ≤ x ∧ x ≤ 100000000) (hy : -100000000 ≤ y ∧ y ≤ 100000000) (hq : q ≤ 11) : ip_turned x y (q : Int) = some (rot q x y) := by
 apply Tot.get
 unfold ip_turned
 rw [andI3 q hq,← rot_mod q]
 have hm : q % 4 < 4 := Nat.mod_lt _ (by omega)
 generalize q % 4 = n at *
 refine Tot.bind (E := fun v=>v = rot n x y) (Tot.loop (fun k (v : Int × Int × Int)=>∃ j : Nat,v = ((rot j x y).1,(rot j x y).2,(j : Int)) ∧ j ≤ n ∧ k = n - j) _ n (by unfold fuel; omega) ⟨0,rfl,Nat.zero_le _,rfl⟩ (fun k v hr=>?_)) (fun v hv=>.ok (by rw [hv]))
 obtain ⟨j,rfl,j1,j2⟩ := hr
 have hb := rot_bd 100000000 j x y hx hy
 dsimp only
 by_cases z : j < n
 ·rw [decide_eq_true (show (j : Int) < (n : Int) by omega),if_pos rfl,wrap_i64 (by omega) (by omega),wrap_i64 (by omega) (by omega)]
  refine .go ⟨n - (j + 1),by omega,j + 1,?_,by omega,rfl⟩
  rw [Int.zero_sub]; rfl
 ·rw [decide_eq_false (show ¬ (j : Int) < (n : Int) by omega),if_neg (by simp),show j = n by omega]
  exact .ret rfl
theorem ip_floor_eq {a b : Int} (ha : -1000000000000000000 ≤ a ∧ a ≤ 1000000000000000000) (hb : 0 < b ∧ b ≤ 1000000000) : ip_floor a b = some (a / b) := by
 have hd := ediv_bd (c := 1000000000000000000) hb.1 (by omega) ha.1 ha.2
 apply Tot.get
 unfold ip_floor
 have h0 : (!(b == 0)) = true := by simp; omega
 refine Tot.guard h0 (Tot.guard h0 (Tot.bind (E := fun v=>v = a / b) (Tot.ite (fun q=>.ok ?_) (fun q=>.ok ?_)) (fun v hv=>.ok hv)))
 ·have q' : Int.tmod a b < 0 := by simpa using q
  have e := floor_neg hb.1 q'
  rw [wrap_i64 (n := Int.tdiv a b) (by omega) (by omega),wrap_i64 (by omega) (by omega),e]
 ·have q' : ¬ Int.tmod a b < 0 := by simpa using q
  have e := floor_pos hb.1 q'
  rw [wrap_i64 (n := Int.tdiv a b) (by omega) (by omega),e]
def arcN (p : ApiPos) (m : ApiMove) : Nat := (chordsM (rad p m.Center)).toNat
def arcQ (p : ApiPos) (m : ApiMove) : Nat := qtr m.Kind (qd p m.Center) (qd m.To m.Center)
def arcXYi (p : ApiPos) (m : ApiMove) (i : Nat) : Int × Int :=
 arcXY m.Kind (qd p m.Center) (i / arcN p m) (chordX (rad p m.Center) (arcN p m : Int) ((i % arcN p m + 1 : Nat) : Int)) (chordY (rad p m.Center) (arcN p m : Int) ((i % arcN p m + 1 : Nat) : Int))
def arcPt (p : ApiPos) (m : ApiMove) (i : Nat) : ApiPos :=
 ApiPos.mk (m.Center.X + (arcXYi p m i).1) (m.Center.Y + (arcXYi p m i).2) (p.Z + (m.To.Z - p.Z) * ((i + 1 : Nat) : Int) / ((arcN p m * arcQ p m : Nat) : Int))
def arcL (p : ApiPos) (m : ApiMove) : List ApiPos := (List.range (arcN p m * arcQ p m)).map (arcPt p m)
theorem ArcOk.n {p : ApiPos} {m : ApiMove} (h : ArcOk p m) : chordsM (rad p m.Center) = (arcN p m : Int) ∧ 1 ≤ arcN p m ∧ arcN p m ≤ 1000 := by
 have h1 := chordsM_is h.r0
 have h2 := h1.le (b := 1000) (by omega) (by have := h.rad_le; omega)
 have h3 := h1.1
 unfold arcN
 omega
theorem ArcOk.q {p : ApiPos} {m : ApiMove} (h : ArcOk p m) : 1 ≤ arcQ p m ∧ arcQ p m ≤ 4 := qtr_bd (qd_le _ _) (qd_le _ _)
theorem ArcOk.all {p : ApiPos} {m : ApiMove} (h : ArcOk p m) : 1 ≤ arcN p m * arcQ p m ∧ arcN p m * arcQ p m ≤ 4000 := by
 obtain ⟨_,a1,a2⟩ := h.n
 obtain ⟨b1,b2⟩ := h.q
 exact ⟨Nat.mul_le_mul a1 b1,Nat.mul_le_mul a2 b2⟩
theorem arc_idx {N q j : Nat} (hj : j < N) : (N * q + j) / N = q ∧ (N * q + j) % N = j := by
 constructor
 ·rw [Nat.mul_add_div (by omega),Nat.div_eq_of_lt hj]; omega
 ·rw [Nat.mul_add_mod,Nat.mod_eq_of_lt hj]
theorem ArcOk.pt {p : ApiPos} {m : ApiMove} (h : ArcOk p m) {q j : Nat} (hq : q < arcQ p m) (hj : j < arcN p m) :
  (-10000000 ≤ (arcXYi p m (arcN p m * q + j)).1 ∧ (arcXYi p m (arcN p m * q + j)).1 ≤ 10000000) ∧ (-10000000 ≤ (arcXYi p m (arcN p m * q + j)).2 ∧ (arcXYi p m (arcN p m * q + j)).2 ≤ 10000000) ∧ arcN p m * q + j < arcN p m * arcQ p m := by
 obtain ⟨_,a1,a2⟩ := h.n
 obtain ⟨e1,e2⟩ := arc_idx (q := q) hj
 have hf := chord_facts (R := rad p m.Center) (n := (arcN p m : Int)) (K := ((j + 1 : Nat) : Int)) h.r0 h.rad_le (by omega) (by omega) (by omega)
 obtain ⟨_,_,_,_,_,_,_,_,_,_,_,hx,hy⟩ := hf
 have hb := arcXY_bd (rad p m.Center) m.Kind (qd p m.Center) q hx hy
 have hr := h.rad_le
 unfold arcXYi
 rw [e1,e2]
 refine ⟨by omega,by omega,?_⟩
 have := Nat.mul_le_mul_left (arcN p m) (show q + 1 ≤ arcQ p m by omega)
 rw [Nat.mul_add,Nat.mul_one] at this
 omega
theorem ArcOk.zz {p : ApiPos} {m : ApiMove} (h : ArcOk p m) {i : Nat} (hi : i < arcN p m * arcQ p m) :
  (-100000000000 ≤ (m.To.Z - p.Z) * ((i + 1 : Nat) : Int) ∧ (m.To.Z - p.Z) * ((i + 1 : Nat) : Int) ≤ 100000000000) ∧ (-20000000 ≤ (m.To.Z - p.Z) * ((i + 1 : Nat) : Int) / ((arcN p m * arcQ p m : Nat) : Int) ∧ (m.To.Z - p.Z) * ((i + 1 : Nat) : Int) / ((arcN p m * arcQ p m : Nat) : Int) ≤ 20000000) := by
 have ha := h.all
 have h1 := h.p3
 have h2 := h.t3
 obtain ⟨T,hT⟩ : ∃ T,arcN p m * arcQ p m = T := ⟨_,rfl⟩
 obtain ⟨d,hd⟩ : ∃ d,m.To.Z - p.Z = d := ⟨_,rfl⟩
 rw [hT] at ha hi ⊢
 rw [hd]
 have hd1 : -20000000 ≤ d ∧ d ≤ 20000000 := by omega
 have b1 : d * ((i + 1 : Nat) : Int) ≤ 20000000 * ((i + 1 : Nat) : Int) := Int.mul_le_mul_of_nonneg_right hd1.2 (by omega)
 have b2 : -20000000 * ((i + 1 : Nat) : Int) ≤ d * ((i + 1 : Nat) : Int) := Int.mul_le_mul_of_nonneg_right hd1.1 (by omega)
 refine ⟨by omega,?_,?_⟩
 ·refine Int.le_ediv_of_mul_le (by omega) ?_
  have : (-20000000 : Int) * (T : Int) ≤ -20000000 * ((i + 1 : Nat) : Int) := by omega
  omega
 ·have : d * ((i + 1 : Nat) : Int) / (T : Int) < 20000001 := Int.ediv_lt_of_lt_mul (by omega) (by omega)
  omega
theorem ip_Arc_eq {p : ApiPos} {m : ApiMove} (h : ArcOk p m) (hp : okPos p) (hm : okMove m) (hv : movV p m = 0) : ip_Arc p m = some (arcL p m,0) := by
 apply Tot.get
 unfold ip_Arc
 show Tot (bindO (ip_Quarters p m) _) _
 have hQ : ip_Quarters p m = some ((arcQ p m : Int),0) := ip_Quarters_eq h hp hm hv
 obtain ⟨n0,n1,n2⟩ := h.n
 obtain ⟨q1,q2⟩ := h.q
 obtain ⟨al1,al2⟩ := h.all
 have hr := h.rad_le
 have hr0 := h.r0
 have hz1 := h.p3
 have hz2 := h.t3
 have hc1 := h.c1
 have hc2 := h.c2
 rw [hQ,bindO_s]
 refine Tot.ite (fun q=>by simp at q) (fun _=>?_)
 rw [ip_point_exact (i64_of h.p1) (i64_of h.p2) (i64_of h.c1) (i64_of h.c2),bindO_s]
 dsimp only
 rw [wrap_i64 (n := rad p m.Center) (by omega) (by omega),ip_Chords_eq hr0 hr,bindO_s,n0]
 have ecast : (arcN p m : Int) * (arcQ p m : Int) = ((arcN p m * arcQ p m : Nat) : Int) := by rw [Int.natCast_mul]
 rw [wrap_i64 (n := (arcN p m : Int) * (arcQ p m : Int)) (by omega) (by omega),ecast]
 refine Tot.ite (fun q=>absurd q (by simp; omega)) (fun _=>?_)
 have hqd := qd_le p m.Center
 have hlen : (arcL p m).length = arcN p m * arcQ p m := by unfold arcL; simp
 refine Tot.bind (E := fun v=>v = arcL p m) (Tot.loop (fun k (v : List ApiPos × Int)=>∃ q : Nat,v = ((arcL p m).take (arcN p m * q),(q : Int)) ∧ q ≤ arcQ p m ∧ k = arcQ p m - q) _ (arcQ p m) (by unfold fuel; omega) ⟨0,by simp,Nat.zero_le _,rfl⟩ (fun k v hr'=>?_)) (fun v hv'=>.ok (by rw [hv']))
 obtain ⟨q,rfl,hq,hk⟩ := hr'
 dsimp only
 by_cases zq : q < arcQ p m
 ·rw [decide_eq_true (show (q : Int) < (arcQ p m : Int) by omega),if_pos rfl]
  refine TotX.bind (E := fun v=>v = (arcL p m).take (arcN p m * (q + 1))) (Tot.loop (fun k (v : List ApiPos × Int)=>∃ j : Nat,v = ((arcL p m).take (arcN p m * q + j),((j + 1 : Nat) : Int)) ∧ j ≤ arcN p m ∧ k = arcN p m - j) _ (arcN p m) (by unfold fuel; omega) ⟨0,rfl,Nat.zero_le _,rfl⟩ (fun k v hr'=>?_)) (fun v hv'=>?_)
  ·obtain ⟨j,rfl,hj,hk2⟩ := hr'
   dsimp only
   by_cases zj : j < arcN p m
   ·obtain ⟨b1,b2,b3⟩ := h.pt zq zj
    obtain ⟨z1,z2⟩ := h.zz b3
    obtain ⟨e1,e2⟩ := arc_idx (q := q) zj
    obtain ⟨f1,f2,f3,f4,f5,f6,f7,f8,f9,f10,f11,f12,f13⟩ := chord_facts (R := rad p m.Center) (n := (arcN p m : Int)) (K := ((j + 1 : Nat) : Int)) hr0 hr (by omega) (by omega) (by omega)
    have hlt : ((arcL p m).take (arcN p m * q + j)).length = arcN p m * q + j := by rw [List.length_take,hlen]; omega
    rw [decide_eq_true (show ((j + 1 : Nat) : Int) ≤ (arcN p m : Int) by omega),if_pos rfl,f1,f2,f3,f4,f5,f6,f7,f8,f9,f10,hlt]
    refine .guard (by simpa using f11) (.guard (by simpa using f11) ?_)
    refine TotX.bind (E := fun xy=>xy = arcXYi p m (arcN p m * q + j)) ?_ (fun xy hxy=>?_)
    ·unfold arcXYi
     rw [e1,e2]
     unfold arcXY
     rcases h.kind with hk3 | hk4
     ·rw [hk3,if_pos (by simp),if_pos rfl]
      rw [wrap_i64 (n := 0 - chordY (rad p m.Center) (arcN p m : Int) ((j + 1 : Nat) : Int)) (by omega) (by omega),Int.zero_sub,wrap_i64 (n := ((qd p m.Center : Nat) : Int) - (q : Int)) (by omega) (by omega),wrap_i64 (by omega) (by omega),show ((qd p m.Center : Nat) : Int) - (q : Int) + 4 = ((qd p m.Center + 4 - q : Nat) : Int) by omega,ip_turned_eq (by omega) (by omega) (by omega),bindO_s]
      exact .ok rfl
     ·rw [hk4,if_neg (by simp),if_neg (by omega)]
      rw [wrap_i64 (n := ((qd p m.Center : Nat) : Int) + (q : Int)) (by omega) (by omega),show ((qd p m.Center : Nat) : Int) + (q : Int) = ((qd p m.Center + q : Nat) : Int) by omega,ip_turned_eq (by omega) (by omega) (by omega),bindO_s]
      exact .ok rfl
    ·subst hxy
     have ei : ((arcN p m * q + j : Nat) : Int) + 1 = ((arcN p m * q + j + 1 : Nat) : Int) := rfl
     rw [wrap_i64 (n := m.To.Z - p.Z) (by omega) (by omega),wrap_i64 (n := ((arcN p m * q + j : Nat) : Int) + 1) (by omega) (by omega),ei,wrap_i64 (n := (m.To.Z - p.Z) * ((arcN p m * q + j + 1 : Nat) : Int)) (by omega) (by omega),ip_floor_eq (by omega) (by omega),bindO_s]
     refine .guard (okLen_of (by omega)) (.go ⟨arcN p m - (j + 1),by omega,j + 1,?_,by omega,rfl⟩)
     rw [wrap_i64 (n := m.Center.X + _) (by omega) (by omega),wrap_i64 (n := m.Center.Y + _) (by omega) (by omega),wrap_i64 (n := p.Z + _) (by omega) (by omega),wrap_i64 (n := ((j + 1 : Nat) : Int) + 1) (by omega) (by omega)]
     have ht := take_map_range (arcPt p m) (arcN p m * arcQ p m) (arcN p m * q + j) b3
     have e3 : (arcL p m).take (arcN p m * q + (j + 1)) = (arcL p m).take (arcN p m * q + j) ++ [arcPt p m (arcN p m * q + j)] := ht
     rw [e3]; rfl
   ·rw [decide_eq_false (show ¬ ((j + 1 : Nat) : Int) ≤ (arcN p m : Int) by omega),if_neg (by simp)]
    refine .ret ?_
    rw [show j = arcN p m by omega,Nat.mul_add,Nat.mul_one]
  ·subst hv'
   rw [wrap_i64 (n := (q : Int) + 1) (by omega) (by omega)]
   exact .go ⟨arcQ p m - (q + 1),by omega,q + 1,rfl,by omega,rfl⟩
 ·rw [decide_eq_false (show ¬ (q : Int) < (arcQ p m : Int) by omega),if_neg (by simp)]
  refine .ret ?_
  rw [show q = arcQ p m by omega,← hlen,List.take_length]
end Go.Proofs.YtnnelopkjdgbgaaDoor
