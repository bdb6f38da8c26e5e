import Derived.Test.YthljcnchaopncaaGreatDoorPz
import Derived.Lib.Split
import Derived.Lib.SplitLaws
import Derived.Lib.IndexBytes
namespace Go.Proofs.YthljcnchaopncaaGreatDoor
open Go.RowKit
def pcb (z : UInt8) : List UInt8 → List (List UInt8)
 | []=>[[]]
 | c :: r=>if c = z then [] :: pcb z r else match pcb z r with
  | []=>[[c]]
  | p :: ps=>(c :: p) :: ps
theorem pcb_cons (z c : UInt8) (r : List UInt8) : pcb z (c :: r) = if c = z then [] :: pcb z r else match pcb z r with
  | []=>[[c]]
  | p :: ps=>(c :: p) :: ps := rfl
theorem ixb_cons (b : UInt8) (l : List UInt8) (c : UInt8) : Lib.indexByte (b :: l) c = if b == c then 0 else if Lib.indexByte l c == -1 then -1 else Lib.indexByte l c + 1 := rfl
theorem ixb_eq {b c : UInt8} (l : List UInt8) (h : b = c) : Lib.indexByte (b :: l) c = 0 := by
 rw [ixb_cons,if_pos (beq_iff_eq.2 h)]
theorem ixb_no {b c : UInt8} {l : List UInt8} (h : b ≠ c) (y : Lib.indexByte l c = -1) : Lib.indexByte (b :: l) c = -1 := by
 rw [ixb_cons,if_neg (fun z=>h (beq_iff_eq.1 z)),if_pos (beq_iff_eq.2 y)]
theorem ixb_in {b c : UInt8} {l : List UInt8} (h : b ≠ c) (y : Lib.indexByte l c ≠ -1) : Lib.indexByte (b :: l) c = Lib.indexByte l c + 1 := by
 rw [ixb_cons,if_neg (fun z=>h (beq_iff_eq.1 z)),if_neg (fun z=>y (beq_iff_eq.1 z))]
theorem ixb_count : ∀ (s : List UInt8) (c : UInt8),Lib.indexByte s c = -1 ↔ s.count c = 0
 | [],_=>by constructor <;> intro _ <;> rfl
 | b :: l,c=>by
  have ih := ixb_count l c
  have hg := Lib.indexByte_ge l c
  by_cases h : b = c
  ·rw [ixb_eq l h]
   subst h
   rw [List.count_cons_self]
   constructor <;> intro z <;> omega
  ·rw [List.count_cons_of_ne h]
   by_cases y : Lib.indexByte l c = -1
   ·rw [ixb_no h y]; exact ⟨fun _=>ih.1 y,fun _=>rfl⟩
   ·rw [ixb_in h y]
    constructor
    ·intro z; omega
    ·intro z; exact absurd (ih.2 z) y
theorem splitB_z (z : UInt8) (s : List UInt8) : Lib.splitK [z] 0 0 s = [s] := rfl
theorem splitB_s (z : UInt8) (k : Nat) (s : List UInt8) : Lib.splitK [z] 0 (k + 1) s = if Lib.indexByte s z == -1 then [s] else s.take ((Lib.indexByte s z).toNat + 0) :: Lib.splitK [z] 0 k (s.drop ((Lib.indexByte s z).toNat + 1)) := by
 conv=>lhs; unfold Lib.splitK
 rw [Lib.index_one]; rfl
theorem splitK_pcb (z : UInt8) : ∀ s : List UInt8,Lib.splitK [z] 0 (s.count z) s = pcb z s
 | []=>rfl
 | c :: r=>by
  have ih := splitK_pcb z r
  have hg := Lib.indexByte_ge r z
  rw [pcb_cons]
  by_cases h : c = z
  ·subst h
   rw [if_pos rfl,List.count_cons_self,splitB_s,ixb_eq r rfl,if_neg (by decide)]
   show [] :: Lib.splitK [c] 0 (r.count c) r = _
   rw [ih]
  ·rw [if_neg h,List.count_cons_of_ne h]
   cases hk : r.count z with
   | zero =>
    rw [hk,splitB_z] at ih
    rw [splitB_z,← ih]
   | succ k =>
    have hi : Lib.indexByte r z ≠ -1 := fun y=>by
     have := (ixb_count r z).1 y; omega
    rw [hk,splitB_s,if_neg (fun y=>hi (beq_iff_eq.1 y))] at ih
    rw [splitB_s,ixb_in h hi,if_neg (fun y=>by have := beq_iff_eq.1 y; omega),← ih]
    have e : (Lib.indexByte r z + 1).toNat = (Lib.indexByte r z).toNat + 1 := by omega
    rw [e]
    rfl
theorem split_pcb (z : UInt8) (s : List UInt8) : Lib.split s [z] = pcb z s := by
 unfold Lib.split
 rw [Lib.count_one]
 exact splitK_pcb z s
theorem pcb_one {z : UInt8} : ∀ {a : List UInt8},(∀ c ∈ a,c ≠ z) → pcb z a = [a]
 | [],_=>rfl
 | c :: r,h=>by
  rw [pcb_cons,if_neg (h c (by simp)),pcb_one (fun d hd=>h d (by simp [hd]))]
theorem pcb_app {z : UInt8} : ∀ {a : List UInt8} (r : List UInt8),(∀ c ∈ a,c ≠ z) → pcb z (a ++ z :: r) = a :: pcb z r
 | [],r,_=>by rw [List.nil_append,pcb_cons,if_pos rfl]
 | c :: a,r,h=>by
  rw [List.cons_append,pcb_cons,if_neg (h c (by simp)),pcb_app r (fun d hd=>h d (by simp [hd]))]
theorem pcb_len (z : UInt8) : ∀ s : List UInt8,(pcb z s).length ≤ s.length + 1
 | []=>Nat.le_refl _
 | c :: r=>by
  have := pcb_len z r
  rw [pcb_cons]
  split
  ·simp; omega
  ·split
   ·simp
   ·rename_i p ps h
    rw [h] at this
    simp at this ⊢; omega
theorem pcb_mem {z : UInt8} : ∀ {s p : List UInt8},p ∈ pcb z s → p.length ≤ s.length
 | [],p,h=>by
  have : p = [] := by simpa [pcb] using h
  rw [this]; exact Nat.le_refl _
 | c :: r,p,h=>by
  rw [pcb_cons] at h
  split at h
  ·rcases List.mem_cons.1 h with e | e
   ·rw [e]; exact Nat.zero_le _
   ·have := pcb_mem e; simp; omega
  ·split at h
   ·have : p = [c] := by simpa using h
    rw [this]; simp
   ·rename_i q qs hq
    rcases List.mem_cons.1 h with e | e
    ·have := pcb_mem (s := r) (p := q) (by rw [hq]; simp)
     rw [e]; simp; omega
    ·have := pcb_mem (s := r) (p := p) (by rw [hq]; simp [e])
     simp; omega
theorem pcb_ne (z : UInt8) (s : List UInt8) : pcb z s ≠ [] := by
 cases s with
 | nil=>simp [pcb]
 | cons c r =>
  rw [pcb_cons]
  split
  ·simp
  ·split <;> simp
def jnb (z : UInt8) : List (List UInt8) → List UInt8
 | []=>[]
 | [p]=>p
 | p :: q :: ps=>p ++ z :: jnb z (q :: ps)
theorem jnb_cons {z : UInt8} {p : List UInt8} {ps : List (List UInt8)} (h : ps ≠ []) : jnb z (p :: ps) = p ++ z :: jnb z ps := by
 cases ps with
 | nil=>exact absurd rfl h
 | cons q qs=>rfl
theorem jnb_pcb (z : UInt8) : ∀ s : List UInt8,jnb z (pcb z s) = s
 | []=>rfl
 | c :: r=>by
  have ih := jnb_pcb z r
  rw [pcb_cons]
  by_cases h : c = z
  ·rw [if_pos h,jnb_cons (pcb_ne z r),ih,h]; rfl
  ·rw [if_neg h]
   cases hq : pcb z r with
   | nil=>exact absurd hq (pcb_ne z r)
   | cons q qs =>
    rw [hq] at ih
    dsimp only
    cases qs with
    | nil =>
     show c :: q = _
     rw [← ih]; rfl
    | cons q2 qs =>
     show (c :: q) ++ z :: jnb z (q2 :: qs) = _
     rw [List.cons_append]
     congr 1
theorem pcb_jnb {z : UInt8} : ∀ {ps : List (List UInt8)},ps ≠ [] → (∀ p ∈ ps,∀ c ∈ p,c ≠ z) → pcb z (jnb z ps) = ps
 | [],h,_=>absurd rfl h
 | [p],_,h=>pcb_one (h p (by simp))
 | p :: q :: ps,_,h=>by
  show pcb z (p ++ z :: jnb z (q :: ps)) = _
  rw [pcb_app _ (h p (by simp)),pcb_jnb (by simp) (fun r hr=>h r (by simp [hr]))]
theorem pcb_snoc_sep (z : UInt8) : ∀ s : List UInt8,pcb z (s ++ [z]) = pcb z s ++ [[]]
 | []=>by simp [pcb]
 | c :: r=>by
  rw [List.cons_append,pcb_cons,pcb_cons,pcb_snoc_sep z r]
  by_cases h : c = z
  ·rw [if_pos h,if_pos h]; rfl
  ·rw [if_neg h,if_neg h]
   cases hq : pcb z r with
   | nil=>exact absurd hq (pcb_ne z r)
   | cons q qs=>rfl
theorem pcb_snoc {z c : UInt8} (h : c ≠ z) : ∀ s : List UInt8,∃ ps p,pcb z s = ps ++ [p] ∧ pcb z (s ++ [c]) = ps ++ [p ++ [c]]
 | []=>⟨[],[],rfl,by simp [pcb,h]⟩
 | d :: r=>by
  obtain ⟨ps,p,h1,h2⟩ := pcb_snoc h r
  rw [List.cons_append,pcb_cons,pcb_cons,h1,h2]
  by_cases y : d = z
  ·rw [if_pos y,if_pos y]
   exact ⟨[] :: ps,p,rfl,rfl⟩
  ·rw [if_neg y,if_neg y]
   cases ps with
   | nil=>exact ⟨[],d :: p,rfl,rfl⟩
   | cons q qs=>exact ⟨(d :: q) :: qs,p,rfl,rfl⟩
end Go.Proofs.YthljcnchaopncaaGreatDoor
