/-
  Ua, Yx, Yy, Yz in one text.
-/
import Derived.Test.YtjamgiobipdfhaaGreatDoorPz
import Derived.Lib.Split
import Derived.Lib.SplitLaws
import Derived.Lib.IndexBytes
import Derived.Test.YtjamgiobipdfhaaGreatDoorRbj
import Derived.Lib.ParseIntBTie
namespace Go.Proofs.YtjamgiobipdfhaaGreatDoor
open Go.RowKit
def pcb (z : UInt8) : List UInt8 → List (List UInt8)
 | []=>[[]]
 | c :: r=>if c = z then [] :: pcb z r else match pcb z r with
  | []=>[[c]]
  | p :: ps=>(c :: p) :: ps
theorem pcb_cons (z c : UInt8) (r : List UInt8) : pcb z (c :: r) = if c = z then [] :: pcb z r else match pcb z r with
  | []=>[[c]]
  | p :: ps=>(c :: p) :: ps := rfl
theorem ixb_cons (b : UInt8) (l : List UInt8) (c : UInt8) : Lib.indexByte (b :: l) c = if b == c then 0 else if Lib.indexByte l c == -1 then -1 else Lib.indexByte l c + 1 := rfl
theorem ixb_eq {b c : UInt8} (l : List UInt8) (h : b = c) : Lib.indexByte (b :: l) c = 0 := by
 rw [ixb_cons,if_pos (beq_iff_eq.2 h)]
theorem ixb_no {b c : UInt8} {l : List UInt8} (h : b ≠ c) (y : Lib.indexByte l c = -1) : Lib.indexByte (b :: l) c = -1 := by
 rw [ixb_cons,if_neg (fun z=>h (beq_iff_eq.1 z)),if_pos (beq_iff_eq.2 y)]
theorem ixb_in {b c : UInt8} {l : List UInt8} (h : b ≠ c) (y : Lib.indexByte l c ≠ -1) : Lib.indexByte (b :: l) c = Lib.indexByte l c + 1 := by
 rw [ixb_cons,if_neg (fun z=>h (beq_iff_eq.1 z)),if_neg (fun z=>y (beq_iff_eq.1 z))]
theorem ixb_count : ∀ (s : List UInt8) (c : UInt8),Lib.indexByte s c = -1 ↔ s.count c = 0
 | [],_=>by constructor <;> intro _ <;> rfl
 | b :: l,c=>by
  have ih := ixb_count l c
  have hg := Lib.indexByte_ge l c
  by_cases h : b = c
  ·rw [ixb_eq l h]
   subst h
   rw [List.count_cons_self]
   constructor <;> intro z <;> omega
  ·rw [List.count_cons_of_ne h]
   by_cases y : Lib.indexByte l c = -1
   ·rw [ixb_no h y]; exact ⟨fun _=>ih.1 y,fun _=>rfl⟩
   ·rw [ixb_in h y]
    constructor
    ·intro z; omega
    ·intro z; exact absurd (ih.2 z) y
theorem splitB_z (z : UInt8) (s : List UInt8) : Lib.splitK [z] 0 0 s = [s] := rfl
theorem splitB_s (z : UInt8) (k : Nat) (s : List UInt8) : Lib.splitK [z] 0 (k + 1) s = if Lib.indexByte s z == -1 then [s] else s.take ((Lib.indexByte s z).toNat + 0) :: Lib.splitK [z] 0 k (s.drop ((Lib.indexByte s z).toNat + 1)) := by
 conv=>lhs; unfold Lib.splitK
 rw [Lib.index_one]; rfl
theorem splitK_pcb (z : UInt8) : ∀ s : List UInt8,Lib.splitK [z] 0 (s.count z) s = pcb z s
 | []=>rfl
 | c :: r=>by
  have ih := splitK_pcb z r
  have hg := Lib.indexByte_ge r z
  rw [pcb_cons]
  by_cases h : c = z
  ·subst h
   rw [if_pos rfl,List.count_cons_self,splitB_s,ixb_eq r rfl,if_neg (by decide)]
   show [] :: Lib.splitK [c] 0 (r.count c) r = _
   rw [ih]
  ·rw [if_neg h,List.count_cons_of_ne h]
   cases hk : r.count z with
   | zero =>
    rw [hk,splitB_z] at ih
    rw [splitB_z,← ih]
   | succ k =>
    have hi : Lib.indexByte r z ≠ -1 := fun y=>by
     have := (ixb_count r z).1 y; omega
    rw [hk,splitB_s,if_neg (fun y=>hi (beq_iff_eq.1 y))] at ih
    rw [splitB_s,ixb_in h hi,if_neg (fun y=>by have := beq_iff_eq.1 y; omega),← ih]
    have e : (Lib.indexByte r z + 1).toNat = (Lib.indexByte r z).toNat + 1 := by omega
    rw [e]
    rfl
theorem split_pcb (z : UInt8) (s : List UInt8) : Lib.split s [z] = pcb z s := by
 unfold Lib.split
 rw [Lib.count_one]
 exact splitK_pcb z s
theorem pcb_one {z : UInt8} : ∀ {a : List UInt8},(∀ c ∈ a,c ≠ z) → pcb z a = [a]
 | [],_=>rfl
 | c :: r,h=>by
  rw [pcb_cons,if_neg (h c (by simp)),pcb_one (fun d hd=>h d (by simp [hd]))]
theorem pcb_app {z : UInt8} : ∀ {a : List UInt8} (r : List UInt8),(∀ c ∈ a,c ≠ z) → pcb z (a ++ z :: r) = a :: pcb z r
 | [],r,_=>by rw [List.nil_append,pcb_cons,if_pos rfl]
 | c :: a,r,h=>by
  rw [List.cons_append,pcb_cons,if_neg (h c (by simp)),pcb_app r (fun d hd=>h d (by simp [hd]))]
theorem pcb_len (z : UInt8) : ∀ s : List UInt8,(pcb z s).length ≤ s.length + 1
 | []=>Nat.le_refl _
 | c :: r=>by
  have := pcb_len z r
  rw [pcb_cons]
  split
  ·simp; omega
  ·split
   ·simp
   ·rename_i p ps h
    rw [h] at this
    simp at this ⊢; omega
theorem pcb_mem {z : UInt8} : ∀ {s p : List UInt8},p ∈ pcb z s → p.length ≤ s.length
 | [],p,h=>by
  have : p = [] := by simpa [pcb] using h
  rw [this]; exact Nat.le_refl _
 | c :: r,p,h=>by
  rw [pcb_cons] at h
  split at h
  ·rcases List.mem_cons.1 h with e | e
   ·rw [e]; exact Nat.zero_le _
   ·have := pcb_mem e; simp; omega
  ·split at h
   ·have : p = [c] := by simpa using h
    rw [this]; simp
   ·rename_i q qs hq
    rcases List.mem_cons.1 h with e | e
    ·have := pcb_mem (s := r) (p := q) (by rw [hq]; simp)
     rw [e]; simp; omega
    ·have := pcb_mem (s := r) (p := p) (by rw [hq]; simp [e])
     simp; omega
theorem pcb_ne (z : UInt8) (s : List UInt8) : pcb z s ≠ [] := by
 cases s with
 | nil=>simp [pcb]
 | cons c r =>
  rw [pcb_cons]
  split
  ·simp
  ·split <;> simp
def jnb (z : UInt8) : List (List UInt8) → List UInt8
 | []=>[]
 | [p]=>p
 | p :: q :: ps=>p ++ z :: jnb z (q :: ps)
theorem jnb_cons {z : UInt8} {p : List UInt8} {ps : List (List UInt8)} (h : ps ≠ []) : jnb z (p :: ps) = p ++ z :: jnb z ps := by
 cases ps with
 | nil=>exact absurd rfl h
 | cons q qs=>rfl
theorem jnb_pcb (z : UInt8) : ∀ s : List UInt8,jnb z (pcb z s) = s
 | []=>rfl
 | c :: r=>by
  have ih := jnb_pcb z r
  rw [pcb_cons]
  by_cases h : c = z
  ·rw [if_pos h,jnb_cons (pcb_ne z r),ih,h]; rfl
  ·rw [if_neg h]
   cases hq : pcb z r with
   | nil=>exact absurd hq (pcb_ne z r)
   | cons q qs =>
    rw [hq] at ih
    dsimp only
    cases qs with
    | nil =>
     show c :: q = _
     rw [← ih]; rfl
    | cons q2 qs =>
     show (c :: q) ++ z :: jnb z (q2 :: qs) = _
     rw [List.cons_append]
     congr 1
theorem pcb_jnb {z : UInt8} : ∀ {ps : List (List UInt8)},ps ≠ [] → (∀ p ∈ ps,∀ c ∈ p,c ≠ z) → pcb z (jnb z ps) = ps
 | [],h,_=>absurd rfl h
 | [p],_,h=>pcb_one (h p (by simp))
 | p :: q :: ps,_,h=>by
  show pcb z (p ++ z :: jnb z (q :: ps)) = _
  rw [pcb_app _ (h p (by simp)),pcb_jnb (by simp) (fun r hr=>h r (by simp [hr]))]
end Go.Proofs.YtjamgiobipdfhaaGreatDoor
namespace Go.Proofs.YtjamgiobipdfhaaGreatDoor
open Go.RowKit
def fmV (s : List UInt8) : Int × Int := (dc_FromMillimetres s).getD (0,1)
theorem fm_both (s : List UInt8) (hl : s.length ≤ 800) : dc_FromMillimetres s = some (fmV s) ∧ r06_FromMillimetres s = some (fmV s) ∧ ((fmV s).2 = 0 → -10000000 ≤ (fmV s).1 ∧ (fmV s).1 ≤ 10000000) := by
 obtain ⟨neg,b,hs⟩ : ∃ neg b,strip s = (neg,b) := ⟨_,_,rfl⟩
 obtain ⟨w,p,pt,hc⟩ : ∃ w p pt,cutV b = (w,p,pt) := ⟨_,_,_,rfl⟩
 have h1 := dc_FromMillimetres_eq hs hc (by omega)
 have h2 := r06_FromMillimetres_eq hs hc hl
 have hf : fmV s = mmRes neg w p pt := by unfold fmV; rw [h1]; rfl
 rw [hf]
 refine ⟨h1,h2,fun h0=>?_⟩
 unfold mmRes at h0 ⊢
 by_cases q : (okD neg w p pt && decide (p.length ≤ 3)) = true
 ·rw [if_pos q] at h0 ⊢
  by_cases q2 : mmL neg w p > 10000000 ∨ mmL neg w p < -10000000
  ·rw [if_pos q2] at h0; cases h0
  ·rw [if_neg q2]; dsimp only; omega
 ·rw [if_neg q] at h0; cases h0
theorem fmV_txt {n : Int} (h : -10000000 ≤ n ∧ n ≤ 10000000) : fmV (txtV n) = (n,0) := by
 unfold fmV
 rw [mm_back n (by omega) (by omega),if_neg (by omega)]; rfl
theorem dig_free {l : List UInt8} (h : l.all isD = true) : ∀ c ∈ l,c ≠ 32 ∧ c ≠ 10 := fun c hc=>by
 have := isD_iff.1 (List.all_eq_true.1 h c hc)
 refine ⟨fun e=>?_,fun e=>?_⟩ <;> (subst e; revert this; decide)
theorem txtV_free (n : Int) : ∀ c ∈ txtV n,c ≠ 32 ∧ c ≠ 10 := by
 intro c hc
 unfold txtV txtU at hc
 simp only [List.mem_append] at hc
 rcases hc with hc | hc | hc
 ·split at hc
  ·simp at hc; subst hc; decide
  ·simp at hc
 ·exact dig_free (dd_dig _) c hc
 ·split at hc
  ·simp at hc
  ·rename_i h0
   rcases List.mem_cons.1 hc with rfl | hc
   ·decide
   ·exact dig_free (frac_facts (Nat.mod_lt _ (by omega)) h0).1 c hc
def digT (n : Int) : List UInt8 := if n < 0 then [47] else Lib.decDigits n.toNat
theorem digs_all : ((List.range 1001).all fun k=>r45_digits ((k : Int) - 1) == some (digT ((k : Int) - 1))) = true := by kernel_rfl
theorem r45_digits_eq {n : Int} (h : -1 ≤ n ∧ n ≤ 999) : r45_digits n = some (digT n) := by
 have := List.all_eq_true.1 digs_all (n + 1).toNat (List.mem_range.2 (by omega))
 rw [show (((n + 1).toNat : Nat) : Int) - 1 = n by omega] at this
 simpa using this
theorem num_all : ((List.range 1000).all fun k=>k == 0 || r45_number (Lib.decDigits k) == some (k : Int)) = true := by kernel_rfl
theorem r45_number_dig {n : Int} (h : 1 ≤ n ∧ n ≤ 999) : r45_number (digT n) = some n := by
 have := List.all_eq_true.1 num_all n.toNat (List.mem_range.2 (by omega))
 have h0 : (n.toNat == 0) = false := by simp; omega
 unfold digT
 rw [if_neg (by omega)]
 rw [h0,Bool.false_or,show ((n.toNat : Nat) : Int) = n by omega] at this
 simpa using this
theorem pie_all : ((List.range 1000).all fun k=>k == 0 || strconv_ParseIntE (Lib.decDigits k) 10 64 == some ((k : Int),true)) = true := by kernel_rfl
theorem pie_dig {n : Int} (h : 1 ≤ n ∧ n ≤ 999) : strconv_ParseIntE (digT n) 10 64 = some (n,true) := by
 have := List.all_eq_true.1 pie_all n.toNat (List.mem_range.2 (by omega))
 have h0 : (n.toNat == 0) = false := by simp; omega
 unfold digT
 rw [if_neg (by omega)]
 rw [h0,Bool.false_or,show ((n.toNat : Nat) : Int) = n by omega] at this
 simpa using this
theorem pie_tot (s : List UInt8) (hl : s.length ≤ 100000) : Tot (strconv_ParseIntE s 10 64) (fun r=>r.2 = true → -9223372036854775808 ≤ r.1 ∧ r.1 ≤ 9223372036854775807) := by
 unfold strconv_ParseIntE
 refine Tot.guard (by simp; omega) ?_
 cases h : Lib.parseIntB 64 s with
 | ok v =>
  have := Lib.parseIntB_bounds h
  exact .ok fun _=>by dsimp only; omega
 | _ => exact .ok (by simp)
theorem itoa_dig {n : Int} (h : 0 ≤ n) : Lib.itoa n = digT n := by
 unfold Lib.itoa digT
 rw [if_neg (by omega),if_neg (by omega)]
theorem fmtI {n : Int} (h1 : -9223372036854775808 ≤ n) (h2 : n ≤ 9223372036854775807) : strconv_FormatInt n 10 = some (Lib.itoa n) := by
 unfold strconv_FormatInt inI64
 rw [decide_eq_true ⟨h1,h2⟩]; rfl
theorem digT_free {n : Int} (h : 0 ≤ n) : ∀ c ∈ digT n,c ≠ 32 ∧ c ≠ 10 := by
 unfold digT
 rw [if_neg (by omega)]
 exact dig_free (dd_dig _)
theorem digT_len {n : Int} (h : 0 ≤ n ∧ n ≤ 999) : (digT n).length ≤ 20 := by
 unfold digT
 rw [if_neg (by omega)]
 exact dd_len _ (by omega)
end Go.Proofs.YtjamgiobipdfhaaGreatDoor
namespace Go.Proofs.YtjamgiobipdfhaaGreatDoor
open Go.RowKit
set_option linter.unusedVariables false
set_option linter.unusedSimpArgs false
def wl (W : Arr6ApiPos) : List ApiPos := [W.e0,W.e1,W.e2,W.e3,W.e4,W.e5]
def zB (p : ApiPos) : Bool := (p.X == 0) && ((p.Y == 0) && (p.Z == 0))
def gw (k : Nat) : List UInt8 := [71,53,UInt8.ofNat (52 + k)]
def wordW : List UInt8 := [119,111,114,107]
def wordL : List UInt8 := [108,101,110,103,116,104]
def wlineW (k : Nat) (p : ApiPos) : List (List UInt8) := [wordW,gw k,txtV p.X,txtV p.Y,txtV p.Z]
def llineW (n v : Int) : List (List UInt8) := [wordL,digT n,txtV v]
def wline (k : Nat) (p : ApiPos) : List UInt8 := jnb 32 (wlineW k p)
def lline (n v : Int) : List UInt8 := jnb 32 (llineW n v)
def linesW : Nat → List ApiPos → List (List UInt8)
 | _,[]=>[]
 | k,p :: r=>(if zB p = true then [] else [wline k p]) ++ linesW (k + 1) r
def linesL (l : List R45Length) : List (List UInt8) := l.map fun e=>lline e.Number e.Length
def linesT (t : R45Table) : List (List UInt8) := linesW 0 (wl t.Work) ++ linesL t.Lengths
def textL (l : List (List UInt8)) : List UInt8 := l.flatMap fun x=>x ++ [10]
theorem textL_app (a b : List (List UInt8)) : textL (a ++ b) = textL a ++ textL b := by unfold textL; rw [List.flatMap_append]
theorem wline_eq (k : Nat) (p : ApiPos) {g : List UInt8} (hg : 71 :: g = gw k) : wline k p = ((((((([119,111,114,107,32,71] ++ g) ++ [32]) ++ txtV p.X) ++ [32]) ++ txtV p.Y) ++ [32]) ++ txtV p.Z) := by
 show wordW ++ 32 :: (gw k ++ 32 :: (txtV p.X ++ 32 :: (txtV p.Y ++ 32 :: txtV p.Z))) = _
 rw [← hg]
 simp [wordW]
theorem lline_eq (n v : Int) : lline n v = (([108,101,110,103,116,104,32] ++ digT n) ++ [32]) ++ txtV v := by
 show wordL ++ 32 :: (digT n ++ 32 :: txtV v) = _
 simp [wordL]
theorem gw_len (k : Nat) : (gw k).length = 3 := rfl
theorem gl_of {k : Nat} {g : List UInt8} (hg : 71 :: g = gw k) : g.length = 2 := by
 have : (71 :: g).length = 3 := by rw [hg]; rfl
 simpa using this
theorem txt_len {p : ApiPos} (hp : inR p) : (txtV p.X).length ≤ 100 ∧ (txtV p.Y).length ≤ 100 ∧ (txtV p.Z).length ≤ 100 := by
 obtain ⟨h1,h2,h3⟩ := hp
 exact ⟨txtV_len _ (by omega) (by omega),txtV_len _ (by omega) (by omega),txtV_len _ (by omega) (by omega)⟩
theorem linesW_one (k : Nat) (p : ApiPos) : linesW k [p] = if zB p = true then [] else [wline k p] := by simp [linesW]
theorem wline_len (k : Nat) {p : ApiPos} (hp : inR p) : (wline k p).length ≤ 320 := by
 obtain ⟨h1,h2,h3⟩ := txt_len hp
 show (wordW ++ 32 :: (gw k ++ 32 :: (txtV p.X ++ 32 :: (txtV p.Y ++ 32 :: txtV p.Z)))).length ≤ 320
 simp only [List.length_append,List.length_cons,gw_len,show wordW.length = 4 from rfl]
 omega
theorem r45_wstep {n : Int} {k : Nat} {g : List UInt8} (hd : r45_digits n = some g) (hg : 71 :: g = gw k) {p : ApiPos} (hp : inR p) (v : List (List UInt8)) (hv : v.length ≤ 1000) : (if (!((p.X == 0) && ((p.Y == 0) && (p.Z == 0)))) = true then bindO (r45_digits n) fun (a : (List UInt8))=>guardO (okStr [119,111,114,107,32,71] a) ( guardO (okStr ([119,111,114,107,32,71] ++ a) [32]) ( bindO (r06_Millimetres p.X) fun (b : (List UInt8))=>guardO (okStr (([119,111,114,107,32,71] ++ a) ++ [32]) b) ( guardO (okStr ((([119,111,114,107,32,71] ++ a) ++ [32]) ++ b) [32]) ( bindO (r06_Millimetres p.Y) fun (c : (List UInt8))=>guardO (okStr (((([119,111,114,107,32,71] ++ a) ++ [32]) ++ b) ++ [32]) c) ( guardO (okStr ((((([119,111,114,107,32,71] ++ a) ++ [32]) ++ b) ++ [32]) ++ c) [32]) ( bindO (r06_Millimetres p.Z) fun (d : (List UInt8))=>guardO (okStr (((((([119,111,114,107,32,71] ++ a) ++ [32]) ++ b) ++ [32]) ++ c) ++ [32]) d) ( guardO (okLen (v.length + 1)) ( some (v ++ [(((((([119,111,114,107,32,71] ++ a) ++ [32]) ++ b) ++ [32]) ++ c) ++ [32]) ++ d]))))))))) else some v) = some (v ++ linesW k [p]) := by
 have hgl := gl_of hg
 obtain ⟨l1,l2,l3⟩ := txt_len hp
 obtain ⟨b1,b2,b3⟩ := hp
 rw [linesW_one]
 unfold zB
 cases hz : ((p.X == 0) && ((p.Y == 0) && (p.Z == 0))) with
 | true=>simp
 | false =>
  rw [if_pos (show (!false) = true from rfl),if_neg (show ¬ (false = true) by decide),hd,bindO_s,okStr_of (by simp only [List.length_append,List.length_cons,List.length_nil]; omega),guardO_t,okStr_of (by simp only [List.length_append,List.length_cons,List.length_nil]; omega),guardO_t,r06_Millimetres_eq _ (by omega) (by omega),bindO_s,okStr_of (by simp only [List.length_append,List.length_cons,List.length_nil]; omega),guardO_t,okStr_of (by simp only [List.length_append,List.length_cons,List.length_nil]; omega),guardO_t,r06_Millimetres_eq _ (by omega) (by omega),bindO_s,okStr_of (by simp only [List.length_append,List.length_cons,List.length_nil]; omega),guardO_t,okStr_of (by simp only [List.length_append,List.length_cons,List.length_nil]; omega),guardO_t,r06_Millimetres_eq _ (by omega) (by omega),bindO_s,okStr_of (by simp only [List.length_append,List.length_cons,List.length_nil]; omega),guardO_t,okLen_of (by omega),guardO_t,wline_eq k p hg]
theorem r45_wstep0 {n : Int} {k : Nat} {g : List UInt8} (hd : r45_digits n = some g) (hg : 71 :: g = gw k) {p : ApiPos} (hp : inR p) : (if (!((p.X == 0) && ((p.Y == 0) && (p.Z == 0)))) = true then bindO (r45_digits n) fun (a : (List UInt8))=>guardO (okStr [119,111,114,107,32,71] a) ( guardO (okStr ([119,111,114,107,32,71] ++ a) [32]) ( bindO (r06_Millimetres p.X) fun (b : (List UInt8))=>guardO (okStr (([119,111,114,107,32,71] ++ a) ++ [32]) b) ( guardO (okStr ((([119,111,114,107,32,71] ++ a) ++ [32]) ++ b) [32]) ( bindO (r06_Millimetres p.Y) fun (c : (List UInt8))=>guardO (okStr (((([119,111,114,107,32,71] ++ a) ++ [32]) ++ b) ++ [32]) c) ( guardO (okStr ((((([119,111,114,107,32,71] ++ a) ++ [32]) ++ b) ++ [32]) ++ c) [32]) ( bindO (r06_Millimetres p.Z) fun (d : (List UInt8))=>guardO (okStr (((((([119,111,114,107,32,71] ++ a) ++ [32]) ++ b) ++ [32]) ++ c) ++ [32]) d) ( some [(((((([119,111,114,107,32,71] ++ a) ++ [32]) ++ b) ++ [32]) ++ c) ++ [32]) ++ d]))))))) else some []) = some (linesW k [p]) := by
 have h := r45_wstep hd hg hp [] (by simp)
 rw [List.nil_append] at h
 rw [← h]
 simp only [List.nil_append,List.length_nil,Nat.zero_add,okLen_of (show 1 ≤ 16777216 by omega),guardO_t]
theorem tb_wstep {n : Int} {k : Nat} {g : List UInt8} (hd : strconv_Itoa n = some g) (hg : 71 :: g = gw k) {p : ApiPos} (hp : inR p) (v : List UInt8) (hv : v.length ≤ 1000000) : (if ((p.X == 0) && ((p.Y == 0) && (p.Z == 0))) = true then some v else bindO (strconv_Itoa n) fun (a : (List UInt8))=>guardO (okStr [119,111,114,107,32,71] a) ( guardO (okLen (v.length + ([119,111,114,107,32,71] ++ a).length)) ( bindO (bindO (dc_Millimetres p.X) fun (b : (List UInt8))=>guardO (okStr [32] b) ( guardO (okLen ((v ++ ([119,111,114,107,32,71] ++ a)).length + ([32] ++ b).length)) ( bindO (dc_Millimetres p.Y) fun (c : (List UInt8))=>guardO (okStr [32] c) ( guardO (okLen ((v ++ ([119,111,114,107,32,71] ++ a) ++ ([32] ++ b)).length + ([32] ++ c).length)) ( bindO (dc_Millimetres p.Z) fun (d : (List UInt8))=>guardO (okStr [32] d) ( guardO (okLen ((v ++ ([119,111,114,107,32,71] ++ a) ++ ([32] ++ b) ++ ([32] ++ c)).length + ([32] ++ d).length)) ( some (v ++ ([119,111,114,107,32,71] ++ a) ++ ([32] ++ b) ++ ([32] ++ c) ++ ([32] ++ d))))))))) fun (u : (List UInt8))=>guardO (okLen (u.length + 1)) ( some (u ++ [10]))))) = some (v ++ textL (linesW k [p])) := by
 have hgl := gl_of hg
 obtain ⟨l1,l2,l3⟩ := txt_len hp
 obtain ⟨b1,b2,b3⟩ := hp
 rw [linesW_one]
 unfold zB
 cases hz : ((p.X == 0) && ((p.Y == 0) && (p.Z == 0))) with
 | true=>simp [textL]
 | false =>
  rw [if_neg (show ¬ (false = true) by decide),if_neg (show ¬ (false = true) by decide),hd,bindO_s,okStr_of (by simp only [List.length_append,List.length_cons,List.length_nil]; omega),guardO_t,okLen_of (by simp only [List.length_append,List.length_cons,List.length_nil]; omega),guardO_t,dc_Millimetres_eq _ (by omega) (by omega),bindO_s,okStr_of (by simp only [List.length_append,List.length_cons,List.length_nil]; omega),guardO_t,okLen_of (by simp only [List.length_append,List.length_cons,List.length_nil]; omega),guardO_t,dc_Millimetres_eq _ (by omega) (by omega),bindO_s,okStr_of (by simp only [List.length_append,List.length_cons,List.length_nil]; omega),guardO_t,okLen_of (by simp only [List.length_append,List.length_cons,List.length_nil]; omega),guardO_t,dc_Millimetres_eq _ (by omega) (by omega),bindO_s,okStr_of (by simp only [List.length_append,List.length_cons,List.length_nil]; omega),guardO_t,okLen_of (by simp only [List.length_append,List.length_cons,List.length_nil]; omega),guardO_t,bindO_s,okLen_of (by simp only [List.length_append,List.length_cons,List.length_nil]; omega),guardO_t]
  show some _ = some (v ++ textL [wline k p])
  rw [wline_eq k p hg]
  simp [textL]
theorem tb_wstep0 {n : Int} {k : Nat} {g : List UInt8} (hd : strconv_Itoa n = some g) (hg : 71 :: g = gw k) {p : ApiPos} (hp : inR p) : (if ((p.X == 0) && ((p.Y == 0) && (p.Z == 0))) = true then some [] else bindO (strconv_Itoa n) fun (a : (List UInt8))=>guardO (okStr [119,111,114,107,32,71] a) ( guardO (okLen (([119,111,114,107,32,71] ++ a).length)) ( bindO (bindO (dc_Millimetres p.X) fun (b : (List UInt8))=>guardO (okStr [32] b) ( guardO (okLen (([119,111,114,107,32,71] ++ a).length + ([32] ++ b).length)) ( bindO (dc_Millimetres p.Y) fun (c : (List UInt8))=>guardO (okStr [32] c) ( guardO (okLen (([119,111,114,107,32,71] ++ a ++ ([32] ++ b)).length + ([32] ++ c).length)) ( bindO (dc_Millimetres p.Z) fun (d : (List UInt8))=>guardO (okStr [32] d) ( guardO (okLen (([119,111,114,107,32,71] ++ a ++ ([32] ++ b) ++ ([32] ++ c)).length + ([32] ++ d).length)) ( some ([119,111,114,107,32,71] ++ a ++ ([32] ++ b) ++ ([32] ++ c) ++ ([32] ++ d))))))))) fun (u : (List UInt8))=>guardO (okLen (u.length + 1)) ( some (u ++ [10]))))) = some (textL (linesW k [p])) := by
 have h := tb_wstep hd hg hp [] (by simp)
 rw [List.nil_append] at h
 rw [← h]
 simp only [List.nil_append,List.length_nil,Nat.zero_add]
theorem linesW_cons (k : Nat) (p : ApiPos) (r : List ApiPos) : linesW k (p :: r) = linesW k [p] ++ linesW (k + 1) r := by rw [linesW_one]; rfl
theorem linesW_six (W : Arr6ApiPos) : linesW 0 (wl W) = linesW 0 [W.e0] ++ linesW 1 [W.e1] ++ linesW 2 [W.e2] ++ linesW 3 [W.e3] ++ linesW 4 [W.e4] ++ linesW 5 [W.e5] := by
 unfold wl
 rw [linesW_cons 0 W.e0,linesW_cons 1 W.e1,linesW_cons 2 W.e2,linesW_cons 3 W.e3,linesW_cons 4 W.e4]
 simp only [List.append_assoc]
theorem linesW_len : ∀ (l : List ApiPos) (k : Nat),(linesW k l).length ≤ l.length
 | [],_=>by simp [linesW]
 | p :: l,k=>by
  have := linesW_len l (k + 1)
  simp only [linesW,List.length_append,List.length_cons]
  split <;> simp <;> omega
def okW6 (W : Arr6ApiPos) : Prop := inR W.e0 ∧ inR W.e1 ∧ inR W.e2 ∧ inR W.e3 ∧ inR W.e4 ∧ inR W.e5
def okN (l : List R45Length) : Prop := ∀ e ∈ l,(-1 ≤ e.Number ∧ e.Number ≤ 999) ∧ -10000000 ≤ e.Length ∧ e.Length ≤ 10000000
theorem digT_lenN {n : Int} (h : -1 ≤ n ∧ n ≤ 999) : (digT n).length ≤ 20 := by
 by_cases h0 : n < 0
 ·unfold digT; rw [if_pos h0]; simp
 ·exact digT_len (by omega)
theorem dgw_all : ((List.range 6).all fun k=>71 :: digT (54 + (k : Int)) == gw k) = true := by kernel_rfl
theorem dgw (k : Nat) (h : k < 6) : 71 :: digT (54 + (k : Int)) = gw k := by
 have := List.all_eq_true.1 dgw_all k (List.mem_range.2 h)
 simpa using this
theorem r45_Lines_eq (t : R45Table) (hW : okW6 t.Work) (hN : okN t.Lengths) (hl : t.Lengths.length ≤ 100000) : r45_Lines t = some (linesT t) := by
 obtain ⟨h0,h1,h2,h3,h4,h5⟩ := hW
 unfold r45_Lines
 have w : ∀ (k : Nat) (p : ApiPos),(linesW k [p]).length ≤ 1 := fun k p=>linesW_len [p] k
 rw [r45_wstep0 (k := 0) (r45_digits_eq (n := 54) (by omega)) (dgw 0 (by omega)) h0,bindO_s,r45_wstep (k := 1) (r45_digits_eq (n := 55) (by omega)) (dgw 1 (by omega)) h1 _ (by have := w 0 t.Work.e0; omega),bindO_s,
  r45_wstep (k := 2) (r45_digits_eq (n := 56) (by omega)) (dgw 2 (by omega)) h2 _ (by have := w 0 t.Work.e0; have := w 1 t.Work.e1; simp only [List.length_append]; omega),bindO_s,
  r45_wstep (k := 3) (r45_digits_eq (n := 57) (by omega)) (dgw 3 (by omega)) h3 _ (by have := w 0 t.Work.e0; have := w 1 t.Work.e1; have := w 2 t.Work.e2; simp only [List.length_append]; omega),bindO_s,
  r45_wstep (k := 4) (r45_digits_eq (n := 58) (by omega)) (dgw 4 (by omega)) h4 _ (by have := w 0 t.Work.e0; have := w 1 t.Work.e1; have := w 2 t.Work.e2; have := w 3 t.Work.e3; simp only [List.length_append]; omega),bindO_s,
  r45_wstep (k := 5) (r45_digits_eq (n := 59) (by omega)) (dgw 5 (by omega)) h5 _ (by have := w 0 t.Work.e0; have := w 1 t.Work.e1; have := w 2 t.Work.e2; have := w 3 t.Work.e3; have := w 4 t.Work.e4; simp only [List.length_append]; omega),bindO_s,bindO_s,← linesW_six]
 have hw6 := linesW_len (wl t.Work) 0
 rw [show (wl t.Work).length = 6 from rfl] at hw6
 unfold linesT linesL
 generalize linesW 0 (wl t.Work) = v0 at hw6
 rw [okIdx_of (by omega),guardO_t,range_fold (g := fun (o : List (List UInt8)) (e : R45Length)=>o ++ [lline e.Number e.Length]) (R := fun i v=>v.length ≤ i + 6) (L := t.Lengths) ?_ t.Lengths 0 v0 rfl (by omega)]
 ·rw [bindO_s,map_fold]
 ·intro i x v hx hr
  have hlt := getElem_lt hx
  obtain ⟨n1,n2,n3⟩ := hN x (List.mem_of_getElem? hx)
  have e1 := digT_lenN n1
  have e2 := txtV_len x.Length (by omega) (by omega)
  rw [r45_digits_eq n1,bindO_s,okStr_of (by simp only [List.length_append,List.length_cons,List.length_nil]; omega),guardO_t,okStr_of (by simp only [List.length_append,List.length_cons,List.length_nil]; omega),guardO_t,r06_Millimetres_eq _ (by omega) (by omega),bindO_s,okStr_of (by simp only [List.length_append,List.length_cons,List.length_nil]; omega),guardO_t,okLen_of (by omega),guardO_t]
  exact ⟨by rw [lline_eq],by simp; omega⟩
end Go.Proofs.YtjamgiobipdfhaaGreatDoor
namespace Go.Proofs.YtjamgiobipdfhaaGreatDoor
open Go.RowKit
set_option linter.unusedVariables false
set_option linter.unusedSimpArgs false
inductive Itm where
 | w (k : Nat) (p : ApiPos)
 | l (n v : Int)
def Itm.ok : Itm → Prop
 | .w k p=>k < 6 ∧ inR p ∧ zB p = false
 | .l n v=>(1 ≤ n ∧ n ≤ 999) ∧ 0 ≤ v ∧ v ≤ 10000000
def Itm.words : Itm → List (List UInt8)
 | .w k p=>wlineW k p
 | .l n v=>llineW n v
def Itm.line (i : Itm) : List UInt8 := jnb 32 i.words
def Itm.plc : Itm → Int
 | .w k _=>(k : Int)
 | .l n _=>6 + n
def setW (W : Arr6ApiPos) (k : Nat) (p : ApiPos) : Arr6ApiPos :=
 match k with
 | 0=>⟨p,W.e1,W.e2,W.e3,W.e4,W.e5⟩
 | 1=>⟨W.e0,p,W.e2,W.e3,W.e4,W.e5⟩
 | 2=>⟨W.e0,W.e1,p,W.e3,W.e4,W.e5⟩
 | 3=>⟨W.e0,W.e1,W.e2,p,W.e4,W.e5⟩
 | 4=>⟨W.e0,W.e1,W.e2,W.e3,p,W.e5⟩
 | _=>⟨W.e0,W.e1,W.e2,W.e3,W.e4,p⟩
def Itm.put : Itm → R45Table → R45Table
 | .w k p,t=>⟨setW t.Work k p,t.Lengths⟩
 | .l n v,t=>⟨t.Work,t.Lengths ++ [⟨n,v⟩]⟩
theorem gw_free : ∀ k,k < 6 → ∀ c ∈ gw k,c ≠ 32 ∧ c ≠ 10 := by decide
theorem words_free {i : Itm} (h : i.ok) : ∀ w ∈ i.words,∀ c ∈ w,c ≠ 32 ∧ c ≠ 10 := by
 cases i with
 | w k p =>
  intro w hw
  simp only [Itm.words,wlineW,List.mem_cons,List.not_mem_nil,or_false] at hw
  rcases hw with rfl | rfl | rfl | rfl | rfl
  ·decide
  ·exact gw_free k h.1
  ·exact txtV_free _
  ·exact txtV_free _
  ·exact txtV_free _
 | l n v =>
  intro w hw
  simp only [Itm.words,llineW,List.mem_cons,List.not_mem_nil,or_false] at hw
  rcases hw with rfl | rfl | rfl
  ·decide
  ·exact digT_free (by have := h.1; omega)
  ·exact txtV_free _
theorem words_ne (i : Itm) : i.words ≠ [] := by cases i <;> simp [Itm.words,wlineW,llineW]
theorem words_of {i : Itm} (h : i.ok) : pcb 32 i.line = i.words := pcb_jnb (words_ne i) (fun w hw c hc=>(words_free h w hw c hc).1)
theorem line_iff {i : Itm} (h : i.ok) {s : List UInt8} : s = i.line ↔ pcb 32 s = i.words := by
 constructor
 ·rintro rfl; exact words_of h
 ·intro e; rw [← jnb_pcb 32 s,e]; rfl
theorem jnb_free {z : UInt8} (hz : z ≠ 32) : ∀ {ws : List (List UInt8)},(∀ w ∈ ws,∀ c ∈ w,c ≠ z) → ∀ c ∈ jnb 32 ws,c ≠ z
 | [],_,c,hc=>by simp [jnb] at hc
 | [p],h,c,hc=>h p (by simp) c hc
 | p :: q :: ps,h,c,hc=>by
  have hc : c ∈ p ++ 32 :: jnb 32 (q :: ps) := hc
  rw [List.mem_append,List.mem_cons] at hc
  rcases hc with hc | rfl | hc
  ·exact h p (by simp) c hc
  ·exact fun e=>hz e.symm
  ·exact jnb_free hz (fun w hw=>h w (by simp [hw])) c hc
theorem line_free {i : Itm} (h : i.ok) : ∀ c ∈ i.line,c ≠ 10 := jnb_free (by decide) (fun w hw c hc=>(words_free h w hw c hc).2)
def cano (w : List UInt8) : Bool := ((fmV w).2 == 0) && (txtV (fmV w).1 == w)
theorem cano_txt {n : Int} (h : -10000000 ≤ n ∧ n ≤ 10000000) : cano (txtV n) = true := by
 unfold cano
 rw [fmV_txt h]; simp
theorem gw_inj : ∀ k,k < 6 → ∀ j,j < 6 → gw k = gw j → k = j := by decide
theorem txt_inj {n m : Int} (hn : -10000000 ≤ n ∧ n ≤ 10000000) (hm : -10000000 ≤ m ∧ m ≤ 10000000) (h : txtV n = txtV m) : n = m := by
 have a := fmV_txt hn
 rw [h,fmV_txt hm] at a
 injection a with a; exact a.symm
theorem dig_inj {n m : Int} (hn : 1 ≤ n ∧ n ≤ 999) (hm : 1 ≤ m ∧ m ≤ 999) (h : digT n = digT m) : n = m := by
 have a := r45_number_dig hn
 rw [h,r45_number_dig hm] at a
 injection a with a; exact a.symm
theorem words_inj {i j : Itm} (hi : i.ok) (hj : j.ok) (h : i.words = j.words) : i = j := by
 cases i with
 | w k p =>
  cases j with
  | w k' p' =>
   obtain ⟨a1,⟨a2,a3,a4⟩,_⟩ := hi
   obtain ⟨b1,⟨b2,b3,b4⟩,_⟩ := hj
   simp only [Itm.words,wlineW,List.cons.injEq,and_true,true_and] at h
   obtain ⟨h1,h2,h3,h4⟩ := h
   have e := gw_inj k a1 k' b1 h1
   have e2 := txt_inj a2 b2 h2
   have e3 := txt_inj a3 b3 h3
   have e4 := txt_inj a4 b4 h4
   obtain ⟨x,y,z⟩ := p
   obtain ⟨x',y',z'⟩ := p'
   simp only at e2 e3 e4
   subst e; subst e2; subst e3; subst e4; rfl
  | l n v=>simp [Itm.words,wlineW,llineW] at h
 | l n v =>
  cases j with
  | w k p=>simp [Itm.words,wlineW,llineW] at h
  | l n' v' =>
   simp only [Itm.words,llineW,List.cons.injEq,and_true,true_and] at h
   have e := dig_inj hi.1 hj.1 h.1
   have e2 := txt_inj (n := v) (m := v') (by have := hi.2; omega) (by have := hj.2; omega) h.2
   subst e; subst e2; rfl
theorem line_inj {i j : Itm} (hi : i.ok) (hj : j.ok) (h : i.line = j.line) : i = j := words_inj hi hj (by rw [← words_of hi,h,words_of hj])
def goodL : Int → List R45Length → Prop
 | _,[]=>True
 | m,e :: r=>((1 ≤ e.Number ∧ e.Number ≤ 999) ∧ 0 ≤ e.Length ∧ e.Length ≤ 10000000) ∧ m < e.Number ∧ goodL e.Number r
def lastN : Int → List R45Length → Int
 | m,[]=>m
 | _,e :: r=>lastN e.Number r
theorem goodL_snoc (e : R45Length) : ∀ (l : List R45Length) (m : Int),goodL m (l ++ [e]) ↔ goodL m l ∧ ((1 ≤ e.Number ∧ e.Number ≤ 999) ∧ 0 ≤ e.Length ∧ e.Length ≤ 10000000) ∧ lastN m l < e.Number
 | [],m=>by simp [goodL,lastN]
 | x :: l,m=>by
  simp only [List.cons_append,goodL,lastN,goodL_snoc e l x.Number]
  constructor
  ·rintro ⟨a,b,c,d⟩; exact ⟨⟨a,b,c⟩,d⟩
  ·rintro ⟨⟨a,b,c⟩,d⟩; exact ⟨a,b,c,d⟩
theorem lastN_snoc (e : R45Length) : ∀ (l : List R45Length) (m : Int),lastN m (l ++ [e]) = e.Number
 | [],_=>rfl
 | x :: l,m=>by simp only [List.cons_append,lastN]; exact lastN_snoc e l _
theorem goodL_N : ∀ {l : List R45Length} {m : Int},goodL m l → okN l
 | [],_,_=>fun e he=>by simp at he
 | x :: l,m,h=>fun e he=>by
  rcases List.mem_cons.1 he with rfl | he
  ·obtain ⟨⟨a,b⟩,_⟩ := h; exact ⟨by omega,by omega⟩
  ·exact goodL_N h.2.2 e he
theorem lastN_pos : ∀ {l : List R45Length} {m : Int},goodL m l → l ≠ [] → 1 ≤ lastN m l
 | [],_,_,h=>absurd rfl h
 | [x],m,h,_=>h.1.1.1
 | x :: y :: l,m,h,_=>lastN_pos (l := y :: l) h.2.2 (by simp)
def okT (t : R45Table) : Prop := okW6 t.Work ∧ goodL 0 t.Lengths
def Inv (last : Int) (t : R45Table) : Prop := (t.Lengths = [] ∧ -1 ≤ last ∧ last ≤ 5 ∧ (∀ (j : Nat) p,(wl t.Work)[j]? = some p → last < (j : Int) → zB p = true) ∧ (0 ≤ last → ∃ p,(wl t.Work)[last.toNat]? = some p ∧ zB p = false)) ∨ (t.Lengths ≠ [] ∧ last = 6 + lastN 0 t.Lengths)
theorem wl_set (W : Arr6ApiPos) (p : ApiPos) : ∀ k,k < 6 → wl (setW W k p) = (wl W).set k p
 | 0,_=>rfl
 | 1,_=>rfl
 | 2,_=>rfl
 | 3,_=>rfl
 | 4,_=>rfl
 | 5,_=>rfl
 | n + 6,h=>absurd h (by omega)
theorem okW6_set {W : Arr6ApiPos} {p : ApiPos} (h : okW6 W) (hp : inR p) (k : Nat) : okW6 (setW W k p) := by
 obtain ⟨h0,h1,h2,h3,h4,h5⟩ := h
 unfold setW
 split
 ·exact ⟨hp,h1,h2,h3,h4,h5⟩
 ·exact ⟨h0,hp,h2,h3,h4,h5⟩
 ·exact ⟨h0,h1,hp,h3,h4,h5⟩
 ·exact ⟨h0,h1,h2,hp,h4,h5⟩
 ·exact ⟨h0,h1,h2,h3,hp,h5⟩
 ·exact ⟨h0,h1,h2,h3,h4,hp⟩
theorem linesW_zero : ∀ (l : List ApiPos) (k : Nat),(∀ p ∈ l,zB p = true) → linesW k l = []
 | [],_,_=>rfl
 | p :: l,k,h=>by
  simp only [linesW]
  rw [if_pos (h p (by simp)),linesW_zero l (k + 1) (fun q hq=>h q (by simp [hq]))]; rfl
theorem linesW_put {p : ApiPos} (hz : zB p = false) : ∀ (l : List ApiPos) (k j : Nat),j < l.length → (∀ i q,l[i]? = some q → j ≤ i → zB q = true) → linesW k (l.set j p) = linesW k l ++ [wline (k + j) p]
 | [],_,_,h,_=>by simp at h
 | q :: l,k,0,_,h=>by
  simp only [List.set_cons_zero,linesW,Nat.add_zero]
  rw [if_neg (by simp [hz]),if_pos (h 0 q rfl (Nat.le_refl _)),linesW_zero l (k + 1) (fun r hr=>by
   obtain ⟨i,hi⟩ := List.mem_iff_getElem?.1 hr
   exact h (i + 1) r (by simpa using hi) (Nat.zero_le _))]
  rfl
 | q :: l,k,j + 1,hj,h=>by
  simp only [List.set_cons_succ,linesW]
  rw [linesW_put hz l (k + 1) j (by simpa using hj) (fun i r hi hji=>h (i + 1) r (by simpa using hi) (by omega)),List.append_assoc,show k + 1 + j = k + (j + 1) by omega]
theorem put_lines {last : Int} {t : R45Table} {i : Itm} (hI : Inv last t) (ho : okT t) (hi : i.ok) (hp : last < i.plc) : linesT (i.put t) = linesT t ++ [i.line] ∧ okT (i.put t) ∧ Inv i.plc (i.put t) := by
 cases i with
 | w k p =>
  obtain ⟨hk,hr,hz⟩ := hi
  have hlast : last < (k : Int) := hp
  rcases hI with ⟨h1,h2,h3,h4,h5⟩ | ⟨h1,h2⟩
  ·have hl : linesL t.Lengths = [] := by rw [h1]; rfl
   refine ⟨?_,⟨okW6_set ho.1 hr k,ho.2⟩,.inl ⟨h1,by show (-1 : Int) ≤ (k : Int); omega,by show (k : Int) ≤ 5; omega,fun j q hj hlt=>?_,fun _=>⟨p,?_,hz⟩⟩⟩
   ·show linesW 0 (wl (setW t.Work k p)) ++ linesL t.Lengths = linesW 0 (wl t.Work) ++ linesL t.Lengths ++ [wline k p]
    rw [wl_set _ _ k hk,linesW_put hz (wl t.Work) 0 k (by simpa [wl] using hk) (fun i q hiq hki=>h4 i q hiq (by omega)),hl,Nat.zero_add,List.append_nil,List.append_nil]
   ·have hlt : (k : Int) < (j : Int) := hlt
    have hj : (wl (setW t.Work k p))[j]? = some q := hj
    rw [wl_set _ _ k hk,List.getElem?_set_ne (by omega)] at hj
    exact h4 j q hj (by omega)
   ·show (wl (setW t.Work k p))[(k : Int).toNat]? = some p
    rw [Int.toNat_natCast,wl_set _ _ k hk,List.getElem?_set_self (by simpa [wl] using hk)]
  ·have := lastN_pos ho.2 h1
   omega
 | l n v =>
  have hlast : last < 6 + n := hp
  refine ⟨?_,⟨ho.1,(goodL_snoc _ _ _).2 ⟨ho.2,hi,?_⟩⟩,.inr ⟨by simp [Itm.put],?_⟩⟩
  ·show linesW 0 (wl t.Work) ++ linesL (t.Lengths ++ [⟨n,v⟩]) = linesW 0 (wl t.Work) ++ linesL t.Lengths ++ [lline n v]
   simp [linesL]
  ·rcases hI with ⟨h1,h2,h3,h4,h5⟩ | ⟨h1,h2⟩
   ·rw [h1]; show (0 : Int) < n; have := hi.1; omega
   ·show lastN 0 t.Lengths < n; omega
  ·show 6 + n = 6 + lastN 0 (t.Lengths ++ [⟨n,v⟩])
   rw [lastN_snoc]
def zeroT : R45Table := ⟨⟨⟨0,0,0⟩,⟨0,0,0⟩,⟨0,0,0⟩,⟨0,0,0⟩,⟨0,0,0⟩,⟨0,0,0⟩⟩,[]⟩
theorem zero_ok : okT zeroT ∧ Inv (-1) zeroT ∧ linesT zeroT = [] := by
 refine ⟨⟨⟨?_,?_,?_,?_,?_,?_⟩,trivial⟩,.inl ⟨rfl,by omega,by omega,fun j p hj _=>?_,fun h=>absurd h (by omega)⟩,rfl⟩
 all_goals first | (unfold inR zeroT; decide) | skip
 have : ∀ p ∈ wl zeroT.Work,zB p = true := by
  intro p hp
  simp only [wl,zeroT,List.mem_cons,List.not_mem_nil,or_false,or_self] at hp
  subst hp; rfl
 exact this p (List.mem_of_getElem? hj)
end Go.Proofs.YtjamgiobipdfhaaGreatDoor
namespace Go.Proofs.YtjamgiobipdfhaaGreatDoor
open Go.RowKit
set_option linter.unusedVariables false
set_option linter.unusedSimpArgs false
def entB (e : R45Length) : Bool := (decide (e.Number ≥ 1)) && ((decide (e.Number ≤ 999)) && ((decide (e.Length ≥ 0)) && (decide (e.Length ≤ 10000000))))
theorem entB_iff {e : R45Length} : entB e = true ↔ ((1 ≤ e.Number ∧ e.Number ≤ 999) ∧ 0 ≤ e.Length ∧ e.Length ≤ 10000000) := by
 unfold entB
 simp only [Bool.and_eq_true,decide_eq_true_eq]
 constructor
 ·rintro ⟨a,b,c,d⟩; exact ⟨⟨a,b⟩,c,d⟩
 ·rintro ⟨⟨a,b⟩,c,d⟩; exact ⟨a,b,c,d⟩
def prevB (L : List R45Length) (i : Nat) (e : R45Length) : Bool := decide (0 < i) && (match L[i - 1]? with | some x=>decide (e.Number ≤ x.Number) | none=>false)
def badE (L : List R45Length) (i : Nat) (e : R45Length) : Bool := !(entB e) || prevB L i e
theorem bad_iff {L l pre : List R45Length} {e : R45Length} (hL : L = pre ++ e :: l) : badE L pre.length e = true ↔ ¬ (((1 ≤ e.Number ∧ e.Number ≤ 999) ∧ 0 ≤ e.Length ∧ e.Length ≤ 10000000) ∧ lastN 0 pre < e.Number) := by
 unfold badE
 rw [Bool.or_eq_true,Bool.not_eq_true',← Bool.not_eq_true,entB_iff]
 have hp : prevB L pre.length e = true ↔ (pre ≠ [] ∧ ¬ lastN 0 pre < e.Number) := by
  unfold prevB
  rcases List.eq_nil_or_concat pre with rfl | ⟨q,x,rfl⟩
  ·simp
  ·have hx : L[(q ++ [x]).length - 1]? = some x := by rw [hL]; simp
   rw [List.concat_eq_append,hx,lastN_snoc]
   simp
 rw [hp]
 constructor
 ·rintro (h | ⟨_,h⟩) ⟨a,b⟩
  ·exact h a
  ·exact h b
 ·intro h
  by_cases c : ((1 ≤ e.Number ∧ e.Number ≤ 999) ∧ 0 ≤ e.Length ∧ e.Length ≤ 10000000)
  ·refine .inr ⟨fun e0=>?_,fun b=>h ⟨c,b⟩⟩
   subst e0
   exact h ⟨c,by show (0 : Int) < e.Number; omega⟩
  ·exact .inl c
theorem valid_loop {L : List R45Length} {f : Nat → R45Length → Unit → Option (Ex (Ex Int Unit) Unit)} {d : Unit → Option (Ex Int Unit)} (hd : d () = some (.go ())) (hf : ∀ i e,L[i]? = some e → f i e () = if badE L i e = true then some (.ret (.ret 1)) else some (.go ())) :
  ∀ (l pre : List R45Length),L = pre ++ l → (goodL (lastN 0 pre) l ∧ rangeX f d l pre.length () = some (.go ())) ∨ (¬ goodL (lastN 0 pre) l ∧ rangeX f d l pre.length () = some (.ret 1))
 | [],pre,_=>.inl ⟨trivial,hd⟩
 | e :: l,pre,hL=>by
  have hi : L[pre.length]? = some e := by rw [hL]; simp
  have hb := bad_iff hL
  simp only [rangeX,hf _ _ hi]
  by_cases h : badE L pre.length e = true
  ·right
   refine ⟨fun g=>hb.1 h ⟨g.1,g.2.1⟩,?_⟩
   simp only [h,if_true]
  ·have hg : ((1 ≤ e.Number ∧ e.Number ≤ 999) ∧ 0 ≤ e.Length ∧ e.Length ≤ 10000000) ∧ lastN 0 pre < e.Number := Classical.byContradiction (fun c=>h (hb.2 c))
   have ih := valid_loop hd hf l (pre ++ [e]) (by rw [hL]; simp)
   rw [lastN_snoc,List.length_append,List.length_singleton] at ih
   have h' : badE L pre.length e = false := by simpa using h
   simp only [h',Bool.false_eq_true,if_false]
   rcases ih with ⟨a,b⟩ | ⟨a,b⟩
   ·exact .inl ⟨⟨hg.1,hg.2,a⟩,b⟩
   ·exact .inr ⟨fun g=>a g.2.2,b⟩
theorem valid_fin {t : R45Table} (hl : t.Lengths.length ≤ 1000) (hw : okW6 t.Work) {f : Nat → R45Length → Unit → Option (Ex (Ex Int Unit) Unit)} {d : Unit → Option (Ex Int Unit)} (hd : d () = some (.go ())) (hf : ∀ i e,t.Lengths[i]? = some e → f i e () = if badE t.Lengths i e = true then some (.ret (.ret 1)) else some (.go ())) :
  (okT t ∧ bindX (some (Ex.go ())) (fun (v1 : Unit)=>bindX (guardO (okIdx t.Lengths) (rangeX f d t.Lengths 0 ())) (fun (v4 : Unit)=>some (0 : Int))) = some 0) ∨ (¬ okT t ∧ bindX (some (Ex.go ())) (fun (v1 : Unit)=>bindX (guardO (okIdx t.Lengths) (rangeX f d t.Lengths 0 ())) (fun (v4 : Unit)=>some (0 : Int))) = some 1) := by
 have e1 : bindX (some (Ex.go ())) (fun (v1 : Unit)=>bindX (guardO (okIdx t.Lengths) (rangeX f d t.Lengths 0 ())) (fun (v4 : Unit)=>some (0 : Int))) = bindX (guardO (okIdx t.Lengths) (rangeX f d t.Lengths 0 ())) (fun (v4 : Unit)=>some (0 : Int)) := rfl
 rw [e1,okIdx_of (by omega),guardO_t]
 rcases valid_loop hd hf t.Lengths [] rfl with ⟨a,b⟩ | ⟨a,b⟩
 ·have b' : rangeX f d t.Lengths 0 () = some (.go ()) := b
  exact .inl ⟨⟨hw,a⟩,by rw [b']; rfl⟩
 ·have b' : rangeX f d t.Lengths 0 () = some (.ret 1) := b
  exact .inr ⟨fun h=>a h.2,by rw [b']; rfl⟩
theorem r45_Valid_iff (t : R45Table) (hl : t.Lengths.length ≤ 1000) : (okT t ∧ r45_Valid t = some 0) ∨ (¬ okT t ∧ r45_Valid t = some 1) := by
 unfold r45_Valid
 simp only [r45_out_eq,bindO_s]
 by_cases h0 : inR t.Work.e0
 ·by_cases h1 : inR t.Work.e1
  ·by_cases h2 : inR t.Work.e2
   ·by_cases h3 : inR t.Work.e3
    ·by_cases h4 : inR t.Work.e4
     ·by_cases h5 : inR t.Work.e5
      ·simp only [h0,h1,h2,h3,h4,h5,decide_true,Bool.not_true,Bool.false_eq_true,if_false]
       refine valid_fin hl ⟨h0,h1,h2,h3,h4,h5⟩ rfl (fun i e he=>?_)
       have hlt := getElem_lt he
       unfold badE prevB
       show bindO (bindO (some (entB e)) _) _ = _
       rw [bindO_s]
       cases hE : entB e with
       | false=>rfl
       | true =>
        rw [if_pos rfl]
        by_cases hi : 0 < i
        ·obtain ⟨x,hx⟩ : ∃ x,t.Lengths[i - 1]? = some x := ⟨_,List.getElem?_eq_getElem (by omega)⟩
         have e2 : IntKind.i64.wrap ((i : Int) - 1) = ((i - 1 : Nat) : Int) := by rw [wrap_i64 (by omega) (by omega)]; omega
         rw [if_pos (by simp; omega),e2,gt_k hx,bindO_s,bindO_s,hx,decide_eq_true hi]
         simp
        ·rw [if_neg (by simp; omega),bindO_s,decide_eq_false hi]
         simp
      ·exact .inr ⟨fun h=>h5 h.1.2.2.2.2.2,by simp [h0,h1,h2,h3,h4,h5]⟩
     ·exact .inr ⟨fun h=>h4 h.1.2.2.2.2.1,by simp [h0,h1,h2,h3,h4]⟩
    ·exact .inr ⟨fun h=>h3 h.1.2.2.2.1,by simp [h0,h1,h2,h3]⟩
   ·exact .inr ⟨fun h=>h2 h.1.2.2.1,by simp [h0,h1,h2]⟩
  ·exact .inr ⟨fun h=>h1 h.1.2.1,by simp [h0,h1]⟩
 ·exact .inr ⟨fun h=>h0 h.1.1,by simp [h0]⟩
theorem linesL_text (l : List R45Length) : textL (linesL l) = l.flatMap fun e=>lline e.Number e.Length ++ [10] := by
 unfold textL linesL
 rw [List.flatMap_map]
theorem lline_len {n v : Int} (hn : -1 ≤ n ∧ n ≤ 999) (hv : -10000000 ≤ v ∧ v ≤ 10000000) : (lline n v).length ≤ 130 := by
 have a := digT_lenN hn
 have b := txtV_len v (by omega) (by omega)
 rw [lline_eq]
 simp only [List.length_append,List.length_cons,List.length_nil]
 omega
theorem r45_Format_eq {t : R45Table} (ho : okT t) (hl : t.Lengths.length ≤ 1000) : r45_Format t = some (textL (linesT t),0) := by
 have hN := goodL_N ho.2
 have hv : r45_Valid t = some 0 := by
  rcases r45_Valid_iff t hl with ⟨_,h⟩ | ⟨h,_⟩
  ·exact h
  ·exact absurd ho h
 unfold r45_Format
 rw [hv,bindO_s,if_neg (by decide),r45_Lines_eq t ho.1 hN (by omega),bindO_s]
 have hll : ∀ x ∈ linesT t,x.length ≤ 1000 := by
  intro x hx
  unfold linesT at hx
  rw [List.mem_append] at hx
  rcases hx with hx | hx
  ·have hall : ∀ (l : List ApiPos) (k : Nat),(∀ p ∈ l,inR p) → ∀ x ∈ linesW k l,x.length ≤ 1000 := by
    intro l
    induction l with
    | nil=>intro k _ x hx; simp [linesW] at hx
    | cons p l ih =>
     intro k hp x hx
     simp only [linesW,List.mem_append] at hx
     rcases hx with hx | hx
     ·split at hx
      ·simp at hx
      ·simp at hx; subst hx
       have := wline_len k (hp p (by simp)); omega
     ·exact ih (k + 1) (fun q hq=>hp q (by simp [hq])) x hx
   obtain ⟨h0,h1,h2,h3,h4,h5⟩ := ho.1
   exact hall _ 0 (by
    intro p hp
    simp only [wl,List.mem_cons,List.not_mem_nil,or_false] at hp
    rcases hp with rfl | rfl | rfl | rfl | rfl | rfl <;> assumption) x hx
  ·obtain ⟨e,he,rfl⟩ := List.mem_map.1 hx
   obtain ⟨n1,n2⟩ := hN e he
   have := lline_len n1 n2; omega
 have hcount : (linesT t).length ≤ 1006 := by
  have := linesW_len (wl t.Work) 0
  have h6 : (wl t.Work).length = 6 := rfl
  unfold linesT linesL
  rw [List.length_append,List.length_map]
  omega
 generalize linesT t = L at hll hcount
 rw [okIdx_of (by omega),guardO_t,range_fold (g := fun (o : List UInt8) (x : List UInt8)=>o ++ (x ++ [10])) (R := fun i v=>v.length ≤ i * 1001) (L := L) ?_ L 0 [] rfl (by simp)]
 ·rw [bindO_s]
  have hfold : ∀ (l : List (List UInt8)) (o : List UInt8),l.foldl (fun (o : List UInt8) (x : List UInt8)=>o ++ (x ++ [10])) o = o ++ textL l := by
   intro l
   induction l with
   | nil=>intro o; simp [textL]
   | cons x l ih=>intro o; rw [List.foldl_cons,ih]; simp [textL]
  rw [hfold,List.nil_append]
 ·intro i x v hx hr
  have hlt := getElem_lt hx
  have hxl := hll x (List.mem_of_getElem? hx)
  have hr2 : v.length ≤ 1006 * 1001 := Nat.le_trans hr (Nat.mul_le_mul_right _ (by omega))
  rw [okStr_of (by omega),guardO_t,okStr_of (by simp only [List.length_append,List.length_cons,List.length_nil]; omega),guardO_t]
  refine ⟨by rw [List.append_assoc],?_⟩
  simp only [List.length_append,List.length_cons,List.length_nil]
  rw [Nat.add_mul]; omega
theorem tb_Format_eq {t : R45Table} (ho : okT t) (hl : t.Lengths.length ≤ 1000) : tb_Format (theirsW t) = some (textL (linesT t),0) := by
 have hN := goodL_N ho.2
 have hv : tb_Valid (theirsW t) = some 0 := by
  rw [valid_same t hl]
  rcases r45_Valid_iff t hl with ⟨_,h⟩ | ⟨h,_⟩
  ·exact h
  ·exact absurd ho h
 obtain ⟨h0,h1,h2,h3,h4,h5⟩ := ho.1
 have it : ∀ n : Int,0 ≤ n ∧ n ≤ 999 → strconv_Itoa n = some (digT n) := fun n hn=>by
  unfold strconv_Itoa inI64
  rw [decide_eq_true ⟨by omega,by omega⟩,itoa_dig hn.1]; rfl
 unfold tb_Format
 rw [hv,bindO_s,if_neg (by decide)]
 have hWk : (theirsW t).Work = t.Work := rfl
 rw [hWk]
 have w : ∀ (k : Nat) (p : ApiPos),inR p → (textL (linesW k [p])).length ≤ 400 := fun k p hp=>by
  rw [linesW_one]
  split
  ·simp [textL]
  ·have := wline_len k hp
   simp [textL]; omega
 have w0 := w 0 _ h0
 have w1 := w 1 _ h1
 have w2 := w 2 _ h2
 have w3 := w 3 _ h3
 have w4 := w 4 _ h4
 have w5 := w 5 _ h5
 rw [tb_wstep0 (k := 0) (it 54 (by omega)) (dgw 0 (by omega)) h0,bindO_s]
 rw [tb_wstep (k := 1) (it 55 (by omega)) (dgw 1 (by omega)) h1 _ (by omega),bindO_s]
 rw [tb_wstep (k := 2) (it 56 (by omega)) (dgw 2 (by omega)) h2 _ (by simp only [List.length_append]; omega),bindO_s]
 rw [tb_wstep (k := 3) (it 57 (by omega)) (dgw 3 (by omega)) h3 _ (by simp only [List.length_append]; omega),bindO_s]
 rw [tb_wstep (k := 4) (it 58 (by omega)) (dgw 4 (by omega)) h4 _ (by simp only [List.length_append]; omega),bindO_s]
 rw [tb_wstep (k := 5) (it 59 (by omega)) (dgw 5 (by omega)) h5 _ (by simp only [List.length_append]; omega),bindO_s,bindO_s]
 have e6 : textL (linesW 0 [t.Work.e0]) ++ textL (linesW 1 [t.Work.e1]) ++ textL (linesW 2 [t.Work.e2]) ++ textL (linesW 3 [t.Work.e3]) ++ textL (linesW 4 [t.Work.e4]) ++ textL (linesW 5 [t.Work.e5]) = textL (linesW 0 (wl t.Work)) := by
  rw [linesW_six]
  simp only [textL_app]
 have e7 : (textL (linesW 0 (wl t.Work))).length ≤ 2400 := by
  rw [← e6]; simp only [List.length_append]; omega
 rw [e6]
 unfold linesT
 rw [textL_app,linesL_text]
 generalize textL (linesW 0 (wl t.Work)) = v0 at e7
 have hlen : (theirsW t).Lengths.length = t.Lengths.length := by simp [theirsW]
 rw [okIdx_of (by omega),guardO_t,range_fold (g := fun (o : List UInt8) (e : TableLength)=>o ++ (lline e.Number e.Length ++ [10])) (R := fun i v=>v.length ≤ 2400 + i * 131) (L := (theirsW t).Lengths) ?_ (theirsW t).Lengths 0 v0 rfl (by omega)]
 ·rw [bindO_s]
  have hfold : ∀ (l : List R45Length) (o : List UInt8),(l.map fun l=>TableLength.mk l.Number l.Length).foldl (fun (o : List UInt8) (e : TableLength)=>o ++ (lline e.Number e.Length ++ [10])) o = o ++ l.flatMap fun e=>lline e.Number e.Length ++ [10] := by
   intro l
   induction l with
   | nil=>intro o; simp
   | cons x l ih=>intro o; rw [List.map_cons,List.foldl_cons,ih]; simp
  show some ((t.Lengths.map fun l=>TableLength.mk l.Number l.Length).foldl _ v0,(0 : Int)) = _
  rw [hfold]
 ·intro i x v hx hr
  have hlt := getElem_lt hx
  have hx' : (t.Lengths.map fun l=>TableLength.mk l.Number l.Length)[i]? = some x := hx
  rw [List.getElem?_map] at hx'
  obtain ⟨e,he,rfl⟩ := Option.map_eq_some_iff.1 hx'
  have hmem := List.mem_of_getElem? he
  obtain ⟨n1,n2⟩ := hN e hmem
  have hnn : 0 ≤ e.Number := by
   have : ∀ {l : List R45Length} {m : Int},goodL m l → ∀ e ∈ l,0 ≤ e.Number := by
    intro l
    induction l with
    | nil=>intro m _ e he; simp at he
    | cons y l ih =>
     intro m h e he
     rcases List.mem_cons.1 he with rfl | he
     ·have := h.1.1.1; omega
     ·exact ih h.2.2 e he
   exact this ho.2 e hmem
  have a := digT_lenN n1
  have b := txtV_len e.Length (by omega) (by omega)
  have hr2 : v.length ≤ 2400 + 1000 * 131 := Nat.le_trans hr (Nat.add_le_add_left (Nat.mul_le_mul_right _ (by omega)) _)
  dsimp only
  rw [fmtI (by omega) (by omega),itoa_dig hnn,bindO_s,okStr_of (by simp only [List.length_append,List.length_cons,List.length_nil]; omega),guardO_t,okStr_of (by simp only [List.length_append,List.length_cons,List.length_nil]; omega),guardO_t,dc_Millimetres_eq _ (by omega) (by omega),bindO_s,okStr_of (by simp only [List.length_append,List.length_cons,List.length_nil]; omega),guardO_t,okStr_of (by simp only [List.length_append,List.length_cons,List.length_nil]; omega),guardO_t,okLen_of (by simp only [List.length_append,List.length_cons,List.length_nil]; omega),guardO_t]
  have hll := lline_len n1 n2
  refine ⟨by rw [lline_eq],?_⟩
  simp only [List.length_append,List.length_cons,List.length_nil]
  rw [Nat.add_mul]; omega
theorem formats (t : R45Table) (hl : t.Lengths.length ≤ 1000) : (okT t ∧ tb_Format (theirsW t) = some (textL (linesT t),0) ∧ r45_Format t = some (textL (linesT t),0)) ∨ (¬ okT t ∧ tb_Format (theirsW t) = some ([],1) ∧ r45_Format t = some ([],1)) := by
 rcases r45_Valid_iff t hl with ⟨h,_⟩ | ⟨h,hv⟩
 ·exact .inl ⟨h,tb_Format_eq h hl,r45_Format_eq h hl⟩
 ·refine .inr ⟨h,?_,?_⟩
  ·unfold tb_Format
   rw [valid_same t hl,hv]; rfl
  ·unfold r45_Format
   rw [hv]; rfl
end Go.Proofs.YtjamgiobipdfhaaGreatDoor
namespace Go.Proofs.YtjamgiobipdfhaaGreatDoor
open Go.RowKit
set_option linter.unusedVariables false
set_option linter.unusedSimpArgs false
end Go.Proofs.YtjamgiobipdfhaaGreatDoor
namespace Go.Proofs.YtjamgiobipdfhaaGreatDoor
open Go.RowKit
set_option linter.unusedVariables false
set_option linter.unusedSimpArgs false
theorem wl_in {W : Arr6ApiPos} (h : okW6 W) : ∀ q ∈ wl W,inR q := by
 obtain ⟨h0,h1,h2,h3,h4,h5⟩ := h
 intro q hq
 simp only [wl,List.mem_cons,List.not_mem_nil,or_false] at hq
 rcases hq with rfl | rfl | rfl | rfl | rfl | rfl <;> assumption
theorem linesT_len {t : R45Table} : (linesT t).length ≤ 6 + t.Lengths.length := by
 have := linesW_len (wl t.Work) 0
 have h6 : (wl t.Work).length = 6 := rfl
 unfold linesT linesL
 rw [List.length_append,List.length_map]
 omega
end Go.Proofs.YtjamgiobipdfhaaGreatDoor
namespace Go.Proofs.YtjamgiobipdfhaaGreatDoor
open Go.RowKit
set_option linter.unusedVariables false
set_option linter.unusedSimpArgs false
theorem idxd_facts (d : UInt8) : ∀ l : List UInt8,(Lib.indexByte l d = -1 ∧ l.takeWhile (· != d) = l ∧ l.dropWhile (· != d) = [] ∧ l.contains d = false) ∨ (∃ o : Nat,Lib.indexByte l d = (o : Int) ∧ o < l.length ∧ l.take o = l.takeWhile (· != d) ∧ l.drop o = l.dropWhile (· != d) ∧ l.contains d = true)
 | []=>.inl ⟨rfl,rfl,rfl,rfl⟩
 | b :: l=>by
  unfold Lib.indexByte
  by_cases hb : b = d
  ·subst hb
   refine .inr ⟨0,?_,by simp,by simp,by simp,by simp⟩
   rw [if_pos (by simp)]; rfl
  ·have hb1 : (b == d) = false := by simpa using hb
   have hb2 : (b != d) = true := by simp [hb]
   have hb3 : (d == b) = false := by simpa using fun e=>hb e.symm
   rw [hb1]
   simp only [Bool.false_eq_true,if_false,List.takeWhile_cons,List.dropWhile_cons,hb2,if_true,List.contains_cons,hb3,Bool.false_or]
   rcases idxd_facts d l with ⟨h1,h2,h3,h4⟩ | ⟨o,h1,h2,h3,h4,h5⟩
   ·left
    rw [h1,h2]
    exact ⟨rfl,rfl,h3,h4⟩
   ·right
    have hne : ((o : Int) == -1) = false := by simp
    rw [h1,hne]
    refine ⟨o + 1,by simp,by simpa using h2,?_,by simpa using h4,h5⟩
    rw [List.take_succ_cons,h3]
theorem cutd (d : UInt8) (s : List UInt8) (hs : s.length ≤ 1000000) : strings_Cut s [d] = some (s.takeWhile (· != d),(s.dropWhile (· != d)).drop 1,s.contains d) := by
 have hi : stringslite_Index s [d] = some (Lib.indexByte s d) := by
  unfold stringslite_Index
  by_cases he : s = [d]
  ·subst he
   rw [show (((([d] : List UInt8).length : Int) == 0) || (([d] : List UInt8) == [d])) = true by simp,if_pos rfl]
   unfold Lib.indexByte
   rw [if_pos (by simp)]
  ·have : (((([d] : List UInt8).length : Int) == 0) || (([d] : List UInt8) == s)) = false := by
    simp
    exact fun e=>he e.symm
   rw [this]
   show bindO (stringslite_IndexByte s (d.toNat : Int)) _ = _
   unfold stringslite_IndexByte
   have hd : ((d.toNat : Int)).toNat.toUInt8 = d := by
    rw [Int.toNat_natCast]
    exact UInt8.ofNat_toNat
   rw [hd]; rfl
 unfold strings_Cut stringslite_Cut
 rw [hi,bindO_s]
 rcases idxd_facts d s with ⟨h1,h2,h3,h4⟩ | ⟨o,h1,h2,h3,h4,h5⟩
 ·rw [h1,h2,h3,h4]; rfl
 ·rw [h1,h5,← h3,← h4]
  have hw : IntKind.i64.wrap ((o : Int) + (([d] : List UInt8).length : Int)) = ((o + 1 : Nat) : Int) := by
   simp only [List.length_cons,List.length_nil]
   rw [wrap_i64 (by omega) (by omega)]; omega
  have hc1 : cutT s (o : Int) = some (s.take o) := by unfold cutT; rw [if_neg (by omega),Int.toNat_natCast]
  have hc2 : cutF s ((o + 1 : Nat) : Int) = some (s.drop (o + 1)) := by unfold cutF; rw [if_neg (by omega),Int.toNat_natCast]
  rw [decide_eq_true (show (o : Int) ≥ 0 by omega),if_pos rfl,hc1,bindO_s,hw,hc2,bindO_s,bindO_s,List.drop_drop]
theorem cont_drop (d : UInt8) (s : List UInt8) : (s.contains d = false ∧ s.dropWhile (· != d) = [] ∧ s.takeWhile (· != d) = s) ∨ (s.contains d = true ∧ ∃ q,s.dropWhile (· != d) = d :: q) := by
 rcases idxd_facts d s with ⟨_,h2,h3,h4⟩ | ⟨o,_,h2,h3,h4,h5⟩
 ·exact .inl ⟨h4,h3,h2⟩
 ·right
  refine ⟨h5,?_⟩
  cases hd : s.dropWhile (· != d) with
  | nil =>
   rw [hd] at h4
   have := congrArg List.length h4
   simp at this; omega
  | cons c r =>
   have hc := List.head?_dropWhile_not (· != d) s
   rw [hd] at hc
   simp at hc
   rw [hc]
   exact ⟨r,rfl⟩
def tbRead (line : List UInt8) (u : TableTable) : Option (Int × TableTable) :=
  bindO (strings_Split line [32]) fun (y2 : (List (List UInt8))) =>
    if (decide ((y2.length : Int) < 3)) = true then
      some (-1,u)
    else
      bindO (cutF y2 2) fun (s1 : (List (List UInt8))) =>
      bindO (tb_lengths s1) fun (y3 : (List Int) × Bool) =>
      if (!y3.2) = true then
        some (-1,u)
      else
        bindO (bindO (gt y2 0) fun (e1 : (List UInt8)) =>
            if (e1 == [119,111,114,107]) = true then
              some ((y3.1.length : Int) == 3)
            else
              some false) fun (v2 : Bool) =>
        if v2 = true then
          bindO (gt y2 1) fun (e2 : (List UInt8)) =>
          bindO (slices_Index_string_string [[71,53,52],[71,53,53],[71,53,54],[71,53,55],[71,53,56],[71,53,57]] e2) fun (y4 : Int) =>
          bindO (gt y3.1 0) fun (e3 : Int) =>
          bindO (gt y3.1 1) fun (e4 : Int) =>
          bindO (gt y3.1 2) fun (e5 : Int) =>
          if ((decide (y4 < 0)) || ((e3 == 0) && ((e4 == 0) && (e5 == 0)))) = true then
            some (-1,u)
          else
            bindO (guardO (decide (0 ≤ y4 ∧ y4 < 6)) (
                if (y4 == 0) = true then
                  some (TableTable.mk (Arr6ApiPos.mk (ApiPos.mk e3 e4 e5) u.Work.e1 u.Work.e2 u.Work.e3 u.Work.e4 u.Work.e5) u.Lengths)
                else
                  if (y4 == 1) = true then
                    some (TableTable.mk (Arr6ApiPos.mk u.Work.e0 (ApiPos.mk e3 e4 e5) u.Work.e2 u.Work.e3 u.Work.e4 u.Work.e5) u.Lengths)
                  else
                    if (y4 == 2) = true then
                      some (TableTable.mk (Arr6ApiPos.mk u.Work.e0 u.Work.e1 (ApiPos.mk e3 e4 e5) u.Work.e3 u.Work.e4 u.Work.e5) u.Lengths)
                    else
                      if (y4 == 3) = true then
                        some (TableTable.mk (Arr6ApiPos.mk u.Work.e0 u.Work.e1 u.Work.e2 (ApiPos.mk e3 e4 e5) u.Work.e4 u.Work.e5) u.Lengths)
                      else
                        if (y4 == 4) = true then
                          some (TableTable.mk (Arr6ApiPos.mk u.Work.e0 u.Work.e1 u.Work.e2 u.Work.e3 (ApiPos.mk e3 e4 e5) u.Work.e5) u.Lengths)
                        else
                          some (TableTable.mk (Arr6ApiPos.mk u.Work.e0 u.Work.e1 u.Work.e2 u.Work.e3 u.Work.e4 (ApiPos.mk e3 e4 e5)) u.Lengths))) fun (v3 : TableTable) =>
            some (y4,v3)
        else
          bindO (bindO (gt y2 0) fun (e6 : (List UInt8)) =>
              if (e6 == [108,101,110,103,116,104]) = true then
                some ((y3.1.length : Int) == 1)
              else
                some false) fun (v4 : Bool) =>
          if v4 = true then
            bindO (gt y2 1) fun (e7 : (List UInt8)) =>
            bindO (strconv_ParseIntE e7 10 64) fun (y5 : Int × Bool) =>
            bindO (gt y3.1 0) fun (e8 : Int) =>
            bindO (if y5.2 = true then
                  bindO (strconv_FormatInt y5.1 10) fun (y6 : (List UInt8)) =>
                  if (y6 == e7) = true then
                    bindO (tb_entry (TableLength.mk y5.1 e8)) fun (y7 : Bool) =>
                    some (!y7)
                  else
                    some true
                else
                  some true) fun (v5 : Bool) =>
            if v5 = true then
              some (-1,u)
            else
              guardO (okLen (u.Lengths.length + 1)) (
              some (IntKind.i64.wrap (6 + y5.1),TableTable.mk u.Work (u.Lengths ++ [TableLength.mk y5.1 e8])))
          else
            some (-1,u)
theorem range_acc {α β ε : Type} {f : Nat → α → List β → Option (Ex (Ex ε (List β)) (List β))} {d : List β → Option (Ex ε (List β))} (c : α → Bool) (g : α → β) (r : ε) {L : List α} {M : Nat} (hd : ∀ v,d v = some (.go v)) (hf : ∀ i x v,x ∈ L → v.length ≤ M → f i x v = if c x = true then some (.go (v ++ [g x])) else some (.ret (.ret r))) :
  ∀ (l : List α) (i : Nat) (v : List β),(∀ x ∈ l,x ∈ L) → v.length + l.length ≤ M → rangeX f d l i v = some (if l.all c = true then .go (v ++ l.map g) else .ret r)
 | [],i,v,_,_=>by simp [rangeX,hd]
 | x :: l,i,v,hm,hv=>by
  simp only [List.length_cons] at hv
  simp only [rangeX,hf i x v (hm x (by simp)) (by omega),List.all_cons]
  by_cases hc : c x = true
  ·have ih := range_acc c g r hd hf l (i + 1) (v ++ [g x]) (fun y hy=>hm y (by simp [hy])) (by simp; omega)
   simp only [hc,if_true,ih,Bool.true_and,List.map_cons,List.append_assoc,List.singleton_append]
  ·have hc' : c x = false := by simpa using hc
   simp [hc']
theorem tb_lengths_eq {ws : List (List UInt8)} (hw : ∀ w ∈ ws,w.length ≤ 800) (hl : ws.length ≤ 100000) : tb_lengths ws = some (if ws.all cano = true then (ws.map fun w=>(fmV w).1,true) else ([],false)) := by
 unfold tb_lengths
 rw [okIdx_of (by omega),guardO_t,range_acc (L := ws) (M := 100000) cano (fun w=>(fmV w).1) ([],false) (fun _=>rfl) (fun i x v hx hv=>?_) ws 0 [] (fun x h=>h) (by simpa using hl)]
 ·cases ws.all cano <;> rfl
 ·obtain ⟨h1,_,h3⟩ := fm_both x (hw x hx)
  rw [h1,bindO_s]
  unfold cano
  by_cases h0 : (fmV x).2 = 0
  ·have hb := h3 h0
   rw [if_neg (by simp [h0]),dc_Millimetres_eq _ (by omega) (by omega),bindO_s,bindO_s,h0]
   cases ht : (txtV (fmV x).1 == x) with
   | true=>rw [if_neg (by simp),okLen_of (by omega),guardO_t]; rfl
   | false=>rfl
  ·rw [if_pos (by simpa using h0),bindO_s,if_pos rfl]
   have : ((fmV x).2 == 0) = false := by simpa using h0
   rw [this]; rfl
theorem idx_gw (w : List UInt8) : (∃ k,k < 6 ∧ w = gw k ∧ slices_Index_string_string [[71,53,52],[71,53,53],[71,53,54],[71,53,55],[71,53,56],[71,53,57]] w = some (k : Int)) ∨ ((∀ k,k < 6 → w ≠ gw k) ∧ slices_Index_string_string [[71,53,52],[71,53,53],[71,53,54],[71,53,55],[71,53,56],[71,53,57]] w = some (-1)) := by
 by_cases h : ∃ k,k < 6 ∧ w = gw k
 ·obtain ⟨k,hk,rfl⟩ := h
  refine .inl ⟨k,hk,rfl,?_⟩
  have : k = 0 ∨ k = 1 ∨ k = 2 ∨ k = 3 ∨ k = 4 ∨ k = 5 := by omega
  rcases this with rfl | rfl | rfl | rfl | rfl | rfl <;> rfl
 ·have hn : ∀ k,k < 6 → w ≠ gw k := fun k hk e=>h ⟨k,hk,e⟩
  refine .inr ⟨hn,?_⟩
  have e0 : (w == [71,53,52]) = false := by
   have h : w ≠ [71,53,52] := hn 0 (by omega)
   simpa using h
  have e1 : (w == [71,53,53]) = false := by
   have h : w ≠ [71,53,53] := hn 1 (by omega)
   simpa using h
  have e2 : (w == [71,53,54]) = false := by
   have h : w ≠ [71,53,54] := hn 2 (by omega)
   simpa using h
  have e3 : (w == [71,53,55]) = false := by
   have h : w ≠ [71,53,55] := hn 3 (by omega)
   simpa using h
  have e4 : (w == [71,53,56]) = false := by
   have h : w ≠ [71,53,56] := hn 4 (by omega)
   simpa using h
  have e5 : (w == [71,53,57]) = false := by
   have h : w ≠ [71,53,57] := hn 5 (by omega)
   simpa using h
  unfold slices_Index_string_string
  simp only [rangeX,e0,e1,e2,e3,e4,e5,Bool.false_eq_true,if_false]
  rfl
def isR (t : R45Table) (line : List UInt8) (r : Int × TableTable) : Prop := (∃ it : Itm,it.ok ∧ line = it.line ∧ r = (it.plc,theirsW (it.put t))) ∨ ((∀ it : Itm,it.ok → line ≠ it.line) ∧ r.1 = -1)
theorem isR_no {t : R45Table} {line : List UInt8} {u : TableTable} (h : ∀ it : Itm,it.ok → pcb 32 line = it.words → False) : isR t line (-1,u) := .inr ⟨fun it hok e=>h it hok ((line_iff hok).1 e),rfl⟩
theorem cano_fm {w : List UInt8} (h : cano w = true) : (fmV w).2 = 0 ∧ txtV (fmV w).1 = w := by
 unfold cano at h
 simpa using h
theorem tbRead_ok {t : R45Table} {line : List UInt8} (hl : line.length ≤ 700) (hL : t.Lengths.length ≤ 900) : Tot (tbRead line (theirsW t)) (isR t line) := by
 have hTl : (theirsW t).Lengths.length = t.Lengths.length := by simp [theirsW]
 have hmem : ∀ w ∈ pcb 32 line,w.length ≤ 700 := fun w hw=>Nat.le_trans (pcb_mem hw) hl
 have hpl := pcb_len 32 line
 unfold tbRead
 rw [show strings_Split line [32] = guardO (decide (line.length ≤ 16777216)) (some (Lib.split line [32])) from rfl,decide_eq_true (by omega),guardO_t,bindO_s,split_pcb]
 obtain ⟨ws,hws⟩ : ∃ ws,pcb 32 line = ws := ⟨_,rfl⟩
 rw [hws] at hmem hpl ⊢
 refine Tot.ite (fun h3=>.ok (isR_no fun it hok hw=>?_)) (fun h3=>?_)
 ·rw [hws] at hw
  subst hw
  cases it <;> simp [Itm.words,wlineW,llineW] at h3
 ·have h3' : 3 ≤ ws.length := by simp at h3; omega
  obtain ⟨w0,w1,r,rfl⟩ : ∃ w0 w1 r,ws = w0 :: w1 :: r := by
   match ws,h3' with
   | a :: b :: r,_=>exact ⟨a,b,r,rfl⟩
  rw [show cutF (w0 :: w1 :: r) 2 = some r from by unfold cutF; rw [if_neg (by simp; omega)]; rfl,bindO_s,tb_lengths_eq (fun w hw=>by have := hmem w (by simp [hw]); omega) (by simp at hpl; omega),bindO_s]
  cases hc : r.all cano with
  | false =>
   refine .ok (isR_no fun it hok hw=>?_)
   rw [hws] at hw
   cases it with
   | w k p =>
    obtain ⟨_,⟨q1,q2,q3⟩,_⟩ := hok
    simp only [Itm.words,wlineW,List.cons.injEq] at hw
    rw [hw.2.2] at hc
    simp [cano_txt q1,cano_txt q2,cano_txt q3] at hc
   | l n v =>
    simp only [Itm.words,llineW,List.cons.injEq] at hw
    rw [hw.2.2] at hc
    simp [cano_txt (n := v) (by have := hok.2; omega)] at hc
  | true =>
   rw [if_pos rfl]
   have hcr : ∀ w ∈ r,(fmV w).2 = 0 ∧ txtV (fmV w).1 = w := fun w hw=>cano_fm (List.all_eq_true.1 hc w hw)
   rw [if_neg (show ¬ ((!true) = true) by decide),show gt (w0 :: w1 :: r) 0 = some w0 from rfl,bindO_s]
   refine Tot.bind (E := fun b=>b = true ↔ (w0 = wordW ∧ r.length = 3)) (Tot.ite (fun e=>.ok ?_) (fun e=>.ok ?_)) (fun b hb=>Tot.ite (fun hT=>?_) (fun hF=>?_))
   ·have : w0 = wordW := by simpa [wordW] using e
    constructor
    ·intro h; exact ⟨this,by simp at h; omega⟩
    ·rintro ⟨_,h⟩; simp; omega
   ·constructor
    ·intro h; cases h
    ·rintro ⟨h,_⟩; rw [h] at e; simp [wordW] at e
   ·obtain ⟨e0,e3⟩ := hb.1 hT
    subst e0
    obtain ⟨x,y,z,rfl⟩ : ∃ x y z,r = [x,y,z] := by
     match r,e3 with
     | [a,b,c],_=>exact ⟨a,b,c,rfl⟩
    have hx := hcr x (by simp)
    have hy := hcr y (by simp)
    have hz := hcr z (by simp)
    have rng : ∀ w ∈ [x,y,z],-10000000 ≤ (fmV w).1 ∧ (fmV w).1 ≤ 10000000 := fun w hw=>(fm_both w (by have := hmem w (by simp at hw ⊢; rcases hw with h | h | h <;> simp [h]); omega)).2.2 (hcr w hw).1
    rw [show gt (wordW :: w1 :: [x,y,z]) 1 = some w1 from rfl,bindO_s]
    dsimp only
    rw [show List.map (fun w=>(fmV w).1) [x,y,z] = [(fmV x).1,(fmV y).1,(fmV z).1] from rfl]
    rcases idx_gw w1 with ⟨k,hk,e1,hi⟩ | ⟨hno,hi⟩
    ·rw [hi,bindO_s,show gt [(fmV x).1,(fmV y).1,(fmV z).1] 0 = some (fmV x).1 from rfl,bindO_s,show gt [(fmV x).1,(fmV y).1,(fmV z).1] 1 = some (fmV y).1 from rfl,bindO_s,show gt [(fmV x).1,(fmV y).1,(fmV z).1] 2 = some (fmV z).1 from rfl,bindO_s]
     refine Tot.ite (fun hbad=>.ok (isR_no fun it hok hw=>?_)) (fun hgood=>?_)
     ·rw [hws] at hw
      cases it with
      | l n v=>simp [Itm.words,llineW] at hw
      | w j q =>
       obtain ⟨q1,⟨r1,r2,r3⟩,q3⟩ := hok
       simp only [Itm.words,wlineW,List.cons.injEq,and_true,true_and] at hw
       obtain ⟨_,c1,c2,c3⟩ := hw
       rw [c1,c2,c3,fmV_txt r1,fmV_txt r2,fmV_txt r3] at hbad
       have hq : zB q = true := by
        have hk0 : decide ((k : Int) < 0) = false := by simp
        rw [hk0,Bool.false_or] at hbad
        exact hbad
       rw [hq] at q3; cases q3
     ·have hk0 : decide ((k : Int) < 0) = false := by simp
      rw [hk0,Bool.false_or] at hgood
      have hput : (guardO (decide (0 ≤ (k : Int) ∧ (k : Int) < 6)) (if ((k : Int) == 0) = true then some (TableTable.mk (Arr6ApiPos.mk (ApiPos.mk (fmV x).1 (fmV y).1 (fmV z).1) (theirsW t).Work.e1 (theirsW t).Work.e2 (theirsW t).Work.e3 (theirsW t).Work.e4 (theirsW t).Work.e5) (theirsW t).Lengths) else if ((k : Int) == 1) = true then some (TableTable.mk (Arr6ApiPos.mk (theirsW t).Work.e0 (ApiPos.mk (fmV x).1 (fmV y).1 (fmV z).1) (theirsW t).Work.e2 (theirsW t).Work.e3 (theirsW t).Work.e4 (theirsW t).Work.e5) (theirsW t).Lengths) else if ((k : Int) == 2) = true then some (TableTable.mk (Arr6ApiPos.mk (theirsW t).Work.e0 (theirsW t).Work.e1 (ApiPos.mk (fmV x).1 (fmV y).1 (fmV z).1) (theirsW t).Work.e3 (theirsW t).Work.e4 (theirsW t).Work.e5) (theirsW t).Lengths) else if ((k : Int) == 3) = true then some (TableTable.mk (Arr6ApiPos.mk (theirsW t).Work.e0 (theirsW t).Work.e1 (theirsW t).Work.e2 (ApiPos.mk (fmV x).1 (fmV y).1 (fmV z).1) (theirsW t).Work.e4 (theirsW t).Work.e5) (theirsW t).Lengths) else if ((k : Int) == 4) = true then some (TableTable.mk (Arr6ApiPos.mk (theirsW t).Work.e0 (theirsW t).Work.e1 (theirsW t).Work.e2 (theirsW t).Work.e3 (ApiPos.mk (fmV x).1 (fmV y).1 (fmV z).1) (theirsW t).Work.e5) (theirsW t).Lengths) else some (TableTable.mk (Arr6ApiPos.mk (theirsW t).Work.e0 (theirsW t).Work.e1 (theirsW t).Work.e2 (theirsW t).Work.e3 (theirsW t).Work.e4 (ApiPos.mk (fmV x).1 (fmV y).1 (fmV z).1)) (theirsW t).Lengths))) = some (theirsW ((Itm.w k ⟨(fmV x).1,(fmV y).1,(fmV z).1⟩).put t)) := by
       have : k = 0 ∨ k = 1 ∨ k = 2 ∨ k = 3 ∨ k = 4 ∨ k = 5 := by omega
       rcases this with rfl | rfl | rfl | rfl | rfl | rfl <;> rfl
      rw [hput,bindO_s]
      have hok : (Itm.w k ⟨(fmV x).1,(fmV y).1,(fmV z).1⟩).ok := ⟨hk,⟨rng x (by simp),rng y (by simp),rng z (by simp)⟩,hgood⟩
      refine .ok (.inl ⟨_,hok,(line_iff hok).2 ?_,rfl⟩)
      rw [hws]
      simp only [Itm.words,wlineW,hx.2,hy.2,hz.2,e1]
    ·rw [hi,bindO_s,show gt [(fmV x).1,(fmV y).1,(fmV z).1] 0 = some (fmV x).1 from rfl,bindO_s,show gt [(fmV x).1,(fmV y).1,(fmV z).1] 1 = some (fmV y).1 from rfl,bindO_s,show gt [(fmV x).1,(fmV y).1,(fmV z).1] 2 = some (fmV z).1 from rfl,bindO_s,if_pos (by simp)]
     refine .ok (isR_no fun it hok hw=>?_)
     rw [hws] at hw
     cases it with
     | l n v=>simp [Itm.words,llineW] at hw
     | w j q =>
      simp only [Itm.words,wlineW,List.cons.injEq,and_true,true_and] at hw
      exact hno j hok.1 hw.1
   ·rw [bindO_s]
    refine Tot.bind (E := fun b=>b = true ↔ (w0 = wordL ∧ r.length = 1)) (Tot.ite (fun e=>.ok ?_) (fun e=>.ok ?_)) (fun b2 hb2=>Tot.ite (fun hT=>?_) (fun hF2=>.ok (isR_no fun it hok hw=>?_)))
    ·have : w0 = wordL := by simpa [wordL] using e
     constructor
     ·intro h; exact ⟨this,by simp at h; omega⟩
     ·rintro ⟨_,h⟩; simp; omega
    ·constructor
     ·intro h; cases h
     ·rintro ⟨h,_⟩; rw [h] at e; simp [wordL] at e
    ·obtain ⟨e0,e1⟩ := hb2.1 hT
     subst e0
     obtain ⟨x,rfl⟩ : ∃ x,r = [x] := by
      match r,e1 with
      | [a],_=>exact ⟨a,rfl⟩
     have hx := hcr x (by simp)
     obtain ⟨u,hu,hu2⟩ := pie_tot w1 (by have := hmem w1 (by simp); omega)
     rw [show gt (wordL :: w1 :: [x]) 1 = some w1 from rfl,bindO_s,hu,bindO_s]
     dsimp only
     rw [show List.map (fun w=>(fmV w).1) [x] = [(fmV x).1] from rfl,show gt [(fmV x).1] 0 = some (fmV x).1 from rfl,bindO_s]
     refine Tot.bind (E := fun b=>b = false ↔ (u.2 = true ∧ Lib.itoa u.1 = w1 ∧ (1 ≤ u.1 ∧ u.1 ≤ 999) ∧ 0 ≤ (fmV x).1 ∧ (fmV x).1 ≤ 10000000)) (Tot.ite (fun h2=>?_) (fun h2=>.ok ⟨fun h=>(by cases h),fun ⟨h,_⟩=>by rw [h] at h2; cases h2⟩)) (fun b3 hb3=>Tot.ite (fun hT3=>.ok (isR_no fun it hok hw=>?_)) (fun hF3=>?_))
     ·obtain ⟨g1,g2⟩ := hu2 h2
      rw [fmtI g1 g2,bindO_s]
      refine Tot.ite (fun h4=>?_) (fun h4=>.ok ⟨fun h=>(by cases h),fun ⟨_,h,_⟩=>by rw [h] at h4; simp at h4⟩)
      have h4' : Lib.itoa u.1 = w1 := by simpa using h4
      unfold tb_entry
      rw [bindO_s]
      refine .ok ?_
      dsimp only
      constructor
      ·intro h
       simp only [Bool.not_eq_false',Bool.and_eq_true,decide_eq_true_eq] at h
       obtain ⟨a,b,c,d⟩ := h
       exact ⟨h2,h4',⟨a,b⟩,c,d⟩
      ·rintro ⟨_,_,⟨a,b⟩,c,d⟩
       simp [a,b,c,d]
     ·rw [hws] at hw
      cases it with
      | w j q=>simp [Itm.words,wlineW] at hw
      | l n v =>
       simp only [Itm.words,llineW,List.cons.injEq,and_true,true_and] at hw
       obtain ⟨c1,c2⟩ := hw
       obtain ⟨h1,h2⟩ := hok
       rw [c1,pie_dig h1] at hu
       injection hu with hu
       have : b3 = false := hb3.2 ⟨by rw [← hu],by rw [← hu,c1]; exact itoa_dig (by omega),by rw [← hu]; exact h1,by rw [c2,fmV_txt (n := v) (by omega)]; exact h2⟩
       rw [this] at hT3; cases hT3
     ·obtain ⟨g1,g2,g3,g4⟩ := hb3.1 hF3
      rw [hTl,okLen_of (by omega),guardO_t]
      have hok : (Itm.l u.1 (fmV x).1).ok := ⟨g3,g4⟩
      refine .ok (.inl ⟨_,hok,(line_iff hok).2 ?_,?_⟩)
      ·rw [hws]
       rw [itoa_dig (by omega)] at g2
       simp only [Itm.words,llineW,hx.2,g2]
      ·rw [wrap_i64 (by omega) (by omega)]
       simp [Itm.plc,Itm.put,theirsW]
    ·rw [hws] at hw
     cases it with
     | w j q =>
      simp only [Itm.words,wlineW,List.cons.injEq] at hw
      have : b = true := hb.2 ⟨hw.1,by rw [hw.2.2]; rfl⟩
      rw [this] at hF; cases hF
     | l n v =>
      simp only [Itm.words,llineW,List.cons.injEq] at hw
      have : b2 = true := hb2.2 ⟨hw.1,by rw [hw.2.2]; rfl⟩
      rw [this] at hF2; cases hF2
end Go.Proofs.YtjamgiobipdfhaaGreatDoor
namespace Go.Proofs.YtjamgiobipdfhaaGreatDoor
open Go.RowKit
set_option linter.unusedVariables false
set_option linter.unusedSimpArgs false
open Classical in
noncomputable def pick (last : Int) (line : List UInt8) : Option Itm := if h : ∃ it : Itm,it.ok ∧ line = it.line ∧ last < it.plc then some h.choose else none
theorem pick_some {last : Int} {line : List UInt8} {it : Itm} (h1 : it.ok) (h2 : line = it.line) (h3 : last < it.plc) : pick last line = some it := by
 have h : ∃ it : Itm,it.ok ∧ line = it.line ∧ last < it.plc := ⟨it,h1,h2,h3⟩
 unfold pick
 rw [dif_pos h]
 congr 1
 exact line_inj h.choose_spec.1 h1 (by rw [← h.choose_spec.2.1,h2])
theorem pick_none {last : Int} {line : List UInt8} (h : ∀ it : Itm,it.ok → line = it.line → ¬ last < it.plc) : pick last line = none := by
 unfold pick
 rw [dif_neg]
 rintro ⟨it,h1,h2,h3⟩
 exact h it h1 h2 h3
noncomputable def runL : List (List UInt8) → Int → Int → R45Table → R45Table × Int × Int
 | [],_,n,t=>(t,0,0)
 | [p],_,n,t=>if p = [] then (t,0,0) else (zeroT,n,2)
 | p :: q :: r,last,n,t=>match pick last p with
  | some it=>runL (q :: r) it.plc (n + 1) (it.put t)
  | none=>(zeroT,n,2)
theorem runL_step {p : List UInt8} {ps : List (List UInt8)} (hp : ps ≠ []) (last n : Int) (t : R45Table) : runL (p :: ps) last n t = match pick last p with | some it=>runL ps it.plc (n + 1) (it.put t) | none=>(zeroT,n,2) := by
 cases ps with
 | nil=>exact absurd rfl hp
 | cons q r=>rfl
theorem inv_ge {last : Int} {t : R45Table} (ho : okT t) (h : Inv last t) : -1 ≤ last := by
 rcases h with ⟨_,h,_⟩ | ⟨h1,h2⟩
 ·exact h
 ·have := lastN_pos ho.2 h1; omega
theorem put_len (it : Itm) (t : R45Table) : (it.put t).Lengths.length ≤ t.Lengths.length + 1 := by
 cases it <;> simp [Itm.put]
theorem tw_free : ∀ (s : List UInt8),∀ c ∈ s.takeWhile (· != 10),c ≠ 10
 | [],c,h=>by simp at h
 | d :: s,c,h=>by
  rw [List.takeWhile_cons] at h
  split at h
  ·rename_i hd
   rcases List.mem_cons.1 h with rfl | h
   ·simpa using hd
   ·exact tw_free s c h
  ·simp at h
theorem cut_piece {s : List UInt8} (h : s.contains 10 = true) : ∃ p r,s.takeWhile (· != 10) = p ∧ (s.dropWhile (· != 10)).drop 1 = r ∧ s = p ++ 10 :: r ∧ ∀ c ∈ p,c ≠ 10 := by
 rcases cont_drop 10 s with ⟨h1,_⟩ | ⟨_,q,hq⟩
 ·rw [h] at h1; cases h1
 ·refine ⟨_,_,rfl,rfl,?_,tw_free s⟩
  rw [hq,List.drop_one,List.tail_cons,← hq,List.takeWhile_append_dropWhile]
theorem no_piece {s : List UInt8} (h : s.contains 10 = false) : ∀ c ∈ s,c ≠ 10 := by
 intro c hc e
 subst e
 rw [List.contains_iff_mem.2 hc] at h; cases h
theorem tb_Parse_eq {s : List UInt8} (hl : s.length ≤ 20000) (hP : ∀ p ∈ pcb 10 s,p.length ≤ 700) (hC : (pcb 10 s).length ≤ 700) : tb_Parse s = some (theirsW (runL (pcb 10 s) (-1) 1 zeroT).1,(runL (pcb 10 s) (-1) 1 zeroT).2.1,(runL (pcb 10 s) (-1) 1 zeroT).2.2) := by
 obtain ⟨RES,hRES⟩ : ∃ RES,runL (pcb 10 s) (-1) 1 zeroT = RES := ⟨_,rfl⟩
 rw [hRES]
 have key : Tot (tb_Parse s) (fun e=>e = (theirsW RES.1,RES.2.1,RES.2.2)) := by
  unfold tb_Parse
  refine Tot.ite (fun h=>by simp at h; omega) (fun _=>?_)
  refine Tot.bindX (E := fun v=>v = theirsW RES.1 ∧ RES.2 = (0,0)) (TotX.of (Tot.loop (fun m (v : List UInt8 × Int × Int × TableTable)=>v.1.length = m ∧ m ≤ 20000 ∧ (∀ p ∈ pcb 10 v.1,p.length ≤ 700) ∧ ∃ t : R45Table,v.2.2.2 = theirsW t ∧ okT t ∧ Inv v.2.1 t ∧ runL (pcb 10 v.1) v.2.1 v.2.2.1 t = RES ∧ t.Lengths.length + (pcb 10 v.1).length ≤ 700 ∧ 1 ≤ v.2.2.1 ∧ v.2.2.1 + ((pcb 10 v.1).length : Int) ≤ 701) _ s.length (fuel_gt (by omega)) ⟨rfl,hl,hP,zeroT,rfl,zero_ok.1,zero_ok.2.1,hRES,by simp [zeroT]; omega,by show (1 : Int) ≤ 1; omega,by show (1 : Int) + ((pcb 10 s).length : Int) ≤ 701; omega⟩ (fun m v hv=>?_))) (fun v hv=>.ok (by rw [hv.1,hv.2]))
  obtain ⟨s,last,n,u⟩ := v
  obtain ⟨h1,h2,hP,t,h3,ho,hI,hR,hb,hn1,hn2⟩ := hv
  dsimp only at h1 h2 hP h3 hI hR hb hn1 hn2 ⊢
  subst h3
  have hge := inv_ge ho hI
  refine TotX.ite (fun hne=>?_) (fun he=>.ret ?_)
  ·have hne' : s ≠ [] := by simpa using hne
   rw [cutd 10 s (by omega),bindO_s]
   dsimp only
   cases hc : s.contains 10 with
   | false =>
    have hp := pcb_one (no_piece hc)
    rw [hp] at hR
    have hR' : RES = (zeroT,n,2) := by rw [← hR]; simp [runL,hne']
    rw [if_neg (by simp),bindO_s]
    refine TotX.ite (fun _=>.ret ?_) (fun h=>by simp at h; omega)
    rw [hR']; rfl
   | true =>
    obtain ⟨p,r,hp,hr,hs,hf⟩ := cut_piece hc
    rw [hp,hr,if_pos rfl]
    have hlen : s.length = p.length + (r.length + 1) := by rw [hs]; simp
    have hpc : pcb 10 s = p :: pcb 10 r := by rw [hs,pcb_app r hf]
    rw [hpc] at hP hb hn2
    simp only [List.length_cons] at hb hn2
    rw [hpc,runL_step (pcb_ne 10 r)] at hR
    refine TotX.bind (E := isR t p) ?_ (fun y hy=>?_)
    ·have := tbRead_ok (t := t) (line := p) (hP p (by simp)) (by omega)
     obtain ⟨y,hy,hy2⟩ := this
     refine ⟨y,?_,hy2⟩
     show bindO (tbRead p (theirsW t)) _ = _
     rw [hy]; rfl
    ·rcases hy with ⟨it,hok,hline,rfl⟩ | ⟨hno,hy1⟩
     ·dsimp only
      by_cases hpl : last < it.plc
      ·rw [pick_some hok hline hpl] at hR
       obtain ⟨_,o1,o2⟩ := put_lines hI ho hok hpl
       refine TotX.ite (fun h=>absurd (of_decide_eq_true h) (by omega)) (fun _=>.go ?_)
       have := put_len it t
       rw [wrap_i64 (by omega) (by omega)]
       exact ⟨r.length,by omega,rfl,by omega,fun q hq=>hP q (by simp [hq]),it.put t,rfl,o1,o2,hR,by dsimp only; omega,by dsimp only; omega,by dsimp only; omega⟩
      ·have hpk : pick last p = none := pick_none (fun it' h1 h2 h3=>by
        have e := line_inj hok h1 (by rw [← hline,h2])
        subst e; exact hpl h3)
       rw [hpk] at hR
       refine TotX.ite (fun _=>.ret ?_) (fun h=>absurd (of_decide_eq_false h) (by omega))
       rw [← hR]; rfl
     ·have hpk : pick last p = none := pick_none (fun it' h1 h2 _=>hno it' h1 h2)
      rw [hpk] at hR
      refine TotX.ite (fun _=>.ret ?_) (fun h=>absurd (of_decide_eq_false h) (by omega))
      rw [← hR]; rfl
  ·have hs : s = [] := by simpa using he
   subst hs
   have hR' : RES = (t,0,0) := by rw [← hR]; simp [runL,pcb]
   rw [hR']
   exact ⟨rfl,rfl⟩
 obtain ⟨e,he,rfl⟩ := key
 exact he
end Go.Proofs.YtjamgiobipdfhaaGreatDoor
namespace Go.Proofs.YtjamgiobipdfhaaGreatDoor
open Go.RowKit
set_option linter.unusedVariables false
set_option linter.unusedSimpArgs false
def itsW : Nat → List ApiPos → List Itm
 | _,[]=>[]
 | k,p :: r=>(if zB p = true then [] else [.w k p]) ++ itsW (k + 1) r
def itsL (l : List R45Length) : List Itm := l.map fun e=>.l e.Number e.Length
def itsT (t : R45Table) : List Itm := itsW 0 (wl t.Work) ++ itsL t.Lengths
theorem itsW_lines : ∀ (l : List ApiPos) (k : Nat),(itsW k l).map Itm.line = linesW k l
 | [],_=>rfl
 | p :: l,k=>by
  simp only [itsW,linesW,List.map_append,itsW_lines l (k + 1)]
  split <;> rfl
theorem itsT_lines (t : R45Table) : (itsT t).map Itm.line = linesT t := by
 unfold itsT linesT
 rw [List.map_append,itsW_lines]
 congr 1
 unfold itsL linesL
 rw [List.map_map]; rfl
def ascI : Int → List Itm → Prop
 | _,[]=>True
 | last,i :: r=>i.ok ∧ last < i.plc ∧ ascI i.plc r
theorem ascL : ∀ (l : List R45Length) (m last : Int),goodL m l → last ≤ 6 + m → ascI last (itsL l)
 | [],_,_,_,_=>trivial
 | e :: l,m,last,h,hm=>by
  obtain ⟨h1,h2,h3⟩ := h
  exact ⟨h1,by show last < 6 + e.Number; omega,ascL l e.Number _ h3 (Int.le_refl _)⟩
theorem ascW {rest : List Itm} : ∀ (l : List ApiPos) (k : Nat) (last : Int),(∀ p ∈ l,inR p) → k + l.length ≤ 6 → last < (k : Int) → (∀ last' : Int,last' ≤ 5 → ascI last' rest) → ascI last (itsW k l ++ rest)
 | [],k,last,_,hk,hl,hr=>by
  simp only [List.length_nil,Nat.add_zero] at hk
  exact hr last (by omega)
 | p :: l,k,last,hp,hk,hl,hr=>by
  simp only [List.length_cons] at hk
  simp only [itsW,List.append_assoc]
  cases hz : zB p with
  | true=>exact ascW l (k + 1) last (fun q hq=>hp q (by simp [hq])) (by omega) (by omega) hr
  | false =>
   refine ⟨⟨by omega,hp p (by simp),hz⟩,hl,?_⟩
   exact ascW l (k + 1) k (fun q hq=>hp q (by simp [hq])) (by omega) (by omega) hr
theorem itsT_asc {t : R45Table} (h : okT t) : ascI (-1) (itsT t) := by
 unfold itsT
 exact ascW _ 0 _ (wl_in h.1) (by simp [wl]) (by omega) (fun last' h5=>ascL _ 0 _ h.2 (by omega))
theorem run_its : ∀ (its : List Itm) (last n : Int) (t : R45Table),ascI last its → runL (its.map Itm.line ++ [[]]) last n t = (its.foldl (fun t i=>i.put t) t,0,0)
 | [],last,n,t,_=>by simp [runL]
 | i :: r,last,n,t,h=>by
  obtain ⟨h1,h2,h3⟩ := h
  rw [List.map_cons,List.cons_append,runL_step (by simp),pick_some h1 rfl h2]
  exact run_its r i.plc (n + 1) (i.put t) h3
theorem zB_zero {p : ApiPos} (h : zB p = true) : p = ⟨0,0,0⟩ := by
 unfold zB at h
 simp only [Bool.and_eq_true,beq_iff_eq] at h
 obtain ⟨x,y,z⟩ := p
 obtain ⟨rfl,rfl,rfl⟩ := h
 rfl
theorem fold_w {W : Arr6ApiPos} {L : List R45Length} {k : Nat} {p : ApiPos} (r : List ApiPos) (h : setW W k ⟨0,0,0⟩ = W) : (itsW k (p :: r)).foldl (fun t i=>i.put t) ⟨W,L⟩ = (itsW (k + 1) r).foldl (fun t i=>i.put t) ⟨setW W k p,L⟩ := by
 simp only [itsW,List.foldl_append]
 cases hz : zB p with
 | true=>rw [zB_zero hz,h]; rfl
 | false=>rfl
theorem fold_l : ∀ (l : List R45Length) (W : Arr6ApiPos) (L : List R45Length),(itsL l).foldl (fun t i=>i.put t) ⟨W,L⟩ = ⟨W,L ++ l⟩
 | [],W,L=>by simp [itsL]
 | e :: l,W,L=>by
  show (itsL l).foldl (fun t i=>i.put t) ⟨W,L ++ [⟨e.Number,e.Length⟩]⟩ = _
  rw [fold_l l W]
  simp
theorem itsT_fold (t : R45Table) : (itsT t).foldl (fun t i=>i.put t) zeroT = t := by
 unfold itsT
 rw [List.foldl_append]
 have hw : (itsW 0 (wl t.Work)).foldl (fun t i=>i.put t) zeroT = ⟨t.Work,[]⟩ := by
  unfold wl zeroT
  rw [fold_w _ rfl,fold_w _ rfl,fold_w _ rfl,fold_w _ rfl,fold_w _ rfl,fold_w _ rfl]
  rfl
 rw [hw,fold_l]; rfl
theorem pcb_text : ∀ (ls : List (List UInt8)),(∀ x ∈ ls,∀ c ∈ x,c ≠ 10) → pcb 10 (textL ls) = ls ++ [[]]
 | [],_=>rfl
 | x :: ls,h=>by
  have : textL (x :: ls) = x ++ 10 :: textL ls := by simp [textL]
  rw [this,pcb_app _ (h x (by simp)),pcb_text ls (fun y hy=>h y (by simp [hy]))]; rfl
theorem ascI_ok : ∀ {its : List Itm} {last : Int},ascI last its → ∀ i ∈ its,i.ok
 | [],_,_,i,h=>by simp at h
 | j :: r,_,h,i,hi=>by
  rcases List.mem_cons.1 hi with rfl | hi
  ·exact h.1
  ·exact ascI_ok h.2.2 i hi
theorem lines_free {t : R45Table} (h : okT t) : ∀ x ∈ linesT t,∀ c ∈ x,c ≠ 10 := by
 intro x hx
 rw [← itsT_lines] at hx
 obtain ⟨i,hi,rfl⟩ := List.mem_map.1 hx
 exact line_free (ascI_ok (itsT_asc h) i hi)
theorem item_len {i : Itm} (h : i.ok) : i.line.length ≤ 320 := by
 cases i with
 | w k p=>exact wline_len k h.2.1
 | l n v =>
  have := lline_len (n := n) (v := v) (by have := h.1; omega) (by have := h.2; omega)
  show (lline n v).length ≤ 320
  omega
theorem textL_len : ∀ (ls : List (List UInt8)),(∀ x ∈ ls,x.length ≤ 320) → (textL ls).length ≤ 321 * ls.length
 | [],_=>by simp [textL]
 | x :: ls,h=>by
  have ih := textL_len ls (fun y hy=>h y (by simp [hy]))
  have hx := h x (by simp)
  have : textL (x :: ls) = x ++ 10 :: textL ls := by simp [textL]
  rw [this]
  simp only [List.length_append,List.length_cons]
  omega
theorem parse_text {t : R45Table} (h : okT t) (hl : t.Lengths.length ≤ 40) : tb_Parse (textL (linesT t)) = some (theirsW t,0,0) := by
 have hp := pcb_text _ (lines_free h)
 have hn := linesT_len (t := t)
 have hx : ∀ x ∈ linesT t,x.length ≤ 320 := by
  intro x hx
  rw [← itsT_lines] at hx
  obtain ⟨i,hi,rfl⟩ := List.mem_map.1 hx
  exact item_len (ascI_ok (itsT_asc h) i hi)
 have ht := textL_len _ hx
 have hr : runL (pcb 10 (textL (linesT t))) (-1) 1 zeroT = (t,0,0) := by
  rw [hp,← itsT_lines,run_its _ _ _ _ (itsT_asc h),itsT_fold]
 rw [tb_Parse_eq (by omega) (fun p hq=>?_) (by rw [hp]; simp; omega),hr]
 rw [hp] at hq
 rcases List.mem_append.1 hq with hq | hq
 ·have := hx p hq; omega
 ·have : p = [] := by simpa using hq
  subst this; simp
end Go.Proofs.YtjamgiobipdfhaaGreatDoor
