/-
  Ua, Yx, Yy, Yz in one text.
-/
import Derived.Test.YtjamgiobipdfhaaGreatDoorPz
import Derived.Lib.Split
import Derived.Lib.SplitLaws
import Derived.Lib.IndexBytes
import Derived.Test.YtjamgiobipdfhaaGreatDoorRbj
import Derived.Lib.ParseIntBTie
open List renaming length_append → zC,length_cons → zD,length_nil → zE,cons_append → zF,nil_append → zG,append_nil → zI,not_mem_nil → zL,mem_cons → zN,append_assoc → zO,range → zP,drop_eq_getElem_cons → zQ,count_cons_of_ne → zS,count_cons_self → zT,takeWhile_cons → zV,set_cons_succ → zW,mem_append → jA,drop_drop → jB,map_cons → jC
open Int renaming toNat_natCast → zH
open Bool renaming false_eq_true → zJ,false_or → zK,or_eq_false_iff → zU,and_eq_true → zZ
open Nat renaming le_refl → zM,zero_add → zR,le_trans → zX,zero_le → zY
open Go.IntKind renaming i64 → jD
namespace Go.Proofs.YtjamgiobipdfhaaGreatDoor
open Go.RowKit
def pcb (z : UInt8) : List UInt8 → List (List UInt8)
 | []=>[[]]
 | c :: r=>if c = z then [] :: pcb z r else match pcb z r with
  | []=>[[c]]
  | p :: ps=>(c :: p) :: ps
theorem pcb_cons (z c : UInt8) (r : List UInt8) : pcb z (c :: r) = if c = z then [] :: pcb z r else match pcb z r with
  | []=>[[c]]
  | p :: ps=>(c :: p) :: ps := rfl
theorem ixb_cons (b : UInt8) (l : List UInt8) (c : UInt8) : Lib.indexByte (b :: l) c = if b == c then 0 else if Lib.indexByte l c == -1 then -1 else Lib.indexByte l c + 1 := rfl
theorem ixb_eq {b c : UInt8} (l : List UInt8) (h : b = c) : Lib.indexByte (b :: l) c = 0 := by
 rw [ixb_cons,if_pos (beq_iff_eq.2 h)]
theorem ixb_no {b c : UInt8} {l : List UInt8} (h : b ≠ c) (y : Lib.indexByte l c = -1) : Lib.indexByte (b :: l) c = -1 := by
 rw [ixb_cons,if_neg (λz=>h (beq_iff_eq.1 z)),if_pos (beq_iff_eq.2 y)]
theorem ixb_in {b c : UInt8} {l : List UInt8} (h : b ≠ c) (y : Lib.indexByte l c ≠ -1) : Lib.indexByte (b :: l) c = Lib.indexByte l c + 1 := by
 rw [ixb_cons,if_neg (λz=>h (beq_iff_eq.1 z)),if_neg (λz=>y (beq_iff_eq.1 z))]
theorem ixb_count : ∀ (s : List UInt8) (c : UInt8),Lib.indexByte s c = -1 ↔ s.count c = 0
 | [],_=>by constructor <;> intro _ <;> rfl
 | b :: l,c=>by
  have ih := ixb_count l c
  have hg := Lib.indexByte_ge l c
  by_cases h : b = c
  ·rw [ixb_eq l h]
   subst h
   rw [zT]
   constructor <;> intro z <;> omega
  ·rw [zS h]
   by_cases y : Lib.indexByte l c = -1
   ·rw [ixb_no h y]; exact ⟨λ_=>ih.1 y,λ_=>rfl⟩
   ·rw [ixb_in h y]
    constructor
    ·intro z; omega
    ·intro z; exact absurd (ih.2 z) y
theorem splitB_z (z : UInt8) (s : List UInt8) : Lib.splitK [z] 0 0 s = [s] := rfl
theorem splitB_s (z : UInt8) (k : Nat) (s : List UInt8) : Lib.splitK [z] 0 (k + 1) s = if Lib.indexByte s z == -1 then [s] else s.take ((Lib.indexByte s z).toNat + 0) :: Lib.splitK [z] 0 k (s.drop ((Lib.indexByte s z).toNat + 1)) := by
 conv=>lhs; unfold Lib.splitK
 rw [Lib.index_one]; rfl
theorem splitK_pcb (z : UInt8) : ∀ s : List UInt8,Lib.splitK [z] 0 (s.count z) s = pcb z s
 | []=>rfl
 | c :: r=>by
  have ih := splitK_pcb z r
  have hg := Lib.indexByte_ge r z
  rw [pcb_cons]
  by_cases h : c = z
  ·subst h
   rw [if_pos rfl,zT,splitB_s,ixb_eq r rfl,if_neg (by decide)]
   show [] :: Lib.splitK [c] 0 (r.count c) r = _
   rw [ih]
  ·rw [if_neg h,zS h]
   cases hk : r.count z with
   | zero =>
    rw [hk,splitB_z] at ih
    rw [splitB_z,← ih]
   | succ k =>
    have hi : Lib.indexByte r z ≠ -1 := λy=>by
     have := (ixb_count r z).1 y; omega
    rw [hk,splitB_s,if_neg (λy=>hi (beq_iff_eq.1 y))] at ih
    rw [splitB_s,ixb_in h hi,if_neg (λy=>by have := beq_iff_eq.1 y; omega),← ih]
    have e : (Lib.indexByte r z + 1).toNat = (Lib.indexByte r z).toNat + 1 := by omega
    rw [e]
    rfl
theorem split_pcb (z : UInt8) (s : List UInt8) : Lib.split s [z] = pcb z s := by
 unfold Lib.split
 rw [Lib.count_one]
 exact splitK_pcb z s
theorem pcb_one {z : UInt8} : ∀ {a : List UInt8},(∀ c ∈ a,c ≠ z) → pcb z a = [a]
 | [],_=>rfl
 | c :: r,h=>by
  rw [pcb_cons,if_neg (h c (by simp)),pcb_one (λd hd=>h d (by simp [hd]))]
theorem pcb_app {z : UInt8} : ∀ {a : List UInt8} (r : List UInt8),(∀ c ∈ a,c ≠ z) → pcb z (a ++ z :: r) = a :: pcb z r
 | [],r,_=>by rw [zG,pcb_cons,if_pos rfl]
 | c :: a,r,h=>by
  rw [zF,pcb_cons,if_neg (h c (by simp)),pcb_app r (λd hd=>h d (by simp [hd]))]
theorem pcb_len (z : UInt8) : ∀ s : List UInt8,(pcb z s).length ≤ s.length + 1
 | []=>zM _
 | c :: r=>by
  have := pcb_len z r
  rw [pcb_cons]
  split
  ·simp; omega
  ·split
   ·simp
   ·rename_i p ps h
    rw [h] at this
    simp at this ⊢; omega
theorem pcb_mem {z : UInt8} : ∀ {s p : List UInt8},p ∈ pcb z s → p.length ≤ s.length
 | [],p,h=>by
  have : p = [] := by simpa [pcb] using h
  rw [this]; exact zM _
 | c :: r,p,h=>by
  rw [pcb_cons] at h
  split at h
  ·rcases List.mem_cons.1 h with e | e
   ·rw [e]; exact zY _
   ·have := pcb_mem e; simp; omega
  ·split at h
   ·have : p = [c] := by simpa using h
    rw [this]; simp
   ·rename_i q qs hq
    rcases List.mem_cons.1 h with e | e
    ·have := pcb_mem (s := r) (p := q) (by rw [hq]; simp)
     rw [e]; simp; omega
    ·have := pcb_mem (s := r) (p := p) (by rw [hq]; simp [e])
     simp; omega
theorem pcb_ne (z : UInt8) (s : List UInt8) : pcb z s ≠ [] := by
 cases s with
 | nil=>simp [pcb]
 | cons c r =>
  rw [pcb_cons]
  split
  ·simp
  ·split <;> simp
def jnb (z : UInt8) : List (List UInt8) → List UInt8
 | []=>[]
 | [p]=>p
 | p :: q :: ps=>p ++ z :: jnb z (q :: ps)
theorem jnb_cons {z : UInt8} {p : List UInt8} {ps : List (List UInt8)} (h : ps ≠ []) : jnb z (p :: ps) = p ++ z :: jnb z ps := by
 cases ps with
 | nil=>exact absurd rfl h
 | cons q qs=>rfl
theorem jnb_pcb (z : UInt8) : ∀ s : List UInt8,jnb z (pcb z s) = s
 | []=>rfl
 | c :: r=>by
  have ih := jnb_pcb z r
  rw [pcb_cons]
  by_cases h : c = z
  ·rw [if_pos h,jnb_cons (pcb_ne z r),ih,h]; rfl
  ·rw [if_neg h]
   cases hq : pcb z r with
   | nil=>exact absurd hq (pcb_ne z r)
   | cons q qs =>
    rw [hq] at ih
    dsimp only
    cases qs with
    | nil =>
     show c :: q = _
     rw [← ih]; rfl
    | cons q2 qs =>
     show (c :: q) ++ z :: jnb z (q2 :: qs) = _
     rw [zF]
     congr 1
theorem pcb_jnb {z : UInt8} : ∀ {ps : List (List UInt8)},ps ≠ [] → (∀ p ∈ ps,∀ c ∈ p,c ≠ z) → pcb z (jnb z ps) = ps
 | [],h,_=>absurd rfl h
 | [p],_,h=>pcb_one (h p (by simp))
 | p :: q :: ps,_,h=>by
  show pcb z (p ++ z :: jnb z (q :: ps)) = _
  rw [pcb_app _ (h p (by simp)),pcb_jnb (by simp) (λr hr=>h r (by simp [hr]))]
theorem pcb_snoc_sep (z : UInt8) : ∀ s : List UInt8,pcb z (s ++ [z]) = pcb z s ++ [[]]
 | []=>by simp [pcb]
 | c :: r=>by
  rw [zF,pcb_cons,pcb_cons,pcb_snoc_sep z r]
  by_cases h : c = z
  ·rw [if_pos h,if_pos h]; rfl
  ·rw [if_neg h,if_neg h]
   cases hq : pcb z r with
   | nil=>exact absurd hq (pcb_ne z r)
   | cons q qs=>rfl
theorem pcb_snoc {z c : UInt8} (h : c ≠ z) : ∀ s : List UInt8,∃ ps p,pcb z s = ps ++ [p] ∧ pcb z (s ++ [c]) = ps ++ [p ++ [c]]
 | []=>⟨[],[],rfl,by simp [pcb,h]⟩
 | d :: r=>by
  obtain ⟨ps,p,h1,h2⟩ := pcb_snoc h r
  rw [zF,pcb_cons,pcb_cons,h1,h2]
  by_cases y : d = z
  ·rw [if_pos y,if_pos y]
   exact ⟨[] :: ps,p,rfl,rfl⟩
  ·rw [if_neg y,if_neg y]
   cases ps with
   | nil=>exact ⟨[],d :: p,rfl,rfl⟩
   | cons q qs=>exact ⟨(d :: q) :: qs,p,rfl,rfl⟩
end Go.Proofs.YtjamgiobipdfhaaGreatDoor
namespace Go.Proofs.YtjamgiobipdfhaaGreatDoor
open Go.RowKit
def fmV (s : List UInt8) : Int × Int := (dc_FromMillimetres s).getD (0,1)
theorem fm_both (s : List UInt8) (hl : s.length ≤ 800) : dc_FromMillimetres s = some (fmV s) ∧ r06_FromMillimetres s = some (fmV s) ∧ ((fmV s).2 = 0 → -10000000 ≤ (fmV s).1 ∧ (fmV s).1 ≤ 10000000) := by
 obtain ⟨neg,b,hs⟩ : ∃ neg b,strip s = (neg,b) := ⟨_,_,rfl⟩
 obtain ⟨w,p,pt,hc⟩ : ∃ w p pt,cutV b = (w,p,pt) := ⟨_,_,_,rfl⟩
 have h1 := dc_FromMillimetres_eq hs hc (by omega)
 have h2 := r06_FromMillimetres_eq hs hc hl
 have hf : fmV s = mmRes neg w p pt := by unfold fmV; rw [h1]; rfl
 rw [hf]
 refine ⟨h1,h2,λh0=>?_⟩
 unfold mmRes at h0 ⊢
 by_cases q : (okD neg w p pt && decide (p.length ≤ 3)) = true
 ·rw [if_pos q] at h0 ⊢
  by_cases q2 : mmL neg w p > 10000000 ∨ mmL neg w p < -10000000
  ·rw [if_pos q2] at h0; cases h0
  ·rw [if_neg q2]; dsimp only; omega
 ·rw [if_neg q] at h0; cases h0
theorem fmV_txt {n : Int} (h : -10000000 ≤ n ∧ n ≤ 10000000) : fmV (txtV n) = (n,0) := by
 unfold fmV
 rw [mm_back n (by omega) (by omega),if_neg (by omega)]; rfl
theorem dig_free {l : List UInt8} (h : l.all isD = true) : ∀ c ∈ l,c ≠ 32 ∧ c ≠ 10 := λc hc=>by
 have := isD_iff.1 (List.all_eq_true.1 h c hc)
 refine ⟨λe=>?_,λe=>?_⟩ <;> (subst e; revert this; decide)
theorem txtV_free (n : Int) : ∀ c ∈ txtV n,c ≠ 32 ∧ c ≠ 10 := by
 intro c hc
 unfold txtV txtU at hc
 simp only [jA] at hc
 rcases hc with hc | hc | hc
 ·split at hc
  ·simp at hc; subst hc; decide
  ·simp at hc
 ·exact dig_free (dd_dig _) c hc
 ·split at hc
  ·simp at hc
  ·rename_i h0
   rcases List.mem_cons.1 hc with rfl | hc
   ·decide
   ·exact dig_free (frac_facts (Nat.mod_lt _ (by omega)) h0).1 c hc
def digT (n : Int) : List UInt8 := if n < 0 then [47] else Lib.decDigits n.toNat
theorem digs_all : ((zP 1001).all λk=>r45_digits ((k : Int) - 1) == some (digT ((k : Int) - 1))) = true := by kernel_rfl
theorem r45_digits_eq {n : Int} (h : -1 ≤ n ∧ n ≤ 999) : r45_digits n = some (digT n) := by
 have := List.all_eq_true.1 digs_all (n + 1).toNat (List.mem_range.2 (by omega))
 rw [show (((n + 1).toNat : Nat) : Int) - 1 = n by omega] at this
 simpa using this
theorem num_all : ((zP 1000).all λk=>k == 0 || r45_number (Lib.decDigits k) == some (k : Int)) = true := by kernel_rfl
theorem r45_number_dig {n : Int} (h : 1 ≤ n ∧ n ≤ 999) : r45_number (digT n) = some n := by
 have := List.all_eq_true.1 num_all n.toNat (List.mem_range.2 (by omega))
 have h0 : (n.toNat == 0) = false := by simp; omega
 unfold digT
 rw [if_neg (by omega)]
 rw [h0,zK,show ((n.toNat : Nat) : Int) = n by omega] at this
 simpa using this
theorem r45_number_tot (s : List UInt8) (hl : s.length ≤ 100000) : Tot (r45_number s) (λn=>-1 ≤ n ∧ n ≤ 999) := by
 unfold r45_number
 refine Tot.bindX (E := λn=>-1 ≤ n ∧ n ≤ 999) (TotX.guard (okIdx_of (by omega)) (TotX.of (Tot.range (λi v=>i ≤ 3 ∧ 0 ≤ v ∧ v ≤ (if i = 0 then 0 else if i = 1 then 9 else if i = 2 then 99 else 999)) _ ⟨by omega,by omega,by simp⟩ (λi c v hx hr=>?_) (λv hr=>.ok ?_)))) (λv hv=>.ok hv)
 ·obtain ⟨h1,h2,h3⟩ := hr
  refine TotX.ite (λ_=>.ret ?_) (λh=>.go ?_)
  ·exact ⟨by omega,by omega⟩
  ·simp only [zU,decide_eq_false_iff_not] at h
   obtain ⟨a,b,d⟩ := h
   have e1 : IntKind.u8.wrap ((c.toNat : Int) - 48) = (c.toNat : Int) - 48 := by
    unfold IntKind.wrap; simp [IntKind.signed,IntKind.bits]; omega
   have hi : i = 0 ∨ i = 1 ∨ i = 2 := by omega
   rw [e1,wrap_i64 (n := (c.toNat : Int) - 48) (by omega) (by omega)]
   rcases hi with rfl | rfl | rfl <;> simp at h3 ⊢ <;> (rw [wrap_i64 (n := 10 * v) (by omega) (by omega),wrap_i64 (by omega) (by omega)]; omega)
 ·obtain ⟨h1,h2,h3⟩ := hr
  refine ⟨by omega,?_⟩
  split at h3
  ·omega
  ·split at h3
   ·omega
   ·split at h3 <;> omega
theorem idx_all : ((zP 1001).all λk=>r45_index (jD.wrap (1000 * ((k : Int) - 1))) == some (if 54 ≤ (k : Int) - 1 ∧ (k : Int) - 1 ≤ 59 then (k : Int) - 1 - 54 else -1)) = true := by kernel_rfl
theorem r45_index_eq {n : Int} (h : -1 ≤ n ∧ n ≤ 999) : r45_index (jD.wrap (1000 * n)) = some (if 54 ≤ n ∧ n ≤ 59 then n - 54 else -1) := by
 have := List.all_eq_true.1 idx_all (n + 1).toNat (List.mem_range.2 (by omega))
 rw [show (((n + 1).toNat : Nat) : Int) - 1 = n by omega] at this
 simpa using this
theorem pie_all : ((zP 1000).all λk=>k == 0 || strconv_ParseIntE (Lib.decDigits k) 10 64 == some ((k : Int),true)) = true := by kernel_rfl
theorem pie_dig {n : Int} (h : 1 ≤ n ∧ n ≤ 999) : strconv_ParseIntE (digT n) 10 64 = some (n,true) := by
 have := List.all_eq_true.1 pie_all n.toNat (List.mem_range.2 (by omega))
 have h0 : (n.toNat == 0) = false := by simp; omega
 unfold digT
 rw [if_neg (by omega)]
 rw [h0,zK,show ((n.toNat : Nat) : Int) = n by omega] at this
 simpa using this
theorem pie_tot (s : List UInt8) (hl : s.length ≤ 100000) : Tot (strconv_ParseIntE s 10 64) (λr=>r.2 = true → -9223372036854775808 ≤ r.1 ∧ r.1 ≤ 9223372036854775807) := by
 unfold strconv_ParseIntE
 refine Tot.guard (by simp; omega) ?_
 cases h : Lib.parseIntB 64 s with
 | ok v =>
  have := Lib.parseIntB_bounds h
  exact .ok λ_=>by dsimp only; omega
 | _ => exact .ok (by simp)
theorem itoa_dig {n : Int} (h : 0 ≤ n) : Lib.itoa n = digT n := by
 unfold Lib.itoa digT
 rw [if_neg (by omega),if_neg (by omega)]
theorem fmtI {n : Int} (h1 : -9223372036854775808 ≤ n) (h2 : n ≤ 9223372036854775807) : strconv_FormatInt n 10 = some (Lib.itoa n) := by
 unfold strconv_FormatInt inI64
 rw [decide_eq_true ⟨h1,h2⟩]; rfl
theorem digT_free {n : Int} (h : 0 ≤ n) : ∀ c ∈ digT n,c ≠ 32 ∧ c ≠ 10 := by
 unfold digT
 rw [if_neg (by omega)]
 exact dig_free (dd_dig _)
theorem digT_len {n : Int} (h : 0 ≤ n ∧ n ≤ 999) : (digT n).length ≤ 20 := by
 unfold digT
 rw [if_neg (by omega)]
 exact dd_len _ (by omega)
end Go.Proofs.YtjamgiobipdfhaaGreatDoor
namespace Go.Proofs.YtjamgiobipdfhaaGreatDoor
open Go.RowKit
set_option linter.unusedVariables false
set_option linter.unusedSimpArgs false
def wl (W : Arr6ApiPos) : List ApiPos := [W.e0,W.e1,W.e2,W.e3,W.e4,W.e5]
def zB (p : ApiPos) : Bool := (p.X == 0) && ((p.Y == 0) && (p.Z == 0))
def gw (k : Nat) : List UInt8 := [71,53,UInt8.ofNat (52 + k)]
def wordW : List UInt8 := [119,111,114,107]
def wordL : List UInt8 := [108,101,110,103,116,104]
def wlineW (k : Nat) (p : ApiPos) : List (List UInt8) := [wordW,gw k,txtV p.X,txtV p.Y,txtV p.Z]
def llineW (n v : Int) : List (List UInt8) := [wordL,digT n,txtV v]
def wline (k : Nat) (p : ApiPos) : List UInt8 := jnb 32 (wlineW k p)
def lline (n v : Int) : List UInt8 := jnb 32 (llineW n v)
def linesW : Nat → List ApiPos → List (List UInt8)
 | _,[]=>[]
 | k,p :: r=>(if zB p = true then [] else [wline k p]) ++ linesW (k + 1) r
def linesL (l : List R45Length) : List (List UInt8) := l.map λe=>lline e.Number e.Length
def linesT (t : R45Table) : List (List UInt8) := linesW 0 (wl t.Work) ++ linesL t.Lengths
def textL (l : List (List UInt8)) : List UInt8 := l.flatMap λx=>x ++ [10]
theorem textL_app (a b : List (List UInt8)) : textL (a ++ b) = textL a ++ textL b := by unfold textL; rw [List.flatMap_append]
theorem wline_eq (k : Nat) (p : ApiPos) {g : List UInt8} (hg : 71 :: g = gw k) : wline k p = ((((((([119,111,114,107,32,71] ++ g) ++ [32]) ++ txtV p.X) ++ [32]) ++ txtV p.Y) ++ [32]) ++ txtV p.Z) := by
 show wordW ++ 32 :: (gw k ++ 32 :: (txtV p.X ++ 32 :: (txtV p.Y ++ 32 :: txtV p.Z))) = _
 rw [← hg]
 simp [wordW]
theorem lline_eq (n v : Int) : lline n v = (([108,101,110,103,116,104,32] ++ digT n) ++ [32]) ++ txtV v := by
 show wordL ++ 32 :: (digT n ++ 32 :: txtV v) = _
 simp [wordL]
theorem gw_len (k : Nat) : (gw k).length = 3 := rfl
theorem gl_of {k : Nat} {g : List UInt8} (hg : 71 :: g = gw k) : g.length = 2 := by
 have : (71 :: g).length = 3 := by rw [hg]; rfl
 simpa using this
theorem txt_len {p : ApiPos} (hp : inR p) : (txtV p.X).length ≤ 100 ∧ (txtV p.Y).length ≤ 100 ∧ (txtV p.Z).length ≤ 100 := by
 obtain ⟨h1,h2,h3⟩ := hp
 exact ⟨txtV_len _ (by omega) (by omega),txtV_len _ (by omega) (by omega),txtV_len _ (by omega) (by omega)⟩
theorem linesW_one (k : Nat) (p : ApiPos) : linesW k [p] = if zB p = true then [] else [wline k p] := by simp [linesW]
theorem wline_len (k : Nat) {p : ApiPos} (hp : inR p) : (wline k p).length ≤ 320 := by
 obtain ⟨h1,h2,h3⟩ := txt_len hp
 show (wordW ++ 32 :: (gw k ++ 32 :: (txtV p.X ++ 32 :: (txtV p.Y ++ 32 :: txtV p.Z)))).length ≤ 320
 simp only [zC,zD,gw_len,show wordW.length = 4 from rfl]
 omega
theorem r45_wstep {n : Int} {k : Nat} {g : List UInt8} (hd : r45_digits n = some g) (hg : 71 :: g = gw k) {p : ApiPos} (hp : inR p) (v : List (List UInt8)) (hv : v.length ≤ 1000) : (if (!((p.X == 0) && ((p.Y == 0) && (p.Z == 0)))) = true then bindO (r45_digits n) λ(a : (List UInt8))=>guardO (okStr [119,111,114,107,32,71] a) ( guardO (okStr ([119,111,114,107,32,71] ++ a) [32]) ( bindO (r06_Millimetres p.X) λ(b : (List UInt8))=>guardO (okStr (([119,111,114,107,32,71] ++ a) ++ [32]) b) ( guardO (okStr ((([119,111,114,107,32,71] ++ a) ++ [32]) ++ b) [32]) ( bindO (r06_Millimetres p.Y) λ(c : (List UInt8))=>guardO (okStr (((([119,111,114,107,32,71] ++ a) ++ [32]) ++ b) ++ [32]) c) ( guardO (okStr ((((([119,111,114,107,32,71] ++ a) ++ [32]) ++ b) ++ [32]) ++ c) [32]) ( bindO (r06_Millimetres p.Z) λ(d : (List UInt8))=>guardO (okStr (((((([119,111,114,107,32,71] ++ a) ++ [32]) ++ b) ++ [32]) ++ c) ++ [32]) d) ( guardO (okLen (v.length + 1)) ( some (v ++ [(((((([119,111,114,107,32,71] ++ a) ++ [32]) ++ b) ++ [32]) ++ c) ++ [32]) ++ d]))))))))) else some v) = some (v ++ linesW k [p]) := by
 have hgl := gl_of hg
 obtain ⟨l1,l2,l3⟩ := txt_len hp
 obtain ⟨b1,b2,b3⟩ := hp
 rw [linesW_one]
 unfold zB
 cases hz : ((p.X == 0) && ((p.Y == 0) && (p.Z == 0))) with
 | true=>simp
 | false =>
  rw [if_pos (show (!false) = true from rfl),if_neg (show ¬ (false = true) by decide),hd,bindO_s,okStr_of (by simp only [zC,zD,zE]; omega),guardO_t,okStr_of (by simp only [zC,zD,zE]; omega),guardO_t,r06_Millimetres_eq _ (by omega) (by omega),bindO_s,okStr_of (by simp only [zC,zD,zE]; omega),guardO_t,okStr_of (by simp only [zC,zD,zE]; omega),guardO_t,r06_Millimetres_eq _ (by omega) (by omega),bindO_s,okStr_of (by simp only [zC,zD,zE]; omega),guardO_t,okStr_of (by simp only [zC,zD,zE]; omega),guardO_t,r06_Millimetres_eq _ (by omega) (by omega),bindO_s,okStr_of (by simp only [zC,zD,zE]; omega),guardO_t,okLen_of (by omega),guardO_t,wline_eq k p hg]
theorem r45_wstep0 {n : Int} {k : Nat} {g : List UInt8} (hd : r45_digits n = some g) (hg : 71 :: g = gw k) {p : ApiPos} (hp : inR p) : (if (!((p.X == 0) && ((p.Y == 0) && (p.Z == 0)))) = true then bindO (r45_digits n) λ(a : (List UInt8))=>guardO (okStr [119,111,114,107,32,71] a) ( guardO (okStr ([119,111,114,107,32,71] ++ a) [32]) ( bindO (r06_Millimetres p.X) λ(b : (List UInt8))=>guardO (okStr (([119,111,114,107,32,71] ++ a) ++ [32]) b) ( guardO (okStr ((([119,111,114,107,32,71] ++ a) ++ [32]) ++ b) [32]) ( bindO (r06_Millimetres p.Y) λ(c : (List UInt8))=>guardO (okStr (((([119,111,114,107,32,71] ++ a) ++ [32]) ++ b) ++ [32]) c) ( guardO (okStr ((((([119,111,114,107,32,71] ++ a) ++ [32]) ++ b) ++ [32]) ++ c) [32]) ( bindO (r06_Millimetres p.Z) λ(d : (List UInt8))=>guardO (okStr (((((([119,111,114,107,32,71] ++ a) ++ [32]) ++ b) ++ [32]) ++ c) ++ [32]) d) ( some [(((((([119,111,114,107,32,71] ++ a) ++ [32]) ++ b) ++ [32]) ++ c) ++ [32]) ++ d]))))))) else some []) = some (linesW k [p]) := by
 have h := r45_wstep hd hg hp [] (by simp)
 rw [zG] at h
 rw [← h]
 simp only [zG,zE,zR,okLen_of (show 1 ≤ 16777216 by omega),guardO_t]
theorem tb_wstep {n : Int} {k : Nat} {g : List UInt8} (hd : strconv_Itoa n = some g) (hg : 71 :: g = gw k) {p : ApiPos} (hp : inR p) (v : List UInt8) (hv : v.length ≤ 1000000) : (if ((p.X == 0) && ((p.Y == 0) && (p.Z == 0))) = true then some v else bindO (strconv_Itoa n) λ(a : (List UInt8))=>guardO (okStr [119,111,114,107,32,71] a) ( guardO (okLen (v.length + ([119,111,114,107,32,71] ++ a).length)) ( bindO (bindO (dc_Millimetres p.X) λ(b : (List UInt8))=>guardO (okStr [32] b) ( guardO (okLen ((v ++ ([119,111,114,107,32,71] ++ a)).length + ([32] ++ b).length)) ( bindO (dc_Millimetres p.Y) λ(c : (List UInt8))=>guardO (okStr [32] c) ( guardO (okLen ((v ++ ([119,111,114,107,32,71] ++ a) ++ ([32] ++ b)).length + ([32] ++ c).length)) ( bindO (dc_Millimetres p.Z) λ(d : (List UInt8))=>guardO (okStr [32] d) ( guardO (okLen ((v ++ ([119,111,114,107,32,71] ++ a) ++ ([32] ++ b) ++ ([32] ++ c)).length + ([32] ++ d).length)) ( some (v ++ ([119,111,114,107,32,71] ++ a) ++ ([32] ++ b) ++ ([32] ++ c) ++ ([32] ++ d))))))))) λ(u : (List UInt8))=>guardO (okLen (u.length + 1)) ( some (u ++ [10]))))) = some (v ++ textL (linesW k [p])) := by
 have hgl := gl_of hg
 obtain ⟨l1,l2,l3⟩ := txt_len hp
 obtain ⟨b1,b2,b3⟩ := hp
 rw [linesW_one]
 unfold zB
 cases hz : ((p.X == 0) && ((p.Y == 0) && (p.Z == 0))) with
 | true=>simp [textL]
 | false =>
  rw [if_neg (show ¬ (false = true) by decide),if_neg (show ¬ (false = true) by decide),hd,bindO_s,okStr_of (by simp only [zC,zD,zE]; omega),guardO_t,okLen_of (by simp only [zC,zD,zE]; omega),guardO_t,dc_Millimetres_eq _ (by omega) (by omega),bindO_s,okStr_of (by simp only [zC,zD,zE]; omega),guardO_t,okLen_of (by simp only [zC,zD,zE]; omega),guardO_t,dc_Millimetres_eq _ (by omega) (by omega),bindO_s,okStr_of (by simp only [zC,zD,zE]; omega),guardO_t,okLen_of (by simp only [zC,zD,zE]; omega),guardO_t,dc_Millimetres_eq _ (by omega) (by omega),bindO_s,okStr_of (by simp only [zC,zD,zE]; omega),guardO_t,okLen_of (by simp only [zC,zD,zE]; omega),guardO_t,bindO_s,okLen_of (by simp only [zC,zD,zE]; omega),guardO_t]
  show some _ = some (v ++ textL [wline k p])
  rw [wline_eq k p hg]
  simp [textL]
theorem tb_wstep0 {n : Int} {k : Nat} {g : List UInt8} (hd : strconv_Itoa n = some g) (hg : 71 :: g = gw k) {p : ApiPos} (hp : inR p) : (if ((p.X == 0) && ((p.Y == 0) && (p.Z == 0))) = true then some [] else bindO (strconv_Itoa n) λ(a : (List UInt8))=>guardO (okStr [119,111,114,107,32,71] a) ( guardO (okLen (([119,111,114,107,32,71] ++ a).length)) ( bindO (bindO (dc_Millimetres p.X) λ(b : (List UInt8))=>guardO (okStr [32] b) ( guardO (okLen (([119,111,114,107,32,71] ++ a).length + ([32] ++ b).length)) ( bindO (dc_Millimetres p.Y) λ(c : (List UInt8))=>guardO (okStr [32] c) ( guardO (okLen (([119,111,114,107,32,71] ++ a ++ ([32] ++ b)).length + ([32] ++ c).length)) ( bindO (dc_Millimetres p.Z) λ(d : (List UInt8))=>guardO (okStr [32] d) ( guardO (okLen (([119,111,114,107,32,71] ++ a ++ ([32] ++ b) ++ ([32] ++ c)).length + ([32] ++ d).length)) ( some ([119,111,114,107,32,71] ++ a ++ ([32] ++ b) ++ ([32] ++ c) ++ ([32] ++ d))))))))) λ(u : (List UInt8))=>guardO (okLen (u.length + 1)) ( some (u ++ [10]))))) = some (textL (linesW k [p])) := by
 have h := tb_wstep hd hg hp [] (by simp)
 rw [zG] at h
 rw [← h]
 simp only [zG,zE,zR]
theorem linesW_cons (k : Nat) (p : ApiPos) (r : List ApiPos) : linesW k (p :: r) = linesW k [p] ++ linesW (k + 1) r := by rw [linesW_one]; rfl
theorem linesW_six (W : Arr6ApiPos) : linesW 0 (wl W) = linesW 0 [W.e0] ++ linesW 1 [W.e1] ++ linesW 2 [W.e2] ++ linesW 3 [W.e3] ++ linesW 4 [W.e4] ++ linesW 5 [W.e5] := by
 unfold wl
 rw [linesW_cons 0 W.e0,linesW_cons 1 W.e1,linesW_cons 2 W.e2,linesW_cons 3 W.e3,linesW_cons 4 W.e4]
 simp only [zO]
theorem linesW_len : ∀ (l : List ApiPos) (k : Nat),(linesW k l).length ≤ l.length
 | [],_=>by simp [linesW]
 | p :: l,k=>by
  have := linesW_len l (k + 1)
  simp only [linesW,zC,zD]
  split <;> simp <;> omega
def okW6 (W : Arr6ApiPos) : Prop := inR W.e0 ∧ inR W.e1 ∧ inR W.e2 ∧ inR W.e3 ∧ inR W.e4 ∧ inR W.e5
def okN (l : List R45Length) : Prop := ∀ e ∈ l,(-1 ≤ e.Number ∧ e.Number ≤ 999) ∧ -10000000 ≤ e.Length ∧ e.Length ≤ 10000000
theorem digT_lenN {n : Int} (h : -1 ≤ n ∧ n ≤ 999) : (digT n).length ≤ 20 := by
 by_cases h0 : n < 0
 ·unfold digT; rw [if_pos h0]; simp
 ·exact digT_len (by omega)
theorem dgw_all : ((zP 6).all λk=>71 :: digT (54 + (k : Int)) == gw k) = true := by kernel_rfl
theorem dgw (k : Nat) (h : k < 6) : 71 :: digT (54 + (k : Int)) = gw k := by
 have := List.all_eq_true.1 dgw_all k (List.mem_range.2 h)
 simpa using this
theorem r45_Lines_eq (t : R45Table) (hW : okW6 t.Work) (hN : okN t.Lengths) (hl : t.Lengths.length ≤ 100000) : r45_Lines t = some (linesT t) := by
 obtain ⟨h0,h1,h2,h3,h4,h5⟩ := hW
 unfold r45_Lines
 have w : ∀ (k : Nat) (p : ApiPos),(linesW k [p]).length ≤ 1 := λk p=>linesW_len [p] k
 rw [r45_wstep0 (k := 0) (r45_digits_eq (n := 54) (by omega)) (dgw 0 (by omega)) h0,bindO_s,r45_wstep (k := 1) (r45_digits_eq (n := 55) (by omega)) (dgw 1 (by omega)) h1 _ (by have := w 0 t.Work.e0; omega),bindO_s,
  r45_wstep (k := 2) (r45_digits_eq (n := 56) (by omega)) (dgw 2 (by omega)) h2 _ (by have := w 0 t.Work.e0; have := w 1 t.Work.e1; simp only [zC]; omega),bindO_s,
  r45_wstep (k := 3) (r45_digits_eq (n := 57) (by omega)) (dgw 3 (by omega)) h3 _ (by have := w 0 t.Work.e0; have := w 1 t.Work.e1; have := w 2 t.Work.e2; simp only [zC]; omega),bindO_s,
  r45_wstep (k := 4) (r45_digits_eq (n := 58) (by omega)) (dgw 4 (by omega)) h4 _ (by have := w 0 t.Work.e0; have := w 1 t.Work.e1; have := w 2 t.Work.e2; have := w 3 t.Work.e3; simp only [zC]; omega),bindO_s,
  r45_wstep (k := 5) (r45_digits_eq (n := 59) (by omega)) (dgw 5 (by omega)) h5 _ (by have := w 0 t.Work.e0; have := w 1 t.Work.e1; have := w 2 t.Work.e2; have := w 3 t.Work.e3; have := w 4 t.Work.e4; simp only [zC]; omega),bindO_s,bindO_s,← linesW_six]
 have hw6 := linesW_len (wl t.Work) 0
 rw [show (wl t.Work).length = 6 from rfl] at hw6
 unfold linesT linesL
 generalize linesW 0 (wl t.Work) = v0 at hw6
 rw [okIdx_of (by omega),guardO_t,range_fold (g := λ(o : List (List UInt8)) (e : R45Length)=>o ++ [lline e.Number e.Length]) (R := λi v=>v.length ≤ i + 6) (L := t.Lengths) ?_ t.Lengths 0 v0 rfl (by omega)]
 ·rw [bindO_s,map_fold]
 ·intro i x v hx hr
  have hlt := getElem_lt hx
  obtain ⟨n1,n2,n3⟩ := hN x (List.mem_of_getElem? hx)
  have e1 := digT_lenN n1
  have e2 := txtV_len x.Length (by omega) (by omega)
  rw [r45_digits_eq n1,bindO_s,okStr_of (by simp only [zC,zD,zE]; omega),guardO_t,okStr_of (by simp only [zC,zD,zE]; omega),guardO_t,r06_Millimetres_eq _ (by omega) (by omega),bindO_s,okStr_of (by simp only [zC,zD,zE]; omega),guardO_t,okLen_of (by omega),guardO_t]
  exact ⟨by rw [lline_eq],by simp; omega⟩
end Go.Proofs.YtjamgiobipdfhaaGreatDoor
namespace Go.Proofs.YtjamgiobipdfhaaGreatDoor
open Go.RowKit
set_option linter.unusedVariables false
set_option linter.unusedSimpArgs false
inductive Itm where
 | w (k : Nat) (p : ApiPos)
 | l (n v : Int)
def Itm.ok : Itm → Prop
 | .w k p=>k < 6 ∧ inR p ∧ zB p = false
 | .l n v=>(1 ≤ n ∧ n ≤ 999) ∧ 0 ≤ v ∧ v ≤ 10000000
def Itm.words : Itm → List (List UInt8)
 | .w k p=>wlineW k p
 | .l n v=>llineW n v
def Itm.line (i : Itm) : List UInt8 := jnb 32 i.words
def Itm.plc : Itm → Int
 | .w k _=>(k : Int)
 | .l n _=>6 + n
def setW (W : Arr6ApiPos) (k : Nat) (p : ApiPos) : Arr6ApiPos :=
 match k with
 | 0=>⟨p,W.e1,W.e2,W.e3,W.e4,W.e5⟩
 | 1=>⟨W.e0,p,W.e2,W.e3,W.e4,W.e5⟩
 | 2=>⟨W.e0,W.e1,p,W.e3,W.e4,W.e5⟩
 | 3=>⟨W.e0,W.e1,W.e2,p,W.e4,W.e5⟩
 | 4=>⟨W.e0,W.e1,W.e2,W.e3,p,W.e5⟩
 | _=>⟨W.e0,W.e1,W.e2,W.e3,W.e4,p⟩
def Itm.put : Itm → R45Table → R45Table
 | .w k p,t=>⟨setW t.Work k p,t.Lengths⟩
 | .l n v,t=>⟨t.Work,t.Lengths ++ [⟨n,v⟩]⟩
theorem gw_free : ∀ k,k < 6 → ∀ c ∈ gw k,c ≠ 32 ∧ c ≠ 10 := by decide
theorem words_free {i : Itm} (h : i.ok) : ∀ w ∈ i.words,∀ c ∈ w,c ≠ 32 ∧ c ≠ 10 := by
 cases i with
 | w k p =>
  intro w hw
  simp only [Itm.words,wlineW,zN,zL,or_false] at hw
  rcases hw with rfl | rfl | rfl | rfl | rfl
  ·decide
  ·exact gw_free k h.1
  ·exact txtV_free _
  ·exact txtV_free _
  ·exact txtV_free _
 | l n v =>
  intro w hw
  simp only [Itm.words,llineW,zN,zL,or_false] at hw
  rcases hw with rfl | rfl | rfl
  ·decide
  ·exact digT_free (by have := h.1; omega)
  ·exact txtV_free _
theorem words_ne (i : Itm) : i.words ≠ [] := by cases i <;> simp [Itm.words,wlineW,llineW]
theorem words_of {i : Itm} (h : i.ok) : pcb 32 i.line = i.words := pcb_jnb (words_ne i) (λw hw c hc=>(words_free h w hw c hc).1)
theorem line_iff {i : Itm} (h : i.ok) {s : List UInt8} : s = i.line ↔ pcb 32 s = i.words := by
 constructor
 ·rintro rfl; exact words_of h
 ·intro e; rw [← jnb_pcb 32 s,e]; rfl
def cano (w : List UInt8) : Bool := ((fmV w).2 == 0) && (txtV (fmV w).1 == w)
theorem cano_txt {n : Int} (h : -10000000 ≤ n ∧ n ≤ 10000000) : cano (txtV n) = true := by
 unfold cano
 rw [fmV_txt h]; simp
theorem gw_inj : ∀ k,k < 6 → ∀ j,j < 6 → gw k = gw j → k = j := by decide
theorem txt_inj {n m : Int} (hn : -10000000 ≤ n ∧ n ≤ 10000000) (hm : -10000000 ≤ m ∧ m ≤ 10000000) (h : txtV n = txtV m) : n = m := by
 have a := fmV_txt hn
 rw [h,fmV_txt hm] at a
 injection a with a; exact a.symm
theorem dig_inj {n m : Int} (hn : 1 ≤ n ∧ n ≤ 999) (hm : 1 ≤ m ∧ m ≤ 999) (h : digT n = digT m) : n = m := by
 have a := r45_number_dig hn
 rw [h,r45_number_dig hm] at a
 injection a with a; exact a.symm
theorem words_inj {i j : Itm} (hi : i.ok) (hj : j.ok) (h : i.words = j.words) : i = j := by
 cases i with
 | w k p =>
  cases j with
  | w k' p' =>
   obtain ⟨a1,⟨a2,a3,a4⟩,_⟩ := hi
   obtain ⟨b1,⟨b2,b3,b4⟩,_⟩ := hj
   simp only [Itm.words,wlineW,List.cons.injEq,and_true,true_and] at h
   obtain ⟨h1,h2,h3,h4⟩ := h
   have e := gw_inj k a1 k' b1 h1
   have e2 := txt_inj a2 b2 h2
   have e3 := txt_inj a3 b3 h3
   have e4 := txt_inj a4 b4 h4
   obtain ⟨x,y,z⟩ := p
   obtain ⟨x',y',z'⟩ := p'
   simp only at e2 e3 e4
   subst e; subst e2; subst e3; subst e4; rfl
  | l n v=>simp [Itm.words,wlineW,llineW] at h
 | l n v =>
  cases j with
  | w k p=>simp [Itm.words,wlineW,llineW] at h
  | l n' v' =>
   simp only [Itm.words,llineW,List.cons.injEq,and_true,true_and] at h
   have e := dig_inj hi.1 hj.1 h.1
   have e2 := txt_inj (n := v) (m := v') (by have := hi.2; omega) (by have := hj.2; omega) h.2
   subst e; subst e2; rfl
theorem line_inj {i j : Itm} (hi : i.ok) (hj : j.ok) (h : i.line = j.line) : i = j := words_inj hi hj (by rw [← words_of hi,h,words_of hj])
def goodL : Int → List R45Length → Prop
 | _,[]=>True
 | m,e :: r=>((1 ≤ e.Number ∧ e.Number ≤ 999) ∧ 0 ≤ e.Length ∧ e.Length ≤ 10000000) ∧ m < e.Number ∧ goodL e.Number r
def lastN : Int → List R45Length → Int
 | m,[]=>m
 | _,e :: r=>lastN e.Number r
theorem goodL_snoc (e : R45Length) : ∀ (l : List R45Length) (m : Int),goodL m (l ++ [e]) ↔ goodL m l ∧ ((1 ≤ e.Number ∧ e.Number ≤ 999) ∧ 0 ≤ e.Length ∧ e.Length ≤ 10000000) ∧ lastN m l < e.Number
 | [],m=>by simp [goodL,lastN]
 | x :: l,m=>by
  simp only [zF,goodL,lastN,goodL_snoc e l x.Number]
  constructor
  ·rintro ⟨a,b,c,d⟩; exact ⟨⟨a,b,c⟩,d⟩
  ·rintro ⟨⟨a,b,c⟩,d⟩; exact ⟨a,b,c,d⟩
theorem lastN_snoc (e : R45Length) : ∀ (l : List R45Length) (m : Int),lastN m (l ++ [e]) = e.Number
 | [],_=>rfl
 | x :: l,m=>by simp only [zF,lastN]; exact lastN_snoc e l _
theorem goodL_N : ∀ {l : List R45Length} {m : Int},goodL m l → okN l
 | [],_,_=>λe he=>by simp at he
 | x :: l,m,h=>λe he=>by
  rcases List.mem_cons.1 he with rfl | he
  ·obtain ⟨⟨a,b⟩,_⟩ := h; exact ⟨by omega,by omega⟩
  ·exact goodL_N h.2.2 e he
theorem lastN_pos : ∀ {l : List R45Length} {m : Int},goodL m l → l ≠ [] → 1 ≤ lastN m l
 | [],_,_,h=>absurd rfl h
 | [x],m,h,_=>h.1.1.1
 | x :: y :: l,m,h,_=>lastN_pos (l := y :: l) h.2.2 (by simp)
def okT (t : R45Table) : Prop := okW6 t.Work ∧ goodL 0 t.Lengths
def Inv (last : Int) (t : R45Table) : Prop := (t.Lengths = [] ∧ -1 ≤ last ∧ last ≤ 5 ∧ (∀ (j : Nat) p,(wl t.Work)[j]? = some p → last < (j : Int) → zB p = true) ∧ (0 ≤ last → ∃ p,(wl t.Work)[last.toNat]? = some p ∧ zB p = false)) ∨ (t.Lengths ≠ [] ∧ last = 6 + lastN 0 t.Lengths)
theorem wl_set (W : Arr6ApiPos) (p : ApiPos) : ∀ k,k < 6 → wl (setW W k p) = (wl W).set k p
 | 0,_=>rfl
 | 1,_=>rfl
 | 2,_=>rfl
 | 3,_=>rfl
 | 4,_=>rfl
 | 5,_=>rfl
 | n + 6,h=>absurd h (by omega)
theorem okW6_set {W : Arr6ApiPos} {p : ApiPos} (h : okW6 W) (hp : inR p) (k : Nat) : okW6 (setW W k p) := by
 obtain ⟨h0,h1,h2,h3,h4,h5⟩ := h
 unfold setW
 split
 ·exact ⟨hp,h1,h2,h3,h4,h5⟩
 ·exact ⟨h0,hp,h2,h3,h4,h5⟩
 ·exact ⟨h0,h1,hp,h3,h4,h5⟩
 ·exact ⟨h0,h1,h2,hp,h4,h5⟩
 ·exact ⟨h0,h1,h2,h3,hp,h5⟩
 ·exact ⟨h0,h1,h2,h3,h4,hp⟩
theorem linesW_zero : ∀ (l : List ApiPos) (k : Nat),(∀ p ∈ l,zB p = true) → linesW k l = []
 | [],_,_=>rfl
 | p :: l,k,h=>by
  simp only [linesW]
  rw [if_pos (h p (by simp)),linesW_zero l (k + 1) (λq hq=>h q (by simp [hq]))]; rfl
theorem linesW_put {p : ApiPos} (hz : zB p = false) : ∀ (l : List ApiPos) (k j : Nat),j < l.length → (∀ i q,l[i]? = some q → j ≤ i → zB q = true) → linesW k (l.set j p) = linesW k l ++ [wline (k + j) p]
 | [],_,_,h,_=>by simp at h
 | q :: l,k,0,_,h=>by
  simp only [List.set_cons_zero,linesW,Nat.add_zero]
  rw [if_neg (by simp [hz]),if_pos (h 0 q rfl (zM _)),linesW_zero l (k + 1) (λr hr=>by
   obtain ⟨i,hi⟩ := List.mem_iff_getElem?.1 hr
   exact h (i + 1) r (by simpa using hi) (zY _))]
  rfl
 | q :: l,k,j + 1,hj,h=>by
  simp only [zW,linesW]
  rw [linesW_put hz l (k + 1) j (by simpa using hj) (λi r hi hji=>h (i + 1) r (by simpa using hi) (by omega)),zO,show k + 1 + j = k + (j + 1) by omega]
theorem put_lines {last : Int} {t : R45Table} {i : Itm} (hI : Inv last t) (ho : okT t) (hi : i.ok) (hp : last < i.plc) : linesT (i.put t) = linesT t ++ [i.line] ∧ okT (i.put t) ∧ Inv i.plc (i.put t) := by
 cases i with
 | w k p =>
  obtain ⟨hk,hr,hz⟩ := hi
  have hlast : last < (k : Int) := hp
  rcases hI with ⟨h1,h2,h3,h4,h5⟩ | ⟨h1,h2⟩
  ·have hl : linesL t.Lengths = [] := by rw [h1]; rfl
   refine ⟨?_,⟨okW6_set ho.1 hr k,ho.2⟩,.inl ⟨h1,by show (-1 : Int) ≤ (k : Int); omega,by show (k : Int) ≤ 5; omega,λj q hj hlt=>?_,λ_=>⟨p,?_,hz⟩⟩⟩
   ·show linesW 0 (wl (setW t.Work k p)) ++ linesL t.Lengths = linesW 0 (wl t.Work) ++ linesL t.Lengths ++ [wline k p]
    rw [wl_set _ _ k hk,linesW_put hz (wl t.Work) 0 k (by simpa [wl] using hk) (λi q hiq hki=>h4 i q hiq (by omega)),hl,zR,zI,zI]
   ·have hlt : (k : Int) < (j : Int) := hlt
    have hj : (wl (setW t.Work k p))[j]? = some q := hj
    rw [wl_set _ _ k hk,List.getElem?_set_ne (by omega)] at hj
    exact h4 j q hj (by omega)
   ·show (wl (setW t.Work k p))[(k : Int).toNat]? = some p
    rw [zH,wl_set _ _ k hk,List.getElem?_set_self (by simpa [wl] using hk)]
  ·have := lastN_pos ho.2 h1
   omega
 | l n v =>
  have hlast : last < 6 + n := hp
  refine ⟨?_,⟨ho.1,(goodL_snoc _ _ _).2 ⟨ho.2,hi,?_⟩⟩,.inr ⟨by simp [Itm.put],?_⟩⟩
  ·show linesW 0 (wl t.Work) ++ linesL (t.Lengths ++ [⟨n,v⟩]) = linesW 0 (wl t.Work) ++ linesL t.Lengths ++ [lline n v]
   simp [linesL]
  ·rcases hI with ⟨h1,h2,h3,h4,h5⟩ | ⟨h1,h2⟩
   ·rw [h1]; show (0 : Int) < n; have := hi.1; omega
   ·show lastN 0 t.Lengths < n; omega
  ·show 6 + n = 6 + lastN 0 (t.Lengths ++ [⟨n,v⟩])
   rw [lastN_snoc]
def zeroT : R45Table := ⟨⟨⟨0,0,0⟩,⟨0,0,0⟩,⟨0,0,0⟩,⟨0,0,0⟩,⟨0,0,0⟩,⟨0,0,0⟩⟩,[]⟩
theorem zero_ok : okT zeroT ∧ Inv (-1) zeroT ∧ linesT zeroT = [] := by
 refine ⟨⟨⟨?_,?_,?_,?_,?_,?_⟩,trivial⟩,.inl ⟨rfl,by omega,by omega,λj p hj _=>?_,λh=>absurd h (by omega)⟩,rfl⟩
 all_goals first | (unfold inR zeroT; decide) | skip
 have : ∀ p ∈ wl zeroT.Work,zB p = true := by
  intro p hp
  simp only [wl,zeroT,zN,zL,or_false,or_self] at hp
  subst hp; rfl
 exact this p (List.mem_of_getElem? hj)
end Go.Proofs.YtjamgiobipdfhaaGreatDoor
namespace Go.Proofs.YtjamgiobipdfhaaGreatDoor
open Go.RowKit
set_option linter.unusedVariables false
set_option linter.unusedSimpArgs false
def entB (e : R45Length) : Bool := (decide (e.Number ≥ 1)) && ((decide (e.Number ≤ 999)) && ((decide (e.Length ≥ 0)) && (decide (e.Length ≤ 10000000))))
theorem entB_iff {e : R45Length} : entB e = true ↔ ((1 ≤ e.Number ∧ e.Number ≤ 999) ∧ 0 ≤ e.Length ∧ e.Length ≤ 10000000) := by
 unfold entB
 simp only [zZ,decide_eq_true_eq]
 constructor
 ·rintro ⟨a,b,c,d⟩; exact ⟨⟨a,b⟩,c,d⟩
 ·rintro ⟨⟨a,b⟩,c,d⟩; exact ⟨a,b,c,d⟩
def prevB (L : List R45Length) (i : Nat) (e : R45Length) : Bool := decide (0 < i) && (match L[i - 1]? with | some x=>decide (e.Number ≤ x.Number) | none=>false)
def badE (L : List R45Length) (i : Nat) (e : R45Length) : Bool := !(entB e) || prevB L i e
theorem bad_iff {L l pre : List R45Length} {e : R45Length} (hL : L = pre ++ e :: l) : badE L pre.length e = true ↔ ¬ (((1 ≤ e.Number ∧ e.Number ≤ 999) ∧ 0 ≤ e.Length ∧ e.Length ≤ 10000000) ∧ lastN 0 pre < e.Number) := by
 unfold badE
 rw [Bool.or_eq_true,Bool.not_eq_true',← Bool.not_eq_true,entB_iff]
 have hp : prevB L pre.length e = true ↔ (pre ≠ [] ∧ ¬ lastN 0 pre < e.Number) := by
  unfold prevB
  rcases List.eq_nil_or_concat pre with rfl | ⟨q,x,rfl⟩
  ·simp
  ·have hx : L[(q ++ [x]).length - 1]? = some x := by rw [hL]; simp
   rw [List.concat_eq_append,hx,lastN_snoc]
   simp
 rw [hp]
 constructor
 ·rintro (h | ⟨_,h⟩) ⟨a,b⟩
  ·exact h a
  ·exact h b
 ·intro h
  by_cases c : ((1 ≤ e.Number ∧ e.Number ≤ 999) ∧ 0 ≤ e.Length ∧ e.Length ≤ 10000000)
  ·refine .inr ⟨λe0=>?_,λb=>h ⟨c,b⟩⟩
   subst e0
   exact h ⟨c,by show (0 : Int) < e.Number; omega⟩
  ·exact .inl c
theorem valid_loop {L : List R45Length} {f : Nat → R45Length → Unit → Option (Ex (Ex Int Unit) Unit)} {d : Unit → Option (Ex Int Unit)} (hd : d () = some (.go ())) (hf : ∀ i e,L[i]? = some e → f i e () = if badE L i e = true then some (.ret (.ret 1)) else some (.go ())) :
  ∀ (l pre : List R45Length),L = pre ++ l → (goodL (lastN 0 pre) l ∧ rangeX f d l pre.length () = some (.go ())) ∨ (¬ goodL (lastN 0 pre) l ∧ rangeX f d l pre.length () = some (.ret 1))
 | [],pre,_=>.inl ⟨trivial,hd⟩
 | e :: l,pre,hL=>by
  have hi : L[pre.length]? = some e := by rw [hL]; simp
  have hb := bad_iff hL
  simp only [rangeX,hf _ _ hi]
  by_cases h : badE L pre.length e = true
  ·right
   refine ⟨λg=>hb.1 h ⟨g.1,g.2.1⟩,?_⟩
   simp only [h,if_true]
  ·have hg : ((1 ≤ e.Number ∧ e.Number ≤ 999) ∧ 0 ≤ e.Length ∧ e.Length ≤ 10000000) ∧ lastN 0 pre < e.Number := Classical.byContradiction (λc=>h (hb.2 c))
   have ih := valid_loop hd hf l (pre ++ [e]) (by rw [hL]; simp)
   rw [lastN_snoc,zC,List.length_singleton] at ih
   have h' : badE L pre.length e = false := by simpa using h
   simp only [h',zJ,if_false]
   rcases ih with ⟨a,b⟩ | ⟨a,b⟩
   ·exact .inl ⟨⟨hg.1,hg.2,a⟩,b⟩
   ·exact .inr ⟨λg=>a g.2.2,b⟩
theorem valid_fin {t : R45Table} (hl : t.Lengths.length ≤ 1000) (hw : okW6 t.Work) {f : Nat → R45Length → Unit → Option (Ex (Ex Int Unit) Unit)} {d : Unit → Option (Ex Int Unit)} (hd : d () = some (.go ())) (hf : ∀ i e,t.Lengths[i]? = some e → f i e () = if badE t.Lengths i e = true then some (.ret (.ret 1)) else some (.go ())) :
  (okT t ∧ bindX (some (Ex.go ())) (λ(v1 : Unit)=>bindX (guardO (okIdx t.Lengths) (rangeX f d t.Lengths 0 ())) (λ(v4 : Unit)=>some (0 : Int))) = some 0) ∨ (¬ okT t ∧ bindX (some (Ex.go ())) (λ(v1 : Unit)=>bindX (guardO (okIdx t.Lengths) (rangeX f d t.Lengths 0 ())) (λ(v4 : Unit)=>some (0 : Int))) = some 1) := by
 have e1 : bindX (some (Ex.go ())) (λ(v1 : Unit)=>bindX (guardO (okIdx t.Lengths) (rangeX f d t.Lengths 0 ())) (λ(v4 : Unit)=>some (0 : Int))) = bindX (guardO (okIdx t.Lengths) (rangeX f d t.Lengths 0 ())) (λ(v4 : Unit)=>some (0 : Int)) := rfl
 rw [e1,okIdx_of (by omega),guardO_t]
 rcases valid_loop hd hf t.Lengths [] rfl with ⟨a,b⟩ | ⟨a,b⟩
 ·have b' : rangeX f d t.Lengths 0 () = some (.go ()) := b
  exact .inl ⟨⟨hw,a⟩,by rw [b']; rfl⟩
 ·have b' : rangeX f d t.Lengths 0 () = some (.ret 1) := b
  exact .inr ⟨λh=>a h.2,by rw [b']; rfl⟩
theorem r45_Valid_iff (t : R45Table) (hl : t.Lengths.length ≤ 1000) : (okT t ∧ r45_Valid t = some 0) ∨ (¬ okT t ∧ r45_Valid t = some 1) := by
 unfold r45_Valid
 simp only [r45_out_eq,bindO_s]
 by_cases h0 : inR t.Work.e0
 ·by_cases h1 : inR t.Work.e1
  ·by_cases h2 : inR t.Work.e2
   ·by_cases h3 : inR t.Work.e3
    ·by_cases h4 : inR t.Work.e4
     ·by_cases h5 : inR t.Work.e5
      ·simp only [h0,h1,h2,h3,h4,h5,decide_true,Bool.not_true,zJ,if_false]
       refine valid_fin hl ⟨h0,h1,h2,h3,h4,h5⟩ rfl (λi e he=>?_)
       have hlt := getElem_lt he
       unfold badE prevB
       show bindO (bindO (some (entB e)) _) _ = _
       rw [bindO_s]
       cases hE : entB e with
       | false=>rfl
       | true =>
        rw [if_pos rfl]
        by_cases hi : 0 < i
        ·obtain ⟨x,hx⟩ : ∃ x,t.Lengths[i - 1]? = some x := ⟨_,List.getElem?_eq_getElem (by omega)⟩
         have e2 : jD.wrap ((i : Int) - 1) = ((i - 1 : Nat) : Int) := by rw [wrap_i64 (by omega) (by omega)]; omega
         rw [if_pos (by simp; omega),e2,gt_k hx,bindO_s,bindO_s,hx,decide_eq_true hi]
         simp
        ·rw [if_neg (by simp; omega),bindO_s,decide_eq_false hi]
         simp
      ·exact .inr ⟨λh=>h5 h.1.2.2.2.2.2,by simp [h0,h1,h2,h3,h4,h5]⟩
     ·exact .inr ⟨λh=>h4 h.1.2.2.2.2.1,by simp [h0,h1,h2,h3,h4]⟩
    ·exact .inr ⟨λh=>h3 h.1.2.2.2.1,by simp [h0,h1,h2,h3]⟩
   ·exact .inr ⟨λh=>h2 h.1.2.2.1,by simp [h0,h1,h2]⟩
  ·exact .inr ⟨λh=>h1 h.1.2.1,by simp [h0,h1]⟩
 ·exact .inr ⟨λh=>h0 h.1.1,by simp [h0]⟩
theorem linesL_text (l : List R45Length) : textL (linesL l) = l.flatMap λe=>lline e.Number e.Length ++ [10] := by
 unfold textL linesL
 rw [List.flatMap_map]
theorem lline_len {n v : Int} (hn : -1 ≤ n ∧ n ≤ 999) (hv : -10000000 ≤ v ∧ v ≤ 10000000) : (lline n v).length ≤ 130 := by
 have a := digT_lenN hn
 have b := txtV_len v (by omega) (by omega)
 rw [lline_eq]
 simp only [zC,zD,zE]
 omega
theorem tb_Format_eq {t : R45Table} (ho : okT t) (hl : t.Lengths.length ≤ 1000) : tb_Format (theirsW t) = some (textL (linesT t),0) := by
 have hN := goodL_N ho.2
 have hv : tb_Valid (theirsW t) = some 0 := by
  rw [valid_same t hl]
  rcases r45_Valid_iff t hl with ⟨_,h⟩ | ⟨h,_⟩
  ·exact h
  ·exact absurd ho h
 obtain ⟨h0,h1,h2,h3,h4,h5⟩ := ho.1
 have it : ∀ n : Int,0 ≤ n ∧ n ≤ 999 → strconv_Itoa n = some (digT n) := λn hn=>by
  unfold strconv_Itoa inI64
  rw [decide_eq_true ⟨by omega,by omega⟩,itoa_dig hn.1]; rfl
 unfold tb_Format
 rw [hv,bindO_s,if_neg (by decide)]
 have hWk : (theirsW t).Work = t.Work := rfl
 rw [hWk]
 have w : ∀ (k : Nat) (p : ApiPos),inR p → (textL (linesW k [p])).length ≤ 400 := λk p hp=>by
  rw [linesW_one]
  split
  ·simp [textL]
  ·have := wline_len k hp
   simp [textL]; omega
 have w0 := w 0 _ h0
 have w1 := w 1 _ h1
 have w2 := w 2 _ h2
 have w3 := w 3 _ h3
 have w4 := w 4 _ h4
 have w5 := w 5 _ h5
 rw [tb_wstep0 (k := 0) (it 54 (by omega)) (dgw 0 (by omega)) h0,bindO_s]
 rw [tb_wstep (k := 1) (it 55 (by omega)) (dgw 1 (by omega)) h1 _ (by omega),bindO_s]
 rw [tb_wstep (k := 2) (it 56 (by omega)) (dgw 2 (by omega)) h2 _ (by simp only [zC]; omega),bindO_s]
 rw [tb_wstep (k := 3) (it 57 (by omega)) (dgw 3 (by omega)) h3 _ (by simp only [zC]; omega),bindO_s]
 rw [tb_wstep (k := 4) (it 58 (by omega)) (dgw 4 (by omega)) h4 _ (by simp only [zC]; omega),bindO_s]
 rw [tb_wstep (k := 5) (it 59 (by omega)) (dgw 5 (by omega)) h5 _ (by simp only [zC]; omega),bindO_s,bindO_s]
 have e6 : textL (linesW 0 [t.Work.e0]) ++ textL (linesW 1 [t.Work.e1]) ++ textL (linesW 2 [t.Work.e2]) ++ textL (linesW 3 [t.Work.e3]) ++ textL (linesW 4 [t.Work.e4]) ++ textL (linesW 5 [t.Work.e5]) = textL (linesW 0 (wl t.Work)) := by
  rw [linesW_six]
  simp only [textL_app]
 have e7 : (textL (linesW 0 (wl t.Work))).length ≤ 2400 := by
  rw [← e6]; simp only [zC]; omega
 rw [e6]
 unfold linesT
 rw [textL_app,linesL_text]
 generalize textL (linesW 0 (wl t.Work)) = v0 at e7
 have hlen : (theirsW t).Lengths.length = t.Lengths.length := by simp [theirsW]
 rw [okIdx_of (by omega),guardO_t,range_fold (g := λ(o : List UInt8) (e : TableLength)=>o ++ (lline e.Number e.Length ++ [10])) (R := λi v=>v.length ≤ 2400 + i * 131) (L := (theirsW t).Lengths) ?_ (theirsW t).Lengths 0 v0 rfl (by omega)]
 ·rw [bindO_s]
  have hfold : ∀ (l : List R45Length) (o : List UInt8),(l.map λl=>TableLength.mk l.Number l.Length).foldl (λ(o : List UInt8) (e : TableLength)=>o ++ (lline e.Number e.Length ++ [10])) o = o ++ l.flatMap λe=>lline e.Number e.Length ++ [10] := by
   intro l
   induction l with
   | nil=>intro o; simp
   | cons x l ih=>intro o; rw [jC,List.foldl_cons,ih]; simp
  show some ((t.Lengths.map λl=>TableLength.mk l.Number l.Length).foldl _ v0,(0 : Int)) = _
  rw [hfold]
 ·intro i x v hx hr
  have hlt := getElem_lt hx
  have hx' : (t.Lengths.map λl=>TableLength.mk l.Number l.Length)[i]? = some x := hx
  rw [List.getElem?_map] at hx'
  obtain ⟨e,he,rfl⟩ := Option.map_eq_some_iff.1 hx'
  have hmem := List.mem_of_getElem? he
  obtain ⟨n1,n2⟩ := hN e hmem
  have hnn : 0 ≤ e.Number := by
   have : ∀ {l : List R45Length} {m : Int},goodL m l → ∀ e ∈ l,0 ≤ e.Number := by
    intro l
    induction l with
    | nil=>intro m _ e he; simp at he
    | cons y l ih =>
     intro m h e he
     rcases List.mem_cons.1 he with rfl | he
     ·have := h.1.1.1; omega
     ·exact ih h.2.2 e he
   exact this ho.2 e hmem
  have a := digT_lenN n1
  have b := txtV_len e.Length (by omega) (by omega)
  have hr2 : v.length ≤ 2400 + 1000 * 131 := zX hr (Nat.add_le_add_left (Nat.mul_le_mul_right _ (by omega)) _)
  dsimp only
  rw [fmtI (by omega) (by omega),itoa_dig hnn,bindO_s,okStr_of (by simp only [zC,zD,zE]; omega),guardO_t,okStr_of (by simp only [zC,zD,zE]; omega),guardO_t,dc_Millimetres_eq _ (by omega) (by omega),bindO_s,okStr_of (by simp only [zC,zD,zE]; omega),guardO_t,okStr_of (by simp only [zC,zD,zE]; omega),guardO_t,okLen_of (by simp only [zC,zD,zE]; omega),guardO_t]
  have hll := lline_len n1 n2
  refine ⟨by rw [lline_eq],?_⟩
  simp only [zC,zD,zE]
  rw [Nat.add_mul]; omega
end Go.Proofs.YtjamgiobipdfhaaGreatDoor
namespace Go.Proofs.YtjamgiobipdfhaaGreatDoor
open Go.RowKit
set_option linter.unusedVariables false
set_option linter.unusedSimpArgs false
theorem cutL_one {s : List UInt8} {i : Nat} {c : UInt8} (h : s[i]? = some c) : cutL s (i : Int) ((i + 1 : Nat) : Int) = some [c] := by
 have hlt := getElem_lt h
 unfold cutL
 rw [if_neg (by omega)]
 congr 1
 have : ((i + 1 : Nat) : Int).toNat - (i : Int).toNat = 1 := by omega
 rw [this,zH,zQ hlt]
 rw [List.getElem?_eq_getElem hlt] at h
 injection h with h
 simp [h]
theorem r45_words_eq (s : List UInt8) (hl : s.length ≤ 100000) : r45_words s = some (pcb 32 s) := by
 have key : Tot (r45_words s) (λws=>ws = pcb 32 s) := by
  unfold r45_words
  refine Tot.bind (E := λv=>v.2 = pcb 32 s) (Tot.guard (okIdx_of (by omega)) (Tot.range (λi v=>v.2 = pcb 32 (s.take i)) _ rfl (λi c v hc hv=>?_) (λv hv=>.ok (by simpa using hv)))) (λv hv=>.ok hv)
  have hlt := getElem_lt hc
  have ht : s.take (i + 1) = s.take i ++ [c] := by rw [List.take_add_one,hc]; rfl
  have hpl := pcb_len 32 (s.take i)
  have hpl2 : (s.take i).length ≤ i := by simp; omega
  refine TotX.bind (E := λu=>u.2 = pcb 32 (s.take (i + 1))) (Tot.ite (λq=>?_) (λq=>?_)) (λu hu=>.go hu)
  ·have hc32 : c = 32 := by
    have : (c.toNat : Int) = 32 := by simpa using q
    exact UInt8.toNat_inj.1 (by show c.toNat = 32; omega)
   rw [hv]
   refine Tot.guard (okLen_of (by omega)) (.ok ?_)
   subst hc32
   rw [ht,pcb_snoc_sep]
  ·have hc32 : c ≠ 32 := by rintro rfl; simp at q
   obtain ⟨ps,p,e1,e2⟩ := pcb_snoc hc32 (s.take i)
   rw [hv,e1,ht,e2]
   have hlen : ((ps ++ [p]).length : Int) = ((ps.length : Nat) : Int) + 1 := by simp
   have hps : ps.length ≤ 100000 := by
    have := hpl; rw [e1] at this; simp at this; omega
   have hidx : jD.wrap (((ps ++ [p]).length : Int) - 1) = (ps.length : Int) := by rw [wrap_i64 (by omega) (by omega)]; omega
   have hg : (ps ++ [p])[ps.length]? = some p := by simp
   have hi1 : jD.wrap ((i : Int) + 1) = ((i + 1 : Nat) : Int) := by rw [wrap_i64 (by omega) (by omega)]; omega
   have hp : p.length ≤ 100000 := by
    have := pcb_mem (z := 32) (s := s.take i) (p := p) (by rw [e1]; simp)
    omega
   rw [hidx,gt_k hg,bindO_s,hi1,cutL_one hc,bindO_s,okStr_of (by simp; omega),guardO_t,bindO_s]
   refine .ok ?_
   simp
 obtain ⟨e,he,rfl⟩ := key
 exact he
theorem linesW_last : ∀ (l : List ApiPos) (k : Nat) {x : List UInt8},(linesW k l).getLast? = some x → ∃ j q,l[j]? = some q ∧ zB q = false ∧ x = wline (k + j) q ∧ ∀ (j' : Nat) q',l[j']? = some q' → j < j' → zB q' = true
 | [],_,_,h=>by simp [linesW] at h
 | p :: l,k,x,h=>by
  simp only [linesW] at h
  by_cases hr : linesW (k + 1) l = []
  ·rw [hr,zI] at h
   have hz : zB p = false := by
    cases hz : zB p with
    | false=>rfl
    | true=>rw [hz] at h; simp at h
   rw [hz] at h
   simp at h
   refine ⟨0,p,rfl,hz,by rw [Nat.add_zero]; exact h.symm,λj' q' hj hlt=>?_⟩
   have hall : ∀ (l : List ApiPos) (k : Nat),linesW k l = [] → ∀ q ∈ l,zB q = true := by
    intro l
    induction l with
    | nil=>intro k _ q hq; simp at hq
    | cons a l ih =>
     intro k h q hq
     simp only [linesW,List.append_eq_nil_iff] at h
     rcases List.mem_cons.1 hq with rfl | hq
     ·cases hz : zB q with
      | true=>rfl
      | false=>rw [hz] at h; simp at h
     ·exact ih (k + 1) h.2 q hq
   cases j' with
   | zero=>omega
   | succ j'=>exact hall l (k + 1) hr q' (List.mem_of_getElem? (by simpa using hj))
  ·have h : (linesW (k + 1) l).getLast? = some x := by
    rw [List.getLast?_append] at h
    cases hq : (linesW (k + 1) l).getLast? with
    | none=>exact absurd (List.getLast?_eq_none_iff.1 hq) hr
    | some y=>rw [hq] at h; exact h
   obtain ⟨j,q,h1,h2,h3,h4⟩ := linesW_last l (k + 1) h
   refine ⟨j + 1,q,by simpa using h1,h2,by rw [h3]; congr 1; omega,λj' q' hj hlt=>?_⟩
   cases j' with
   | zero=>omega
   | succ j'=>exact h4 j' q' (by simpa using hj) (by omega)
theorem linesW_set_len {p : ApiPos} (hp : zB p = false) : ∀ (l : List ApiPos) (k i : Nat) {q : ApiPos},l[i]? = some q → zB q = false → (linesW k (l.set i p)).length = (linesW k l).length
 | [],_,_,_,h,_=>by simp at h
 | a :: l,k,0,q,h,hq=>by
  have : a = q := by simpa using h
  subst this
  simp [linesW,hp,hq]
 | a :: l,k,i + 1,q,h,hq=>by
  simp only [zW,linesW,zC]
  rw [linesW_set_len hp l (k + 1) i (by simpa using h) hq]
def isL (last : Int) (t : R45Table) (line : List UInt8) (r : R45Table × Bool) : Prop := (r.2 = true ↔ ∃ it : Itm,it.ok ∧ line = it.line ∧ last < it.plc) ∧ ∀ it : Itm,it.ok → line = it.line → last < it.plc → r.1 = it.put t
theorem isL_no {last : Int} {t u : R45Table} {line : List UInt8} (h : ∀ it : Itm,it.ok → pcb 32 line = it.words → last < it.plc → False) : isL last t line (u,false) :=
 ⟨⟨λq=>(by cases q),λ⟨it,h1,h2,h3⟩=>(h it h1 ((line_iff h1).1 h2) h3).elim⟩,λit h1 h2 h3=>(h it h1 ((line_iff h1).1 h2) h3).elim⟩
theorem tail_ok {t t' : R45Table} {line : List UInt8} (hW : okW6 t'.Work) (hN : okN t'.Lengths) (hl : t'.Lengths.length ≤ 1000) (hb : (linesT t).length ≤ 2000) :
  Tot (bindO (r45_Lines t') λ(y10 : (List (List UInt8)))=>bindO (bindO (r45_Valid t') λ(y11 : Int)=>if (y11 == 0) = true then if ((y10.length : Int) == (jD.wrap (((linesT t).length : Int) + 1))) = true then bindO (gt y10 ((linesT t).length : Int)) λ(e10 : (List UInt8))=>some (e10 == line) else some false else some false) λ(v5 : Bool)=>some (t',v5)) (λr=>r.1 = t' ∧ (r.2 = true ↔ okT t' ∧ (linesT t').length = (linesT t).length + 1 ∧ (linesT t').getLast? = some line)) := by
 rw [r45_Lines_eq t' hW hN (by omega),bindO_s]
 rcases r45_Valid_iff t' hl with ⟨ho,hv⟩ | ⟨ho,hv⟩
 ·rw [hv,bindO_s,if_pos (by decide),wrap_i64 (by omega) (by omega)]
  by_cases hc : (linesT t').length = (linesT t).length + 1
  ·rw [if_pos (by simp; omega)]
   obtain ⟨x,hx⟩ : ∃ x,(linesT t')[(linesT t).length]? = some x := ⟨_,List.getElem?_eq_getElem (by omega)⟩
   have hlast : (linesT t').getLast? = some x := by rw [List.getLast?_eq_getElem?,hc,Nat.add_sub_cancel]; exact hx
   rw [gt_k hx,bindO_s,bindO_s]
   refine .ok ⟨rfl,?_⟩
   rw [hlast]
   constructor
   ·intro h; exact ⟨ho,hc,by rw [show x = line by simpa using h]⟩
   ·rintro ⟨_,_,h⟩; injection h with h; simpa using h
  ·rw [if_neg (by simp; omega),bindO_s]
   exact .ok ⟨rfl,⟨λh=>(by cases h),λh=>absurd h.2.1 hc⟩⟩
 ·rw [hv,bindO_s,if_neg (by decide),bindO_s]
  exact .ok ⟨rfl,⟨λh=>(by cases h),λh=>absurd h.1 ho⟩⟩
end Go.Proofs.YtjamgiobipdfhaaGreatDoor
namespace Go.Proofs.YtjamgiobipdfhaaGreatDoor
open Go.RowKit
set_option linter.unusedVariables false
set_option linter.unusedSimpArgs false
theorem wl_in {W : Arr6ApiPos} (h : okW6 W) : ∀ q ∈ wl W,inR q := by
 obtain ⟨h0,h1,h2,h3,h4,h5⟩ := h
 intro q hq
 simp only [wl,zN,zL,or_false] at hq
 rcases hq with rfl | rfl | rfl | rfl | rfl | rfl <;> assumption
theorem two_num {k : Nat} {a1 a2 : UInt8} {nb : Int} (hk : k < 6) (h : ([71,a1,a2] : List UInt8) = gw k) (hn : r45_number [a1,a2] = some nb) : nb = 54 + (k : Int) := by
 rw [← dgw k hk] at h
 injection h with _ h
 rw [h,r45_number_dig (by omega)] at hn
 injection hn with hn; exact hn.symm
theorem linesT_len {t : R45Table} : (linesT t).length ≤ 6 + t.Lengths.length := by
 have := linesW_len (wl t.Work) 0
 have h6 : (wl t.Work).length = 6 := rfl
 unfold linesT linesL
 rw [zC,List.length_map]
 omega
def nextT (last : Int) (t : R45Table) (line : List UInt8) (t' : R45Table) : Prop :=
 (okW6 t'.Work ∧ okN t'.Lengths ∧ t'.Lengths.length ≤ 1000) ∧ (okT t' → (linesT t').length = (linesT t).length + 1 → (linesT t').getLast? = some line → ∃ it : Itm,it.ok ∧ line = it.line ∧ last < it.plc) ∧ ∀ it : Itm,it.ok → line = it.line → last < it.plc → t' = it.put t
theorem next_w {last : Int} {t : R45Table} {line b c d : List UInt8} {a1 a2 : UInt8} {nb : Int} {p : ApiPos} (ho : okT t) (hI : Inv last t) (hL : t.Lengths = []) (hws : pcb 32 line = [wordW,[71,a1,a2],b,c,d]) (hn : r45_number [a1,a2] = some nb) (h1 : 54 ≤ nb) (h2 : nb ≤ 59) (hp : inR p) (hx : (fmV b).1 = p.X) (hy : (fmV c).1 = p.Y) (hz : (fmV d).1 = p.Z) : nextT last t line ⟨setW t.Work (nb - 54).toNat p,t.Lengths⟩ := by
  obtain ⟨k,hk⟩ : ∃ k : Nat,(nb - 54).toNat = k := ⟨_,rfl⟩
  have hk6 : k < 6 := by omega
  rw [hk]
  have same : ∀ it : Itm,it.ok → line = it.line → it = .w k p := λit hok hl=>by
    have hw := (line_iff hok).1 hl
    rw [hws] at hw
    cases it with
    | l n v=>simp [Itm.words,llineW] at hw
    | w j q =>
      obtain ⟨q1,q2,q3⟩ := hok
      simp only [Itm.words,wlineW,List.cons.injEq,and_true,true_and] at hw
      obtain ⟨w1,w2,w3,w4⟩ := hw
      have hw1 : ([71,a1,a2] : List UInt8) = gw j := by
        unfold gw at w1 ⊢
        simp only [List.cons.injEq,and_true] at w1 ⊢
        first | exact w1 | exact ⟨trivial,w1⟩ | simpa using w1
      have e := two_num q1 hw1 hn
      have ej : j = k := by omega
      obtain ⟨r1,r2,r3⟩ := q2
      rw [w2,fmV_txt r1] at hx
      rw [w3,fmV_txt r2] at hy
      rw [w4,fmV_txt r3] at hz
      subst ej
      obtain ⟨x,y,z⟩ := p
      obtain ⟨x',y',z'⟩ := q
      simp only at hx hy hz
      subst hx; subst hy; subst hz; rfl
  refine ⟨⟨okW6_set ho.1 hp k,goodL_N ho.2,by show t.Lengths.length ≤ 1000; rw [hL]; simp⟩,λhot hlen hlast=>?_,λit hok hl _=>by rw [same it hok hl]; rfl⟩
  have hLL : linesL t.Lengths = [] := by rw [hL]; rfl
  have hT' : linesT ⟨setW t.Work k p,t.Lengths⟩ = linesW 0 ((wl t.Work).set k p) := by
    show linesW 0 (wl (setW t.Work k p)) ++ linesL t.Lengths = _
    rw [hLL,zI,wl_set _ _ k hk6]
  have hT : linesT t = linesW 0 (wl t.Work) := by
    show linesW 0 (wl t.Work) ++ linesL t.Lengths = _
    rw [hLL,zI]
  rw [hT'] at hlen hlast
  rw [hT] at hlen
  obtain ⟨j,q,g1,g2,g3,g4⟩ := linesW_last _ 0 hlast
  have hj6 : j < 6 := by have := getElem_lt g1; simpa [wl] using this
  rw [zR] at g3
  have hq : inR q := wl_in hot.1 q (by
    show q ∈ wl (setW t.Work k p)
    rw [wl_set _ _ k hk6]; exact List.mem_of_getElem? g1)
  have hok : (Itm.w j q).ok := ⟨hj6,hq,g2⟩
  have e := same (.w j q) hok g3
  injection e with e1 e2
  subst e1; subst e2
  refine ⟨.w j q,hok,g3,?_⟩
  rcases hI with ⟨i1,i2,i3,i4,i5⟩ | ⟨i1,_⟩
  · show last < (j : Int)
    apply Int.not_le.1
    intro hle
    obtain ⟨p0,f1,f2⟩ := i5 (by omega)
    rcases Nat.lt_or_ge j last.toNat with hlt | hge
    · have := g4 last.toNat p0 (by rw [List.getElem?_set_ne (by omega)]; exact f1) hlt
      rw [f2] at this; cases this
    · have ej : last.toNat = j := by omega
      rw [ej] at f1
      have := linesW_set_len g2 (wl t.Work) 0 j f1 f2
      omega
  · exact absurd hL i1
theorem next_l {last : Int} {t : R45Table} {line a c : List UInt8} {nb : Int} (ho : okT t) (hI : Inv last t) (hL : t.Lengths.length ≤ 900) (hws : pcb 32 line = [wordL,a,c]) (hn : r45_number a = some nb) (hr : -1 ≤ nb ∧ nb ≤ 999) (hv : -10000000 ≤ (fmV c).1 ∧ (fmV c).1 ≤ 10000000) : nextT last t line ⟨t.Work,t.Lengths ++ [⟨nb,(fmV c).1⟩]⟩ := by
 have hT' : linesT ⟨t.Work,t.Lengths ++ [⟨nb,(fmV c).1⟩]⟩ = linesT t ++ [lline nb (fmV c).1] := by
  show linesW 0 (wl t.Work) ++ linesL (t.Lengths ++ [⟨nb,(fmV c).1⟩]) = linesW 0 (wl t.Work) ++ linesL t.Lengths ++ [lline nb (fmV c).1]
  simp [linesL]
 refine ⟨⟨ho.1,λe he=>?_,by simp; omega⟩,λhot _ hlast=>?_,λit hok hl _=>?_⟩
 ·rcases List.mem_append.1 he with he | he
  ·exact goodL_N ho.2 e he
  ·have : e = ⟨nb,(fmV c).1⟩ := by simpa using he
   subst this; exact ⟨hr,hv⟩
 ·rw [hT',List.getLast?_concat] at hlast
  injection hlast with hlast
  obtain ⟨g1,g2,g3⟩ := (goodL_snoc _ _ _).1 hot.2
  refine ⟨.l nb (fmV c).1,g2,hlast.symm,?_⟩
  show last < 6 + nb
  have g2' : 1 ≤ nb := g2.1.1
  have g3' : lastN 0 t.Lengths < nb := g3
  rcases hI with ⟨i1,i2,i3,_⟩ | ⟨i1,i2⟩ <;> omega
 ·have hw := (line_iff hok).1 hl
  rw [hws] at hw
  cases it with
  | w j q=>simp [Itm.words,wlineW] at hw
  | l n v =>
   simp only [Itm.words,llineW,List.cons.injEq,and_true,true_and] at hw
   obtain ⟨w1,w2⟩ := hw
   rw [w1,r45_number_dig hok.1] at hn
   injection hn with hn
   rw [w2,fmV_txt (n := v) (by have := hok.2; omega),← hn]
   rfl
theorem r45_read_ok {last : Int} {t : R45Table} {line : List UInt8} (hl : line.length ≤ 700) (ho : okT t) (hI : Inv last t) (hL : t.Lengths.length ≤ 900) : Tot (r45_read t line) (isL last t line) := by
  have hN := goodL_N ho.2
  have hb : (linesT t).length ≤ 2000 := by have := linesT_len (t := t); omega
  unfold r45_read
  rw [r45_words_eq line (by omega),bindO_s,r45_Lines_eq t ho.1 hN (by omega),bindO_s]
  have hmem : ∀ w ∈ pcb 32 line,w.length ≤ 700 := λw hw=>zX (pcb_mem hw) hl
  obtain ⟨ws,hws⟩ : ∃ ws,pcb 32 line = ws := ⟨_,rfl⟩
  rw [hws] at hmem ⊢
  refine Tot.bind (E := λb=>b = true ↔ ∃ a1 a2 b c d,ws = [wordW,[71,a1,a2],b,c,d] ∧ t.Lengths = []) ?_ (λb hb1=>?_)
  · refine Tot.ite (λh5=>?_) (λh5=>.ok ⟨λh=>(by cases h),λ⟨a1,a2,b,c,d,e,_⟩=>by rw [e] at h5; simp at h5⟩)
    have h5' : ws.length = 5 := by have : (ws.length : Int) = 5 := by simpa using h5
                                   omega
    obtain ⟨w0,w1,w2,w3,w4,rfl⟩ : ∃ w0 w1 w2 w3 w4,ws = [w0,w1,w2,w3,w4] := by
      match ws,h5' with
      | [a,b,c,d,e],_=>exact ⟨a,b,c,d,e,rfl⟩
    rw [show gt [w0,w1,w2,w3,w4] 0 = some w0 from rfl,bindO_s]
    refine Tot.ite (λe0=>?_) (λe0=>.ok ⟨λh=>(by cases h),λ⟨a1,a2,b,c,d,e,_⟩=>?_⟩)
    · have e0' : w0 = wordW := by simpa [wordW] using e0
      subst e0'
      rw [show gt [wordW,w1,w2,w3,w4] 1 = some w1 from rfl,bindO_s]
      refine Tot.ite (λh3=>?_) (λh3=>.ok ⟨λh=>(by cases h),λ⟨a1,a2,b,c,d,e,_⟩=>?_⟩)
      · have h3' : w1.length = 3 := by have : (w1.length : Int) = 3 := by simpa using h3
                                       omega
        obtain ⟨a0,a1,a2,rfl⟩ : ∃ a0 a1 a2,w1 = [a0,a1,a2] := by
          match w1,h3' with
          | [a,b,c],_=>exact ⟨a,b,c,rfl⟩
        rw [show gt [a0,a1,a2] 0 = some a0 from rfl,bindO_s]
        refine Tot.ite (λh7=>?_) (λh7=>.ok ⟨λh=>(by cases h),λ⟨b1,b2,b,c,d,e,_⟩=>?_⟩)
        · have h7' : a0 = 71 := by
            have : (a0.toNat : Int) = 71 := by simpa using h7
            exact UInt8.toNat_inj.1 (by show a0.toNat = 71; omega)
          subst h7'
          refine .ok ⟨λh=>⟨a1,a2,w2,w3,w4,rfl,?_⟩,λ⟨_,_,_,_,_,_,h⟩=>?_⟩
          · have : (t.Lengths.length : Int) = 0 := by simpa using h
            exact List.eq_nil_of_length_eq_zero (by omega)
          · rw [h]; rfl
        · simp only [List.cons.injEq] at e
          rw [e.2.1.1] at h7; simp at h7
      · simp only [List.cons.injEq] at e
        rw [e.2.1] at h3; simp at h3
    · simp only [List.cons.injEq] at e
      rw [e.1] at e0; simp [wordW] at e0
  · refine Tot.bindX (E := nextT last t line) (TotX.ite (λhT=>?_) (λhF=>?_)) (λt' ht'=>?_)
    · obtain ⟨a1,a2,b,c,d,e,hLn⟩ := hb1.1 hT
      subst e
      obtain ⟨nb,hnb,hr⟩ := r45_number_tot [a1,a2] (by simp)
      obtain ⟨_,fb,fb2⟩ := fm_both b (by have := hmem b (by simp); omega)
      obtain ⟨_,fc,fc2⟩ := fm_both c (by have := hmem c (by simp); omega)
      obtain ⟨_,fd,fd2⟩ := fm_both d (by have := hmem d (by simp); omega)
      rw [show gt [wordW,[71,a1,a2],b,c,d] 1 = some [71,a1,a2] from rfl,bindO_s,show cutF ([71,a1,a2] : List UInt8) 1 = some [a1,a2] from rfl,bindO_s,hnb,bindO_s,r45_index_eq hr,bindO_s,show gt [wordW,[71,a1,a2],b,c,d] 2 = some b from rfl,bindO_s,fb,bindO_s,show gt [wordW,[71,a1,a2],b,c,d] 3 = some c from rfl,bindO_s,fc,bindO_s,show gt [wordW,[71,a1,a2],b,c,d] 4 = some d from rfl,bindO_s,fd,bindO_s]
      refine TotX.ite (λhbad=>.ret (isL_no λit hok hw hlt=>?_)) (λhgood=>?_)
      · rw [hws] at hw
        cases it with
        | l n v=>simp [Itm.words,llineW] at hw
        | w j q =>
          obtain ⟨q1,⟨r1,r2,r3⟩,q3⟩ := hok
          simp only [Itm.words,wlineW,List.cons.injEq,and_true,true_and] at hw
          obtain ⟨w1,w2,w3,w4⟩ := hw
          have hw1 : ([71,a1,a2] : List UInt8) = gw j := by
            unfold gw at w1 ⊢
            simp only [List.cons.injEq,and_true] at w1 ⊢
            first | exact w1 | exact ⟨trivial,w1⟩ | simpa using w1
          have e := two_num q1 hw1 hnb
          rw [w2,w3,w4,fmV_txt r1,fmV_txt r2,fmV_txt r3,if_pos (by omega)] at hbad
          simp at hbad
          omega
      · have hc : 54 ≤ nb ∧ nb ≤ 59 := by
          apply Classical.byContradiction
          intro h
          rw [if_neg h] at hgood
          simp at hgood
        rw [if_pos hc] at hgood ⊢
        simp only [zU,decide_eq_false_iff_not,bne_eq_false_iff_eq] at hgood
        obtain ⟨_,z1,z2,z3⟩ := hgood
        have hput : (guardO (decide (0 ≤ nb - 54 ∧ nb - 54 < 6)) (if (nb - 54 == 0) = true then some (R45Table.mk (Arr6ApiPos.mk (ApiPos.mk (fmV b).1 (fmV c).1 (fmV d).1) t.Work.e1 t.Work.e2 t.Work.e3 t.Work.e4 t.Work.e5) t.Lengths) else if (nb - 54 == 1) = true then some (R45Table.mk (Arr6ApiPos.mk t.Work.e0 (ApiPos.mk (fmV b).1 (fmV c).1 (fmV d).1) t.Work.e2 t.Work.e3 t.Work.e4 t.Work.e5) t.Lengths) else if (nb - 54 == 2) = true then some (R45Table.mk (Arr6ApiPos.mk t.Work.e0 t.Work.e1 (ApiPos.mk (fmV b).1 (fmV c).1 (fmV d).1) t.Work.e3 t.Work.e4 t.Work.e5) t.Lengths) else if (nb - 54 == 3) = true then some (R45Table.mk (Arr6ApiPos.mk t.Work.e0 t.Work.e1 t.Work.e2 (ApiPos.mk (fmV b).1 (fmV c).1 (fmV d).1) t.Work.e4 t.Work.e5) t.Lengths) else if (nb - 54 == 4) = true then some (R45Table.mk (Arr6ApiPos.mk t.Work.e0 t.Work.e1 t.Work.e2 t.Work.e3 (ApiPos.mk (fmV b).1 (fmV c).1 (fmV d).1) t.Work.e5) t.Lengths) else some (R45Table.mk (Arr6ApiPos.mk t.Work.e0 t.Work.e1 t.Work.e2 t.Work.e3 t.Work.e4 (ApiPos.mk (fmV b).1 (fmV c).1 (fmV d).1)) t.Lengths))) = some ⟨setW t.Work (nb - 54).toNat ⟨(fmV b).1,(fmV c).1,(fmV d).1⟩,t.Lengths⟩ := by
          have : nb = 54 ∨ nb = 55 ∨ nb = 56 ∨ nb = 57 ∨ nb = 58 ∨ nb = 59 := by omega
          rcases this with rfl | rfl | rfl | rfl | rfl | rfl <;> rfl
        rw [hput,bindO_s]
        exact .go (next_w ho hI hLn hws hnb hc.1 hc.2 ⟨fb2 z1,fc2 z2,fd2 z3⟩ rfl rfl rfl)
    · refine TotX.bind (E := λb2=>b2 = true ↔ ∃ a c,ws = [wordL,a,c]) ?_ (λb2 hb2=>TotX.ite (λhT=>?_) (λhF2=>.ret (isL_no λit hok hw hlt=>?_)))
      · refine Tot.ite (λh3=>?_) (λh3=>.ok ⟨λh=>(by cases h),λ⟨a,c,e⟩=>by rw [e] at h3; simp at h3⟩)
        have h3' : ws.length = 3 := by have : (ws.length : Int) = 3 := by simpa using h3
                                       omega
        obtain ⟨w0,w1,w2,rfl⟩ : ∃ w0 w1 w2,ws = [w0,w1,w2] := by
          match ws,h3' with
          | [a,b,c],_=>exact ⟨a,b,c,rfl⟩
        rw [show gt [w0,w1,w2] 0 = some w0 from rfl,bindO_s]
        refine .ok ⟨λh=>⟨w1,w2,?_⟩,λ⟨a,c,e⟩=>?_⟩
        · rw [show w0 = wordL by simpa [wordL] using h]
        · simp only [List.cons.injEq] at e
          rw [e.1]; rfl
      · obtain ⟨a,c,e⟩ := hb2.1 hT
        subst e
        obtain ⟨nb,hnb,hr⟩ := r45_number_tot a (by have := hmem a (by simp); omega)
        obtain ⟨_,fc,fc2⟩ := fm_both c (by have := hmem c (by simp); omega)
        rw [show gt [wordL,a,c] 2 = some c from rfl,bindO_s,fc,bindO_s]
        refine TotX.ite (λhbad=>.ret (isL_no λit hok hw hlt=>?_)) (λhgood=>?_)
        · rw [hws] at hw
          cases it with
          | w j q=>simp [Itm.words,wlineW] at hw
          | l n v =>
            simp only [Itm.words,llineW,List.cons.injEq,and_true,true_and] at hw
            rw [hw.2,fmV_txt (n := v) (by have := hok.2; omega)] at hbad
            simp at hbad
        · have z : (fmV c).2 = 0 := by simpa using hgood
          rw [okLen_of (by omega),guardO_t,show gt [wordL,a,c] 1 = some a from rfl,bindO_s,hnb,bindO_s,okLen_of (by omega),guardO_t,zG]
          exact .go (next_l ho hI hL hws hnb hr (fc2 z))
      · rw [hws] at hw
        cases it with
        | w j q =>
          rcases hI with ⟨i1,_⟩ | ⟨i1,i2⟩
          · have : b = true := hb1.2 ⟨53,UInt8.ofNat (52 + j),_,_,_,hw,i1⟩
            rw [this] at hF; cases hF
          · have := lastN_pos ho.2 i1
            have hj : j < 6 := hok.1
            have hlt' : last < (j : Int) := hlt
            omega
        | l n v =>
          have : b2 = true := hb2.2 ⟨_,_,hw⟩
          rw [this] at hF2; cases hF2
    · obtain ⟨⟨a1,a2,a3⟩,c1,c2⟩ := ht'
      refine (tail_ok a1 a2 a3 hb).mono (λr hr=>?_)
      obtain ⟨r1,r2⟩ := hr
      refine ⟨⟨λh=>?_,λ⟨it,h1,h2,h3⟩=>?_⟩,λit h1 h2 h3=>by rw [r1]; exact c2 it h1 h2 h3⟩
      · obtain ⟨x,y,z⟩ := r2.1 h
        exact c1 x y z
      · have e := c2 it h1 h2 h3
        obtain ⟨p1,p2,p3⟩ := put_lines hI ho h1 h3
        rw [← e] at p1 p2
        exact r2.2 ⟨p2,by rw [p1]; simp,by rw [p1,List.getLast?_concat,h2]⟩
end Go.Proofs.YtjamgiobipdfhaaGreatDoor
namespace Go.Proofs.YtjamgiobipdfhaaGreatDoor
open Go.RowKit
set_option linter.unusedVariables false
set_option linter.unusedSimpArgs false
theorem idxd_facts (d : UInt8) : ∀ l : List UInt8,(Lib.indexByte l d = -1 ∧ l.takeWhile (· != d) = l ∧ l.dropWhile (· != d) = [] ∧ l.contains d = false) ∨ (∃ o : Nat,Lib.indexByte l d = (o : Int) ∧ o < l.length ∧ l.take o = l.takeWhile (· != d) ∧ l.drop o = l.dropWhile (· != d) ∧ l.contains d = true)
 | []=>.inl ⟨rfl,rfl,rfl,rfl⟩
 | b :: l=>by
  unfold Lib.indexByte
  by_cases hb : b = d
  ·subst hb
   refine .inr ⟨0,?_,by simp,by simp,by simp,by simp⟩
   rw [if_pos (by simp)]; rfl
  ·have hb1 : (b == d) = false := by simpa using hb
   have hb2 : (b != d) = true := by simp [hb]
   have hb3 : (d == b) = false := by simpa using fun e=>hb e.symm
   rw [hb1]
   simp only [zJ,if_false,zV,List.dropWhile_cons,hb2,if_true,List.contains_cons,hb3,zK]
   rcases idxd_facts d l with ⟨h1,h2,h3,h4⟩ | ⟨o,h1,h2,h3,h4,h5⟩
   ·left
    rw [h1,h2]
    exact ⟨rfl,rfl,h3,h4⟩
   ·right
    have hne : ((o : Int) == -1) = false := by simp
    rw [h1,hne]
    refine ⟨o + 1,by simp,by simpa using h2,?_,by simpa using h4,h5⟩
    rw [List.take_succ_cons,h3]
theorem cutd (d : UInt8) (s : List UInt8) (hs : s.length ≤ 1000000) : strings_Cut s [d] = some (s.takeWhile (· != d),(s.dropWhile (· != d)).drop 1,s.contains d) := by
 have hi : stringslite_Index s [d] = some (Lib.indexByte s d) := by
  unfold stringslite_Index
  by_cases he : s = [d]
  ·subst he
   rw [show (((([d] : List UInt8).length : Int) == 0) || (([d] : List UInt8) == [d])) = true by simp,if_pos rfl]
   unfold Lib.indexByte
   rw [if_pos (by simp)]
  ·have : (((([d] : List UInt8).length : Int) == 0) || (([d] : List UInt8) == s)) = false := by
    simp
    exact λe=>he e.symm
   rw [this]
   show bindO (stringslite_IndexByte s (d.toNat : Int)) _ = _
   unfold stringslite_IndexByte
   have hd : ((d.toNat : Int)).toNat.toUInt8 = d := by
    rw [zH]
    exact UInt8.ofNat_toNat
   rw [hd]; rfl
 unfold strings_Cut stringslite_Cut
 rw [hi,bindO_s]
 rcases idxd_facts d s with ⟨h1,h2,h3,h4⟩ | ⟨o,h1,h2,h3,h4,h5⟩
 ·rw [h1,h2,h3,h4]; rfl
 ·rw [h1,h5,← h3,← h4]
  have hw : jD.wrap ((o : Int) + (([d] : List UInt8).length : Int)) = ((o + 1 : Nat) : Int) := by
   simp only [zD,zE]
   rw [wrap_i64 (by omega) (by omega)]; omega
  have hc1 : cutT s (o : Int) = some (s.take o) := by unfold cutT; rw [if_neg (by omega),zH]
  have hc2 : cutF s ((o + 1 : Nat) : Int) = some (s.drop (o + 1)) := by unfold cutF; rw [if_neg (by omega),zH]
  rw [decide_eq_true (show (o : Int) ≥ 0 by omega),if_pos rfl,hc1,bindO_s,hw,hc2,bindO_s,bindO_s,jB]
theorem cont_drop (d : UInt8) (s : List UInt8) : (s.contains d = false ∧ s.dropWhile (· != d) = [] ∧ s.takeWhile (· != d) = s) ∨ (s.contains d = true ∧ ∃ q,s.dropWhile (· != d) = d :: q) := by
 rcases idxd_facts d s with ⟨_,h2,h3,h4⟩ | ⟨o,_,h2,h3,h4,h5⟩
 ·exact .inl ⟨h4,h3,h2⟩
 ·right
  refine ⟨h5,?_⟩
  cases hd : s.dropWhile (· != d) with
  | nil =>
   rw [hd] at h4
   have := congrArg List.length h4
   simp at this; omega
  | cons c r =>
   have hc := List.head?_dropWhile_not (· != d) s
   rw [hd] at hc
   simp at hc
   rw [hc]
   exact ⟨r,rfl⟩
def tbRead (line : List UInt8) (u : TableTable) : Option (Int × TableTable) :=
  bindO (strings_Split line [32]) λ(y2 : (List (List UInt8))) =>
    if (decide ((y2.length : Int) < 3)) = true then
      some (-1,u)
    else
      bindO (cutF y2 2) λ(s1 : (List (List UInt8))) =>
      bindO (tb_lengths s1) λ(y3 : (List Int) × Bool) =>
      if (!y3.2) = true then
        some (-1,u)
      else
        bindO (bindO (gt y2 0) λ(e1 : (List UInt8)) =>
            if (e1 == [119,111,114,107]) = true then
              some ((y3.1.length : Int) == 3)
            else
              some false) λ(v2 : Bool) =>
        if v2 = true then
          bindO (gt y2 1) λ(e2 : (List UInt8)) =>
          bindO (slices_Index_string_string [[71,53,52],[71,53,53],[71,53,54],[71,53,55],[71,53,56],[71,53,57]] e2) λ(y4 : Int) =>
          bindO (gt y3.1 0) λ(e3 : Int) =>
          bindO (gt y3.1 1) λ(e4 : Int) =>
          bindO (gt y3.1 2) λ(e5 : Int) =>
          if ((decide (y4 < 0)) || ((e3 == 0) && ((e4 == 0) && (e5 == 0)))) = true then
            some (-1,u)
          else
            bindO (guardO (decide (0 ≤ y4 ∧ y4 < 6)) (
                if (y4 == 0) = true then
                  some (TableTable.mk (Arr6ApiPos.mk (ApiPos.mk e3 e4 e5) u.Work.e1 u.Work.e2 u.Work.e3 u.Work.e4 u.Work.e5) u.Lengths)
                else
                  if (y4 == 1) = true then
                    some (TableTable.mk (Arr6ApiPos.mk u.Work.e0 (ApiPos.mk e3 e4 e5) u.Work.e2 u.Work.e3 u.Work.e4 u.Work.e5) u.Lengths)
                  else
                    if (y4 == 2) = true then
                      some (TableTable.mk (Arr6ApiPos.mk u.Work.e0 u.Work.e1 (ApiPos.mk e3 e4 e5) u.Work.e3 u.Work.e4 u.Work.e5) u.Lengths)
                    else
                      if (y4 == 3) = true then
                        some (TableTable.mk (Arr6ApiPos.mk u.Work.e0 u.Work.e1 u.Work.e2 (ApiPos.mk e3 e4 e5) u.Work.e4 u.Work.e5) u.Lengths)
                      else
                        if (y4 == 4) = true then
                          some (TableTable.mk (Arr6ApiPos.mk u.Work.e0 u.Work.e1 u.Work.e2 u.Work.e3 (ApiPos.mk e3 e4 e5) u.Work.e5) u.Lengths)
                        else
                          some (TableTable.mk (Arr6ApiPos.mk u.Work.e0 u.Work.e1 u.Work.e2 u.Work.e3 u.Work.e4 (ApiPos.mk e3 e4 e5)) u.Lengths))) λ(v3 : TableTable) =>
            some (y4,v3)
        else
          bindO (bindO (gt y2 0) λ(e6 : (List UInt8)) =>
              if (e6 == [108,101,110,103,116,104]) = true then
                some ((y3.1.length : Int) == 1)
              else
                some false) λ(v4 : Bool) =>
          if v4 = true then
            bindO (gt y2 1) λ(e7 : (List UInt8)) =>
            bindO (strconv_ParseIntE e7 10 64) λ(y5 : Int × Bool) =>
            bindO (gt y3.1 0) λ(e8 : Int) =>
            bindO (if y5.2 = true then
                  bindO (strconv_FormatInt y5.1 10) λ(y6 : (List UInt8)) =>
                  if (y6 == e7) = true then
                    bindO (tb_entry (TableLength.mk y5.1 e8)) λ(y7 : Bool) =>
                    some (!y7)
                  else
                    some true
                else
                  some true) λ(v5 : Bool) =>
            if v5 = true then
              some (-1,u)
            else
              guardO (okLen (u.Lengths.length + 1)) (
              some (jD.wrap (6 + y5.1),TableTable.mk u.Work (u.Lengths ++ [TableLength.mk y5.1 e8])))
          else
            some (-1,u)
theorem range_acc {α β ε : Type} {f : Nat → α → List β → Option (Ex (Ex ε (List β)) (List β))} {d : List β → Option (Ex ε (List β))} (c : α → Bool) (g : α → β) (r : ε) {L : List α} {M : Nat} (hd : ∀ v,d v = some (.go v)) (hf : ∀ i x v,x ∈ L → v.length ≤ M → f i x v = if c x = true then some (.go (v ++ [g x])) else some (.ret (.ret r))) :
  ∀ (l : List α) (i : Nat) (v : List β),(∀ x ∈ l,x ∈ L) → v.length + l.length ≤ M → rangeX f d l i v = some (if l.all c = true then .go (v ++ l.map g) else .ret r)
 | [],i,v,_,_=>by simp [rangeX,hd]
 | x :: l,i,v,hm,hv=>by
  simp only [zD] at hv
  simp only [rangeX,hf i x v (hm x (by simp)) (by omega),List.all_cons]
  by_cases hc : c x = true
  ·have ih := range_acc c g r hd hf l (i + 1) (v ++ [g x]) (λy hy=>hm y (by simp [hy])) (by simp; omega)
   simp only [hc,if_true,ih,Bool.true_and,jC,zO,List.singleton_append]
  ·have hc' : c x = false := by simpa using hc
   simp [hc']
theorem tb_lengths_eq {ws : List (List UInt8)} (hw : ∀ w ∈ ws,w.length ≤ 800) (hl : ws.length ≤ 100000) : tb_lengths ws = some (if ws.all cano = true then (ws.map λw=>(fmV w).1,true) else ([],false)) := by
 unfold tb_lengths
 rw [okIdx_of (by omega),guardO_t,range_acc (L := ws) (M := 100000) cano (λw=>(fmV w).1) ([],false) (λ_=>rfl) (λi x v hx hv=>?_) ws 0 [] (λx h=>h) (by simpa using hl)]
 ·cases ws.all cano <;> rfl
 ·obtain ⟨h1,_,h3⟩ := fm_both x (hw x hx)
  rw [h1,bindO_s]
  unfold cano
  by_cases h0 : (fmV x).2 = 0
  ·have hb := h3 h0
   rw [if_neg (by simp [h0]),dc_Millimetres_eq _ (by omega) (by omega),bindO_s,bindO_s,h0]
   cases ht : (txtV (fmV x).1 == x) with
   | true=>rw [if_neg (by simp),okLen_of (by omega),guardO_t]; rfl
   | false=>rfl
  ·rw [if_pos (by simpa using h0),bindO_s,if_pos rfl]
   have : ((fmV x).2 == 0) = false := by simpa using h0
   rw [this]; rfl
theorem idx_gw (w : List UInt8) : (∃ k,k < 6 ∧ w = gw k ∧ slices_Index_string_string [[71,53,52],[71,53,53],[71,53,54],[71,53,55],[71,53,56],[71,53,57]] w = some (k : Int)) ∨ ((∀ k,k < 6 → w ≠ gw k) ∧ slices_Index_string_string [[71,53,52],[71,53,53],[71,53,54],[71,53,55],[71,53,56],[71,53,57]] w = some (-1)) := by
 by_cases h : ∃ k,k < 6 ∧ w = gw k
 ·obtain ⟨k,hk,rfl⟩ := h
  refine .inl ⟨k,hk,rfl,?_⟩
  have : k = 0 ∨ k = 1 ∨ k = 2 ∨ k = 3 ∨ k = 4 ∨ k = 5 := by omega
  rcases this with rfl | rfl | rfl | rfl | rfl | rfl <;> rfl
 ·have hn : ∀ k,k < 6 → w ≠ gw k := λk hk e=>h ⟨k,hk,e⟩
  refine .inr ⟨hn,?_⟩
  have e0 : (w == [71,53,52]) = false := by
   have h : w ≠ [71,53,52] := hn 0 (by omega)
   simpa using h
  have e1 : (w == [71,53,53]) = false := by
   have h : w ≠ [71,53,53] := hn 1 (by omega)
   simpa using h
  have e2 : (w == [71,53,54]) = false := by
   have h : w ≠ [71,53,54] := hn 2 (by omega)
   simpa using h
  have e3 : (w == [71,53,55]) = false := by
   have h : w ≠ [71,53,55] := hn 3 (by omega)
   simpa using h
  have e4 : (w == [71,53,56]) = false := by
   have h : w ≠ [71,53,56] := hn 4 (by omega)
   simpa using h
  have e5 : (w == [71,53,57]) = false := by
   have h : w ≠ [71,53,57] := hn 5 (by omega)
   simpa using h
  unfold slices_Index_string_string
  simp only [rangeX,e0,e1,e2,e3,e4,e5,zJ,if_false]
  rfl
def isR (t : R45Table) (line : List UInt8) (r : Int × TableTable) : Prop := (∃ it : Itm,it.ok ∧ line = it.line ∧ r = (it.plc,theirsW (it.put t))) ∨ ((∀ it : Itm,it.ok → line ≠ it.line) ∧ r.1 = -1)
theorem isR_no {t : R45Table} {line : List UInt8} {u : TableTable} (h : ∀ it : Itm,it.ok → pcb 32 line = it.words → False) : isR t line (-1,u) := .inr ⟨λit hok e=>h it hok ((line_iff hok).1 e),rfl⟩
theorem cano_fm {w : List UInt8} (h : cano w = true) : (fmV w).2 = 0 ∧ txtV (fmV w).1 = w := by
 unfold cano at h
 simpa using h
theorem tbRead_ok {t : R45Table} {line : List UInt8} (hl : line.length ≤ 700) (hL : t.Lengths.length ≤ 900) : Tot (tbRead line (theirsW t)) (isR t line) := by
 have hTl : (theirsW t).Lengths.length = t.Lengths.length := by simp [theirsW]
 have hmem : ∀ w ∈ pcb 32 line,w.length ≤ 700 := λw hw=>zX (pcb_mem hw) hl
 have hpl := pcb_len 32 line
 unfold tbRead
 rw [show strings_Split line [32] = guardO (decide (line.length ≤ 16777216)) (some (Lib.split line [32])) from rfl,decide_eq_true (by omega),guardO_t,bindO_s,split_pcb]
 obtain ⟨ws,hws⟩ : ∃ ws,pcb 32 line = ws := ⟨_,rfl⟩
 rw [hws] at hmem hpl ⊢
 refine Tot.ite (λh3=>.ok (isR_no λit hok hw=>?_)) (λh3=>?_)
 ·rw [hws] at hw
  subst hw
  cases it <;> simp [Itm.words,wlineW,llineW] at h3
 ·have h3' : 3 ≤ ws.length := by simp at h3; omega
  obtain ⟨w0,w1,r,rfl⟩ : ∃ w0 w1 r,ws = w0 :: w1 :: r := by
   match ws,h3' with
   | a :: b :: r,_=>exact ⟨a,b,r,rfl⟩
  rw [show cutF (w0 :: w1 :: r) 2 = some r from by unfold cutF; rw [if_neg (by simp; omega)]; rfl,bindO_s,tb_lengths_eq (λw hw=>by have := hmem w (by simp [hw]); omega) (by simp at hpl; omega),bindO_s]
  cases hc : r.all cano with
  | false =>
   refine .ok (isR_no λit hok hw=>?_)
   rw [hws] at hw
   cases it with
   | w k p =>
    obtain ⟨_,⟨q1,q2,q3⟩,_⟩ := hok
    simp only [Itm.words,wlineW,List.cons.injEq] at hw
    rw [hw.2.2] at hc
    simp [cano_txt q1,cano_txt q2,cano_txt q3] at hc
   | l n v =>
    simp only [Itm.words,llineW,List.cons.injEq] at hw
    rw [hw.2.2] at hc
    simp [cano_txt (n := v) (by have := hok.2; omega)] at hc
  | true =>
   rw [if_pos rfl]
   have hcr : ∀ w ∈ r,(fmV w).2 = 0 ∧ txtV (fmV w).1 = w := λw hw=>cano_fm (List.all_eq_true.1 hc w hw)
   rw [if_neg (show ¬ ((!true) = true) by decide),show gt (w0 :: w1 :: r) 0 = some w0 from rfl,bindO_s]
   refine Tot.bind (E := λb=>b = true ↔ (w0 = wordW ∧ r.length = 3)) (Tot.ite (λe=>.ok ?_) (λe=>.ok ?_)) (λb hb=>Tot.ite (λhT=>?_) (λhF=>?_))
   ·have : w0 = wordW := by simpa [wordW] using e
    constructor
    ·intro h; exact ⟨this,by simp at h; omega⟩
    ·rintro ⟨_,h⟩; simp; omega
   ·constructor
    ·intro h; cases h
    ·rintro ⟨h,_⟩; rw [h] at e; simp [wordW] at e
   ·obtain ⟨e0,e3⟩ := hb.1 hT
    subst e0
    obtain ⟨x,y,z,rfl⟩ : ∃ x y z,r = [x,y,z] := by
     match r,e3 with
     | [a,b,c],_=>exact ⟨a,b,c,rfl⟩
    have hx := hcr x (by simp)
    have hy := hcr y (by simp)
    have hz := hcr z (by simp)
    have rng : ∀ w ∈ [x,y,z],-10000000 ≤ (fmV w).1 ∧ (fmV w).1 ≤ 10000000 := λw hw=>(fm_both w (by have := hmem w (by simp at hw ⊢; rcases hw with h | h | h <;> simp [h]); omega)).2.2 (hcr w hw).1
    rw [show gt (wordW :: w1 :: [x,y,z]) 1 = some w1 from rfl,bindO_s]
    dsimp only
    rw [show List.map (λw=>(fmV w).1) [x,y,z] = [(fmV x).1,(fmV y).1,(fmV z).1] from rfl]
    rcases idx_gw w1 with ⟨k,hk,e1,hi⟩ | ⟨hno,hi⟩
    ·rw [hi,bindO_s,show gt [(fmV x).1,(fmV y).1,(fmV z).1] 0 = some (fmV x).1 from rfl,bindO_s,show gt [(fmV x).1,(fmV y).1,(fmV z).1] 1 = some (fmV y).1 from rfl,bindO_s,show gt [(fmV x).1,(fmV y).1,(fmV z).1] 2 = some (fmV z).1 from rfl,bindO_s]
     refine Tot.ite (λhbad=>.ok (isR_no λit hok hw=>?_)) (λhgood=>?_)
     ·rw [hws] at hw
      cases it with
      | l n v=>simp [Itm.words,llineW] at hw
      | w j q =>
       obtain ⟨q1,⟨r1,r2,r3⟩,q3⟩ := hok
       simp only [Itm.words,wlineW,List.cons.injEq,and_true,true_and] at hw
       obtain ⟨_,c1,c2,c3⟩ := hw
       rw [c1,c2,c3,fmV_txt r1,fmV_txt r2,fmV_txt r3] at hbad
       have hq : zB q = true := by
        have hk0 : decide ((k : Int) < 0) = false := by simp
        rw [hk0,zK] at hbad
        exact hbad
       rw [hq] at q3; cases q3
     ·have hk0 : decide ((k : Int) < 0) = false := by simp
      rw [hk0,zK] at hgood
      have hput : (guardO (decide (0 ≤ (k : Int) ∧ (k : Int) < 6)) (if ((k : Int) == 0) = true then some (TableTable.mk (Arr6ApiPos.mk (ApiPos.mk (fmV x).1 (fmV y).1 (fmV z).1) (theirsW t).Work.e1 (theirsW t).Work.e2 (theirsW t).Work.e3 (theirsW t).Work.e4 (theirsW t).Work.e5) (theirsW t).Lengths) else if ((k : Int) == 1) = true then some (TableTable.mk (Arr6ApiPos.mk (theirsW t).Work.e0 (ApiPos.mk (fmV x).1 (fmV y).1 (fmV z).1) (theirsW t).Work.e2 (theirsW t).Work.e3 (theirsW t).Work.e4 (theirsW t).Work.e5) (theirsW t).Lengths) else if ((k : Int) == 2) = true then some (TableTable.mk (Arr6ApiPos.mk (theirsW t).Work.e0 (theirsW t).Work.e1 (ApiPos.mk (fmV x).1 (fmV y).1 (fmV z).1) (theirsW t).Work.e3 (theirsW t).Work.e4 (theirsW t).Work.e5) (theirsW t).Lengths) else if ((k : Int) == 3) = true then some (TableTable.mk (Arr6ApiPos.mk (theirsW t).Work.e0 (theirsW t).Work.e1 (theirsW t).Work.e2 (ApiPos.mk (fmV x).1 (fmV y).1 (fmV z).1) (theirsW t).Work.e4 (theirsW t).Work.e5) (theirsW t).Lengths) else if ((k : Int) == 4) = true then some (TableTable.mk (Arr6ApiPos.mk (theirsW t).Work.e0 (theirsW t).Work.e1 (theirsW t).Work.e2 (theirsW t).Work.e3 (ApiPos.mk (fmV x).1 (fmV y).1 (fmV z).1) (theirsW t).Work.e5) (theirsW t).Lengths) else some (TableTable.mk (Arr6ApiPos.mk (theirsW t).Work.e0 (theirsW t).Work.e1 (theirsW t).Work.e2 (theirsW t).Work.e3 (theirsW t).Work.e4 (ApiPos.mk (fmV x).1 (fmV y).1 (fmV z).1)) (theirsW t).Lengths))) = some (theirsW ((Itm.w k ⟨(fmV x).1,(fmV y).1,(fmV z).1⟩).put t)) := by
       have : k = 0 ∨ k = 1 ∨ k = 2 ∨ k = 3 ∨ k = 4 ∨ k = 5 := by omega
       rcases this with rfl | rfl | rfl | rfl | rfl | rfl <;> rfl
      rw [hput,bindO_s]
      have hok : (Itm.w k ⟨(fmV x).1,(fmV y).1,(fmV z).1⟩).ok := ⟨hk,⟨rng x (by simp),rng y (by simp),rng z (by simp)⟩,hgood⟩
      refine .ok (.inl ⟨_,hok,(line_iff hok).2 ?_,rfl⟩)
      rw [hws]
      simp only [Itm.words,wlineW,hx.2,hy.2,hz.2,e1]
    ·rw [hi,bindO_s,show gt [(fmV x).1,(fmV y).1,(fmV z).1] 0 = some (fmV x).1 from rfl,bindO_s,show gt [(fmV x).1,(fmV y).1,(fmV z).1] 1 = some (fmV y).1 from rfl,bindO_s,show gt [(fmV x).1,(fmV y).1,(fmV z).1] 2 = some (fmV z).1 from rfl,bindO_s,if_pos (by simp)]
     refine .ok (isR_no λit hok hw=>?_)
     rw [hws] at hw
     cases it with
     | l n v=>simp [Itm.words,llineW] at hw
     | w j q =>
      simp only [Itm.words,wlineW,List.cons.injEq,and_true,true_and] at hw
      exact hno j hok.1 hw.1
   ·rw [bindO_s]
    refine Tot.bind (E := λb=>b = true ↔ (w0 = wordL ∧ r.length = 1)) (Tot.ite (λe=>.ok ?_) (λe=>.ok ?_)) (λb2 hb2=>Tot.ite (λhT=>?_) (λhF2=>.ok (isR_no λit hok hw=>?_)))
    ·have : w0 = wordL := by simpa [wordL] using e
     constructor
     ·intro h; exact ⟨this,by simp at h; omega⟩
     ·rintro ⟨_,h⟩; simp; omega
    ·constructor
     ·intro h; cases h
     ·rintro ⟨h,_⟩; rw [h] at e; simp [wordL] at e
    ·obtain ⟨e0,e1⟩ := hb2.1 hT
     subst e0
     obtain ⟨x,rfl⟩ : ∃ x,r = [x] := by
      match r,e1 with
      | [a],_=>exact ⟨a,rfl⟩
     have hx := hcr x (by simp)
     obtain ⟨u,hu,hu2⟩ := pie_tot w1 (by have := hmem w1 (by simp); omega)
     rw [show gt (wordL :: w1 :: [x]) 1 = some w1 from rfl,bindO_s,hu,bindO_s]
     dsimp only
     rw [show List.map (λw=>(fmV w).1) [x] = [(fmV x).1] from rfl,show gt [(fmV x).1] 0 = some (fmV x).1 from rfl,bindO_s]
     refine Tot.bind (E := λb=>b = false ↔ (u.2 = true ∧ Lib.itoa u.1 = w1 ∧ (1 ≤ u.1 ∧ u.1 ≤ 999) ∧ 0 ≤ (fmV x).1 ∧ (fmV x).1 ≤ 10000000)) (Tot.ite (λh2=>?_) (λh2=>.ok ⟨λh=>(by cases h),λ⟨h,_⟩=>by rw [h] at h2; cases h2⟩)) (λb3 hb3=>Tot.ite (λhT3=>.ok (isR_no λit hok hw=>?_)) (λhF3=>?_))
     ·obtain ⟨g1,g2⟩ := hu2 h2
      rw [fmtI g1 g2,bindO_s]
      refine Tot.ite (λh4=>?_) (λh4=>.ok ⟨λh=>(by cases h),λ⟨_,h,_⟩=>by rw [h] at h4; simp at h4⟩)
      have h4' : Lib.itoa u.1 = w1 := by simpa using h4
      unfold tb_entry
      rw [bindO_s]
      refine .ok ?_
      dsimp only
      constructor
      ·intro h
       simp only [Bool.not_eq_false',zZ,decide_eq_true_eq] at h
       obtain ⟨a,b,c,d⟩ := h
       exact ⟨h2,h4',⟨a,b⟩,c,d⟩
      ·rintro ⟨_,_,⟨a,b⟩,c,d⟩
       simp [a,b,c,d]
     ·rw [hws] at hw
      cases it with
      | w j q=>simp [Itm.words,wlineW] at hw
      | l n v =>
       simp only [Itm.words,llineW,List.cons.injEq,and_true,true_and] at hw
       obtain ⟨c1,c2⟩ := hw
       obtain ⟨h1,h2⟩ := hok
       rw [c1,pie_dig h1] at hu
       injection hu with hu
       have : b3 = false := hb3.2 ⟨by rw [← hu],by rw [← hu,c1]; exact itoa_dig (by omega),by rw [← hu]; exact h1,by rw [c2,fmV_txt (n := v) (by omega)]; exact h2⟩
       rw [this] at hT3; cases hT3
     ·obtain ⟨g1,g2,g3,g4⟩ := hb3.1 hF3
      rw [hTl,okLen_of (by omega),guardO_t]
      have hok : (Itm.l u.1 (fmV x).1).ok := ⟨g3,g4⟩
      refine .ok (.inl ⟨_,hok,(line_iff hok).2 ?_,?_⟩)
      ·rw [hws]
       rw [itoa_dig (by omega)] at g2
       simp only [Itm.words,llineW,hx.2,g2]
      ·rw [wrap_i64 (by omega) (by omega)]
       simp [Itm.plc,Itm.put,theirsW]
    ·rw [hws] at hw
     cases it with
     | w j q =>
      simp only [Itm.words,wlineW,List.cons.injEq] at hw
      have : b = true := hb.2 ⟨hw.1,by rw [hw.2.2]; rfl⟩
      rw [this] at hF; cases hF
     | l n v =>
      simp only [Itm.words,llineW,List.cons.injEq] at hw
      have : b2 = true := hb2.2 ⟨hw.1,by rw [hw.2.2]; rfl⟩
      rw [this] at hF2; cases hF2
end Go.Proofs.YtjamgiobipdfhaaGreatDoor
namespace Go.Proofs.YtjamgiobipdfhaaGreatDoor
open Go.RowKit
set_option linter.unusedVariables false
set_option linter.unusedSimpArgs false
open Classical in
noncomputable def pick (last : Int) (line : List UInt8) : Option Itm := if h : ∃ it : Itm,it.ok ∧ line = it.line ∧ last < it.plc then some h.choose else none
theorem pick_some {last : Int} {line : List UInt8} {it : Itm} (h1 : it.ok) (h2 : line = it.line) (h3 : last < it.plc) : pick last line = some it := by
 have h : ∃ it : Itm,it.ok ∧ line = it.line ∧ last < it.plc := ⟨it,h1,h2,h3⟩
 unfold pick
 rw [dif_pos h]
 congr 1
 exact line_inj h.choose_spec.1 h1 (by rw [← h.choose_spec.2.1,h2])
theorem pick_none {last : Int} {line : List UInt8} (h : ∀ it : Itm,it.ok → line = it.line → ¬ last < it.plc) : pick last line = none := by
 unfold pick
 rw [dif_neg]
 rintro ⟨it,h1,h2,h3⟩
 exact h it h1 h2 h3
theorem pick_facts {last : Int} {line : List UInt8} {it : Itm} (h : pick last line = some it) : it.ok ∧ line = it.line ∧ last < it.plc := by
 unfold pick at h
 split at h
 ·rename_i hx
  injection h with h
  subst h
  exact hx.choose_spec
 ·cases h
noncomputable def runL : List (List UInt8) → Int → Int → R45Table → R45Table × Int × Int
 | [],_,n,t=>(t,0,0)
 | [p],_,n,t=>if p = [] then (t,0,0) else (zeroT,n,2)
 | p :: q :: r,last,n,t=>match pick last p with
  | some it=>runL (q :: r) it.plc (n + 1) (it.put t)
  | none=>(zeroT,n,2)
theorem runL_step {p : List UInt8} {ps : List (List UInt8)} (hp : ps ≠ []) (last n : Int) (t : R45Table) : runL (p :: ps) last n t = match pick last p with | some it=>runL ps it.plc (n + 1) (it.put t) | none=>(zeroT,n,2) := by
 cases ps with
 | nil=>exact absurd rfl hp
 | cons q r=>rfl
theorem inv_ge {last : Int} {t : R45Table} (ho : okT t) (h : Inv last t) : -1 ≤ last := by
 rcases h with ⟨_,h,_⟩ | ⟨h1,h2⟩
 ·exact h
 ·have := lastN_pos ho.2 h1; omega
theorem put_len (it : Itm) (t : R45Table) : (it.put t).Lengths.length ≤ t.Lengths.length + 1 := by
 cases it <;> simp [Itm.put]
theorem tw_free : ∀ (s : List UInt8),∀ c ∈ s.takeWhile (· != 10),c ≠ 10
 | [],c,h=>by simp at h
 | d :: s,c,h=>by
  rw [zV] at h
  split at h
  ·rename_i hd
   rcases List.mem_cons.1 h with rfl | h
   ·simpa using hd
   ·exact tw_free s c h
  ·simp at h
theorem cut_piece {s : List UInt8} (h : s.contains 10 = true) : ∃ p r,s.takeWhile (· != 10) = p ∧ (s.dropWhile (· != 10)).drop 1 = r ∧ s = p ++ 10 :: r ∧ ∀ c ∈ p,c ≠ 10 := by
 rcases cont_drop 10 s with ⟨h1,_⟩ | ⟨_,q,hq⟩
 ·rw [h] at h1; cases h1
 ·refine ⟨_,_,rfl,rfl,?_,tw_free s⟩
  rw [hq,List.drop_one,List.tail_cons,← hq,List.takeWhile_append_dropWhile]
theorem no_piece {s : List UInt8} (h : s.contains 10 = false) : ∀ c ∈ s,c ≠ 10 := by
 intro c hc e
 subst e
 rw [List.contains_iff_mem.2 hc] at h; cases h
theorem tb_Parse_eq {s : List UInt8} (hl : s.length ≤ 20000) (hP : ∀ p ∈ pcb 10 s,p.length ≤ 700) (hC : (pcb 10 s).length ≤ 700) : tb_Parse s = some (theirsW (runL (pcb 10 s) (-1) 1 zeroT).1,(runL (pcb 10 s) (-1) 1 zeroT).2.1,(runL (pcb 10 s) (-1) 1 zeroT).2.2) := by
 obtain ⟨RES,hRES⟩ : ∃ RES,runL (pcb 10 s) (-1) 1 zeroT = RES := ⟨_,rfl⟩
 rw [hRES]
 have key : Tot (tb_Parse s) (λe=>e = (theirsW RES.1,RES.2.1,RES.2.2)) := by
  unfold tb_Parse
  refine Tot.ite (λh=>by simp at h; omega) (λ_=>?_)
  refine Tot.bindX (E := λv=>v = theirsW RES.1 ∧ RES.2 = (0,0)) (TotX.of (Tot.loop (λm (v : List UInt8 × Int × Int × TableTable)=>v.1.length = m ∧ m ≤ 20000 ∧ (∀ p ∈ pcb 10 v.1,p.length ≤ 700) ∧ ∃ t : R45Table,v.2.2.2 = theirsW t ∧ okT t ∧ Inv v.2.1 t ∧ runL (pcb 10 v.1) v.2.1 v.2.2.1 t = RES ∧ t.Lengths.length + (pcb 10 v.1).length ≤ 700 ∧ 1 ≤ v.2.2.1 ∧ v.2.2.1 + ((pcb 10 v.1).length : Int) ≤ 701) _ s.length (fuel_gt (by omega)) ⟨rfl,hl,hP,zeroT,rfl,zero_ok.1,zero_ok.2.1,hRES,by simp [zeroT]; omega,by show (1 : Int) ≤ 1; omega,by show (1 : Int) + ((pcb 10 s).length : Int) ≤ 701; omega⟩ (λm v hv=>?_))) (λv hv=>.ok (by rw [hv.1,hv.2]))
  obtain ⟨s,last,n,u⟩ := v
  obtain ⟨h1,h2,hP,t,h3,ho,hI,hR,hb,hn1,hn2⟩ := hv
  dsimp only at h1 h2 hP h3 hI hR hb hn1 hn2 ⊢
  subst h3
  have hge := inv_ge ho hI
  refine TotX.ite (λhne=>?_) (λhe=>.ret ?_)
  ·have hne' : s ≠ [] := by simpa using hne
   rw [cutd 10 s (by omega),bindO_s]
   dsimp only
   cases hc : s.contains 10 with
   | false =>
    have hp := pcb_one (no_piece hc)
    rw [hp] at hR
    have hR' : RES = (zeroT,n,2) := by rw [← hR]; simp [runL,hne']
    rw [if_neg (by simp),bindO_s]
    refine TotX.ite (λ_=>.ret ?_) (λh=>by simp at h; omega)
    rw [hR']; rfl
   | true =>
    obtain ⟨p,r,hp,hr,hs,hf⟩ := cut_piece hc
    rw [hp,hr,if_pos rfl]
    have hlen : s.length = p.length + (r.length + 1) := by rw [hs]; simp
    have hpc : pcb 10 s = p :: pcb 10 r := by rw [hs,pcb_app r hf]
    rw [hpc] at hP hb hn2
    simp only [zD] at hb hn2
    rw [hpc,runL_step (pcb_ne 10 r)] at hR
    refine TotX.bind (E := isR t p) ?_ (λy hy=>?_)
    ·have := tbRead_ok (t := t) (line := p) (hP p (by simp)) (by omega)
     obtain ⟨y,hy,hy2⟩ := this
     refine ⟨y,?_,hy2⟩
     show bindO (tbRead p (theirsW t)) _ = _
     rw [hy]; rfl
    ·rcases hy with ⟨it,hok,hline,rfl⟩ | ⟨hno,hy1⟩
     ·dsimp only
      by_cases hpl : last < it.plc
      ·rw [pick_some hok hline hpl] at hR
       obtain ⟨_,o1,o2⟩ := put_lines hI ho hok hpl
       refine TotX.ite (λh=>absurd (of_decide_eq_true h) (by omega)) (λ_=>.go ?_)
       have := put_len it t
       rw [wrap_i64 (by omega) (by omega)]
       exact ⟨r.length,by omega,rfl,by omega,λq hq=>hP q (by simp [hq]),it.put t,rfl,o1,o2,hR,by dsimp only; omega,by dsimp only; omega,by dsimp only; omega⟩
      ·have hpk : pick last p = none := pick_none (λit' h1 h2 h3=>by
        have e := line_inj hok h1 (by rw [← hline,h2])
        subst e; exact hpl h3)
       rw [hpk] at hR
       refine TotX.ite (λ_=>.ret ?_) (λh=>absurd (of_decide_eq_false h) (by omega))
       rw [← hR]; rfl
     ·have hpk : pick last p = none := pick_none (λit' h1 h2 _=>hno it' h1 h2)
      rw [hpk] at hR
      refine TotX.ite (λ_=>.ret ?_) (λh=>absurd (of_decide_eq_false h) (by omega))
      rw [← hR]; rfl
  ·have hs : s = [] := by simpa using he
   subst hs
   have hR' : RES = (t,0,0) := by rw [← hR]; simp [runL,pcb]
   rw [hR']
   exact ⟨rfl,rfl⟩
 obtain ⟨e,he,rfl⟩ := key
 exact he
theorem r45_Parse_eq {s : List UInt8} (hl : s.length ≤ 600) : r45_Parse s = some (runL (pcb 10 s) (-1) 1 zeroT) := by
 obtain ⟨RES,hRES⟩ : ∃ RES,runL (pcb 10 s) (-1) 1 zeroT = RES := ⟨_,rfl⟩
 rw [hRES]
 have key : Tot (r45_Parse s) (λe=>e = RES) := by
  unfold r45_Parse
  refine Tot.ite (λh=>by simp at h; omega) (λ_=>?_)
  refine Tot.bindX (E := λ(v : Int × Int × R45Table)=>∃ (a : Nat) (last : Int),v.1 = (a : Int) ∧ a ≤ s.length ∧ (∀ c ∈ s.drop a,c ≠ 10) ∧ runL (pcb 10 (s.drop a)) last v.2.1 v.2.2 = RES) (TotX.guard (okIdx_of (by omega)) (TotX.of (Tot.range (λi (v : Int × Int × R45Table)=>∃ (a : Nat) (last : Int),v.1 = (a : Int) ∧ a ≤ i ∧ i ≤ s.length ∧ (∀ c ∈ (s.drop a).take (i - a),c ≠ 10) ∧ okT v.2.2 ∧ Inv last v.2.2 ∧ runL (pcb 10 (s.drop a)) last v.2.1 v.2.2 = RES ∧ v.2.2.Lengths.length ≤ i ∧ 1 ≤ v.2.1 ∧ v.2.1 ≤ 1 + i) _ ⟨0,-1,rfl,zM _,zY _,by simp,zero_ok.1,zero_ok.2.1,by rw [List.drop_zero]; exact hRES,by simp,by show (1 : Int) ≤ 1; omega,by show (1 : Int) ≤ 1 + ((0 : Nat) : Int); omega⟩ (λi c v hc hv=>?_) (λv hv=>.ok ?_)))) (λv hv=>?_)
  ·obtain ⟨x,n,t⟩ := v
   obtain ⟨a,last,h1,h2,h3,hf,ho,hI,hR,hb,hn1,hn2⟩ := hv
   dsimp only at h1 ho hI hR hb hn1 hn2 ⊢
   subst h1
   have hlt := getElem_lt hc
   have hsplit : s.drop a = (s.drop a).take (i - a) ++ c :: s.drop (i + 1) := by
    have e1 : s.drop i = c :: s.drop (i + 1) := by
     rw [zQ hlt]
     rw [List.getElem?_eq_getElem hlt] at hc
     injection hc with hc; rw [hc]
    conv=>lhs; rw [← List.take_append_drop (i - a) (s.drop a)]
    rw [jB,show a + (i - a) = i by omega,e1]
   refine TotX.bindX (E := λ(v2 : Int × Int × R45Table)=>∃ (a : Nat) (last : Int),v2.1 = (a : Int) ∧ a ≤ i + 1 ∧ i + 1 ≤ s.length ∧ (∀ c ∈ (s.drop a).take (i + 1 - a),c ≠ 10) ∧ okT v2.2.2 ∧ Inv last v2.2.2 ∧ runL (pcb 10 (s.drop a)) last v2.2.1 v2.2.2 = RES ∧ v2.2.2.Lengths.length ≤ i + 1 ∧ 1 ≤ v2.2.1 ∧ v2.2.1 ≤ 1 + ((i + 1 : Nat) : Int)) (TotX.ite (λhc10=>.go ?_) (λhc10=>?_)) (λv2 hv2=>.go hv2)
   ·have hcne : c ≠ 10 := by rintro rfl; simp at hc10
    refine ⟨a,last,rfl,by omega,by omega,?_,ho,hI,hR,by dsimp only; omega,hn1,by dsimp only; omega⟩
    intro d hd
    rw [hsplit,show i + 1 - a = ((s.drop a).take (i - a)).length + 1 by simp; omega,List.take_append] at hd
    simp only [jA] at hd
    rcases hd with hd | hd
    ·exact hf d (List.mem_of_mem_take hd)
    ·have : d = c := by simpa using hd
     subst this; exact hcne
   ·have hc10' : c = 10 := by
     have : (c.toNat : Int) = 10 := by simpa using hc10
     exact UInt8.toNat_inj.1 (by show c.toNat = 10; omega)
    subst hc10'
    have hcut : cutL s (a : Int) (i : Int) = some ((s.drop a).take (i - a)) := by
     unfold cutL
     rw [if_neg (by omega)]
     simp
    rw [hsplit,pcb_app _ hf,runL_step (pcb_ne 10 _)] at hR
    rw [hcut,bindO_s]
    have hll : ((s.drop a).take (i - a)).length ≤ 700 := by simp; omega
    refine TotX.bind (r45_read_ok (last := last) hll ho hI (by omega)) (λy hy=>?_)
    obtain ⟨g1,g2⟩ := hy
    refine TotX.ite (λhno=>.ret ?_) (λhyes=>.go ?_)
    ·have hpk : pick last ((s.drop a).take (i - a)) = none := pick_none (λit k1 k2 k3=>by
      have := g1.2 ⟨it,k1,k2,k3⟩
      rw [this] at hno; cases hno)
     rw [hpk] at hR
     show (_ : R45Table × Int × Int) = RES
     rw [← hR]; rfl
    ·obtain ⟨it,k1,k2,k3⟩ := g1.1 (by simpa using hyes)
     have e := g2 it k1 k2 k3
     rw [pick_some k1 k2 k3] at hR
     obtain ⟨_,o1,o2⟩ := put_lines hI ho k1 k3
     have := put_len it t
     refine ⟨i + 1,it.plc,?_,zM _,by omega,by simp,?_,?_,?_,?_,?_,?_⟩
     ·show jD.wrap ((i : Int) + 1) = _
      rw [wrap_i64 (by omega) (by omega)]; omega
     ·show okT y.1
      rw [e]; exact o1
     ·show Inv it.plc y.1
      rw [e]; exact o2
     ·show runL (pcb 10 (s.drop (i + 1))) it.plc (jD.wrap (n + 1)) y.1 = RES
      rw [wrap_i64 (by omega) (by omega),e]; exact hR
     ·show y.1.Lengths.length ≤ i + 1
      rw [e]; omega
     ·show 1 ≤ jD.wrap (n + 1)
      rw [wrap_i64 (by omega) (by omega)]; omega
     ·show jD.wrap (n + 1) ≤ _
      rw [wrap_i64 (by omega) (by omega)]; omega
  ·obtain ⟨a,last,h1,h2,h3,hf,ho,hI,hR,_⟩ := hv
   refine ⟨a,last,h1,h2,?_,hR⟩
   intro d hd
   exact hf d (by rw [List.take_of_length_le (by simp)]; exact hd)
  ·obtain ⟨a,last,h1,h2,hf,hR⟩ := hv
   rw [pcb_one hf] at hR
   rw [h1]
   refine Tot.ite (λhlt=>.ok ?_) (λhge=>.ok ?_)
   ·have hlt' : a < s.length := by simpa using hlt
    have hne : s.drop a ≠ [] := by
     intro e
     have := congrArg List.length e
     simp at this; omega
    rw [← hR]
    simp only [runL,hne,if_false]
    rfl
   ·have he : s.drop a = [] := List.drop_eq_nil_of_le (by simp at hge; omega)
    rw [← hR,he]
    simp [runL]
 obtain ⟨e,he,rfl⟩ := key
 exact he
end Go.Proofs.YtjamgiobipdfhaaGreatDoor
namespace Go.Proofs.YtjamgiobipdfhaaGreatDoor
open Go.RowKit
set_option linter.unusedVariables false
set_option linter.unusedSimpArgs false
theorem run_text : ∀ (ps : List (List UInt8)) (last n : Int) (t : R45Table),ps ≠ [] → okT t → Inv last t → (runL ps last n t).1.Lengths.length ≤ t.Lengths.length + ps.length ∧ ((runL ps last n t).2.2 = 0 → okT (runL ps last n t).1 ∧ textL (linesT (runL ps last n t).1) = textL (linesT t) ++ jnb 10 ps)
 | [],_,_,_,h,_,_=>absurd rfl h
 | [p],last,n,t,_,ho,_=>by
  simp only [runL]
  by_cases hp : p = []
  ·rw [if_pos hp]
   exact ⟨by simp,λ_=>⟨ho,by rw [hp]; simp [jnb]⟩⟩
  ·rw [if_neg hp]
   exact ⟨by simp [zeroT],λh=>by cases h⟩
 | p :: q :: r,last,n,t,_,ho,hI=>by
  rw [runL_step (by simp)]
  cases hk : pick last p with
  | none=>exact ⟨by simp [zeroT],λh=>by cases h⟩
  | some it =>
   obtain ⟨h1,h2,h3⟩ := pick_facts hk
   obtain ⟨o0,o1,o2⟩ := put_lines hI ho h1 h3
   have ih := run_text (q :: r) it.plc (n + 1) (it.put t) (by simp) o1 o2
   have hl := put_len it t
   refine ⟨?_,λh0=>?_⟩
   ·have := ih.1
    dsimp only
    simp only [zD] at this ⊢
    omega
   ·obtain ⟨a,b⟩ := ih.2 h0
    refine ⟨a,?_⟩
    dsimp only at b ⊢
    rw [b,o0,textL_app,← h2]
    show textL (linesT t) ++ textL [p] ++ jnb 10 (q :: r) = textL (linesT t) ++ (p ++ 10 :: jnb 10 (q :: r))
    simp [textL]
end Go.Proofs.YtjamgiobipdfhaaGreatDoor
