/-
  Za, Zb, Zc in one text.
-/
import Derived.Test.YthljcnchaopncaaGreatDoorJl
import Derived.Test.YthljcnchaopncaaGreatDoorUa
import Derived.Test.YthljcnchaopncaaGreatDoorMK
import Derived.Lib.ParseIntBTie
namespace Go.Proofs.YthljcnchaopncaaGreatDoor
open Go.RowKit
set_option linter.unusedVariables false
set_option linter.unusedSimpArgs false
theorem idxd_facts (d : UInt8) : ∀ l : List UInt8,(Lib.indexByte l d = -1 ∧ l.takeWhile (· != d) = l ∧ l.dropWhile (· != d) = [] ∧ l.contains d = false) ∨ (∃ o : Nat,Lib.indexByte l d = (o : Int) ∧ o < l.length ∧ l.take o = l.takeWhile (· != d) ∧ l.drop o = l.dropWhile (· != d) ∧ l.contains d = true)
 | []=>.inl ⟨rfl,rfl,rfl,rfl⟩
 | b :: l=>by
  unfold Lib.indexByte
  by_cases hb : b = d
  ·subst hb
   refine .inr ⟨0,?_,by simp,by simp,by simp,by simp⟩
   rw [if_pos (by simp)]; rfl
  ·have hb1 : (b == d) = false := by simpa using hb
   have hb2 : (b != d) = true := by simp [hb]
   have hb3 : (d == b) = false := by simpa using fun e=>hb e.symm
   rw [hb1]
   simp only [Bool.false_eq_true,if_false,List.takeWhile_cons,List.dropWhile_cons,hb2,if_true,List.contains_cons,hb3,Bool.false_or]
   rcases idxd_facts d l with ⟨h1,h2,h3,h4⟩ | ⟨o,h1,h2,h3,h4,h5⟩
   ·left
    rw [h1,h2]
    exact ⟨rfl,rfl,h3,h4⟩
   ·right
    have hne : ((o : Int) == -1) = false := by simp
    rw [h1,hne]
    refine ⟨o + 1,by simp,by simpa using h2,?_,by simpa using h4,h5⟩
    rw [List.take_succ_cons,h3]
theorem cutd (d : UInt8) (s : List UInt8) (hs : s.length ≤ 1000000) : strings_Cut s [d] = some (s.takeWhile (· != d),(s.dropWhile (· != d)).drop 1,s.contains d) := by
 have hi : stringslite_Index s [d] = some (Lib.indexByte s d) := by
  unfold stringslite_Index
  by_cases he : s = [d]
  ·subst he
   rw [show (((([d] : List UInt8).length : Int) == 0) || (([d] : List UInt8) == [d])) = true by simp,if_pos rfl]
   unfold Lib.indexByte
   rw [if_pos (by simp)]
  ·have : (((([d] : List UInt8).length : Int) == 0) || (([d] : List UInt8) == s)) = false := by
    simp
    exact fun e=>he e.symm
   rw [this]
   show bindO (stringslite_IndexByte s (d.toNat : Int)) _ = _
   unfold stringslite_IndexByte
   have hd : ((d.toNat : Int)).toNat.toUInt8 = d := by
    rw [Int.toNat_natCast]
    exact UInt8.ofNat_toNat
   rw [hd]; rfl
 unfold strings_Cut stringslite_Cut
 rw [hi,bindO_s]
 rcases idxd_facts d s with ⟨h1,h2,h3,h4⟩ | ⟨o,h1,h2,h3,h4,h5⟩
 ·rw [h1,h2,h3,h4]; rfl
 ·rw [h1,h5,← h3,← h4]
  have hw : IntKind.i64.wrap ((o : Int) + (([d] : List UInt8).length : Int)) = ((o + 1 : Nat) : Int) := by
   simp only [List.length_cons,List.length_nil]
   rw [wrap_i64 (by omega) (by omega)]; omega
  have hc1 : cutT s (o : Int) = some (s.take o) := by unfold cutT; rw [if_neg (by omega),Int.toNat_natCast]
  have hc2 : cutF s ((o + 1 : Nat) : Int) = some (s.drop (o + 1)) := by unfold cutF; rw [if_neg (by omega),Int.toNat_natCast]
  rw [decide_eq_true (show (o : Int) ≥ 0 by omega),if_pos rfl,hc1,bindO_s,hw,hc2,bindO_s,bindO_s,List.drop_drop]
theorem cont_drop (d : UInt8) (s : List UInt8) : (s.contains d = false ∧ s.dropWhile (· != d) = [] ∧ s.takeWhile (· != d) = s) ∨ (s.contains d = true ∧ ∃ q,s.dropWhile (· != d) = d :: q) := by
 rcases idxd_facts d s with ⟨_,h2,h3,h4⟩ | ⟨o,_,h2,h3,h4,h5⟩
 ·exact .inl ⟨h4,h3,h2⟩
 ·right
  refine ⟨h5,?_⟩
  cases hd : s.dropWhile (· != d) with
  | nil =>
   rw [hd] at h4
   have := congrArg List.length h4
   simp at this; omega
  | cons c r =>
   have hc := List.head?_dropWhile_not (· != d) s
   rw [hd] at hc
   simp at hc
   rw [hc]
   exact ⟨r,rfl⟩
theorem cutL_one {s : List UInt8} {i : Nat} {c : UInt8} (h : s[i]? = some c) : cutL s (i : Int) ((i + 1 : Nat) : Int) = some [c] := by
 have hlt := getElem_lt h
 unfold cutL
 rw [if_neg (by omega)]
 congr 1
 have : ((i + 1 : Nat) : Int).toNat - (i : Int).toNat = 1 := by omega
 rw [this,Int.toNat_natCast,List.drop_eq_getElem_cons hlt]
 rw [List.getElem?_eq_getElem hlt] at h
 injection h with h
 simp [h]
theorem r27_words_eq (s : List UInt8) (hl : s.length ≤ 100000) : r27_words s = some (pcb 32 s) := by
 have key : Tot (r27_words s) (fun ws=>ws = pcb 32 s) := by
  unfold r27_words
  refine Tot.bind (E := fun v=>v.2 = pcb 32 s) (Tot.guard (okIdx_of (by omega)) (Tot.range (fun i v=>v.2 = pcb 32 (s.take i)) _ rfl (fun i c v hc hv=>?_) (fun v hv=>.ok (by simpa using hv)))) (fun v hv=>.ok hv)
  have hlt := getElem_lt hc
  have ht : s.take (i + 1) = s.take i ++ [c] := by rw [List.take_add_one,hc]; rfl
  have hpl := pcb_len 32 (s.take i)
  have hpl2 : (s.take i).length ≤ i := by simp; omega
  have hi1 : IntKind.i64.wrap ((i : Int) + 1) = ((i + 1 : Nat) : Int) := by rw [wrap_i64 (by omega) (by omega)]; omega
  rw [hi1,cutL_one hc,bindO_s]
  refine TotX.bind (E := fun u=>u.2 = pcb 32 (s.take (i + 1))) (Tot.ite (fun q=>?_) (fun q=>?_)) (fun u hu=>.go hu)
  ·have hc32 : c = 32 := by simpa using q
   rw [hv]
   refine Tot.guard (okLen_of (by omega)) (.ok ?_)
   subst hc32
   rw [ht,pcb_snoc_sep]
  ·have hc32 : c ≠ 32 := by rintro rfl; simp at q
   obtain ⟨ps,p,e1,e2⟩ := pcb_snoc hc32 (s.take i)
   rw [hv,e1,ht,e2]
   have hlen : ((ps ++ [p]).length : Int) = ((ps.length : Nat) : Int) + 1 := by simp
   have hps : ps.length ≤ 100000 := by
    have := hpl; rw [e1] at this; simp at this; omega
   have hidx : IntKind.i64.wrap (((ps ++ [p]).length : Int) - 1) = (ps.length : Int) := by rw [wrap_i64 (by omega) (by omega)]; omega
   have hg : (ps ++ [p])[ps.length]? = some p := by simp
   have hp : p.length ≤ 100000 := by
    have := pcb_mem (z := 32) (s := s.take i) (p := p) (by rw [e1]; simp)
    omega
   rw [hidx,gt_k hg,bindO_s,okStr_of (by simp; omega),guardO_t,bindO_s]
   refine .ok ?_
   simp
 obtain ⟨e,he,rfl⟩ := key
 exact he
theorem tw_free : ∀ (s : List UInt8),∀ c ∈ s.takeWhile (· != 10),c ≠ 10
 | [],c,h=>by simp at h
 | d :: s,c,h=>by
  rw [List.takeWhile_cons] at h
  split at h
  ·rename_i hd
   rcases List.mem_cons.1 h with rfl | h
   ·simpa using hd
   ·exact tw_free s c h
  ·simp at h
theorem cut_piece {s : List UInt8} (h : s.contains 10 = true) : ∃ p r,s.takeWhile (· != 10) = p ∧ (s.dropWhile (· != 10)).drop 1 = r ∧ s = p ++ 10 :: r ∧ ∀ c ∈ p,c ≠ 10 := by
 rcases cont_drop 10 s with ⟨h1,_⟩ | ⟨_,q,hq⟩
 ·rw [h] at h1; cases h1
 ·refine ⟨_,_,rfl,rfl,?_,tw_free s⟩
  rw [hq,List.drop_one,List.tail_cons,← hq,List.takeWhile_append_dropWhile]
theorem no_piece {s : List UInt8} (h : s.contains 10 = false) : ∀ c ∈ s,c ≠ 10 := by
 intro c hc e
 subst e
 rw [List.contains_iff_mem.2 hc] at h; cases h
end Go.Proofs.YthljcnchaopncaaGreatDoor
namespace Go.Proofs.YthljcnchaopncaaGreatDoor
open Go.RowKit
set_option linter.unusedVariables false
set_option linter.unusedSimpArgs false
set_option maxRecDepth 100000
def lenB (n : Int) : Bool := decide (n ≥ 1) && decide (n ≤ 10000000)
def goodT (t : ApiTool) : Bool := decide (1 ≤ t.Number) && (decide (t.Number ≤ 9999) && (decide (1 ≤ t.Kind) && (decide (t.Kind ≤ 4) && (lenB t.Radius && (lenB t.Flute && (lenB t.Holder && (lenB t.Step && (lenB t.Feed && (lenB t.Plunge && (decide (t.Radius ≤ t.Holder) && decide (t.Step ≤ t.Flute)))))))))))
theorem goodT_iff {t : ApiTool} : goodT t = true ↔ (1 ≤ t.Number ∧ t.Number ≤ 9999) ∧ (1 ≤ t.Kind ∧ t.Kind ≤ 4) ∧ (1 ≤ t.Radius ∧ t.Radius ≤ 10000000) ∧ (1 ≤ t.Flute ∧ t.Flute ≤ 10000000) ∧ (1 ≤ t.Holder ∧ t.Holder ≤ 10000000) ∧ (1 ≤ t.Step ∧ t.Step ≤ 10000000) ∧ (1 ≤ t.Feed ∧ t.Feed ≤ 10000000) ∧ (1 ≤ t.Plunge ∧ t.Plunge ≤ 10000000) ∧ t.Radius ≤ t.Holder ∧ t.Step ≤ t.Flute := by
 unfold goodT lenB
 simp only [Bool.and_eq_true,decide_eq_true_eq,ge_iff_le]
 constructor
 ·rintro ⟨a,b,c,d,e,f,g,h,i,j,k,l⟩; exact ⟨⟨a,b⟩,⟨c,d⟩,e,f,g,h,i,j,k,l⟩
 ·rintro ⟨⟨a,b⟩,⟨c,d⟩,e,f,g,h,i,j,k,l⟩; exact ⟨a,b,c,d,e,f,g,h,i,j,k,l⟩
def kindN (k : Int) : List UInt8 := (mget toolKinds k).getD []
theorem kindN_eq (k : Int) : kindN k = if k = 1 then [109,105,108,108] else if k = 2 then [100,114,105,108,108] else if k = 3 then [99,104,97,109,102,101,114] else if k = 4 then [112,114,111,98,101] else [] := by
 unfold kindN toolKinds
 by_cases h1 : k = 1
 ·subst h1; rfl
 by_cases h2 : k = 2
 ·subst h2; rfl
 by_cases h3 : k = 3
 ·subst h3; rfl
 by_cases h4 : k = 4
 ·subst h4; rfl
 simp [mget,h1,h2,h3,h4]
theorem kindN_nil (k : Int) : (kindN k == []) = !(decide (1 ≤ k) && decide (k ≤ 4)) := by
 rw [kindN_eq]
 by_cases h1 : k = 1
 ·subst h1; rfl
 by_cases h2 : k = 2
 ·subst h2; rfl
 by_cases h3 : k = 3
 ·subst h3; rfl
 by_cases h4 : k = 4
 ·subst h4; rfl
 rw [if_neg h1,if_neg h2,if_neg h3,if_neg h4]
 by_cases h5 : 1 ≤ k
 ·rw [decide_eq_false (show ¬ k ≤ 4 by omega)]; simp
 ·rw [decide_eq_false h5]; simp
theorem r27_KindName_eq (k : Int) : r27_KindName k = some (kindN k) := by
 unfold r27_KindName
 rw [kindN_eq]
 by_cases h1 : k = 1
 ·subst h1; rfl
 by_cases h2 : k = 2
 ·subst h2; rfl
 by_cases h3 : k = 3
 ·subst h3; rfl
 by_cases h4 : k = 4
 ·subst h4; rfl
 simp [h1,h2,h3,h4]
theorem to_KindName_eq (k : Int) : to_KindName k = some (kindN k) := rfl
theorem to_Valid_eq (t : ApiTool) : to_Valid t = some (if goodT t = true then 0 else 1) := by
 obtain ⟨n,k,r,f,h,s,d,p⟩ := t
 unfold to_Valid to_length goodT
 simp only [to_KindName_eq,bindO_s,kindN_nil,lenB]
 by_cases g1 : n < 1
 ·rw [decide_eq_true g1,decide_eq_false (show ¬ 1 ≤ n by omega)]; rfl
 rw [decide_eq_false g1,decide_eq_true (show 1 ≤ n by omega)]
 by_cases g2 : n > 9999
 ·rw [decide_eq_true g2,decide_eq_false (show ¬ n ≤ 9999 by omega)]; rfl
 rw [decide_eq_false g2,decide_eq_true (show n ≤ 9999 by omega)]
 simp only [Bool.false_eq_true,if_false,bindO_s,Bool.true_and]
 cases decide (1 ≤ k) with
 | false=>rfl
 | true =>
 cases decide (k ≤ 4) with
 | false=>rfl
 | true =>
 simp only [Bool.and_self,Bool.not_true,Bool.false_eq_true,if_false,Bool.true_and]
 cases decide (r ≥ 1) && decide (r ≤ 10000000) with
 | false=>rfl
 | true =>
 cases decide (f ≥ 1) && decide (f ≤ 10000000) with
 | false=>rfl
 | true =>
 cases decide (h ≥ 1) && decide (h ≤ 10000000) with
 | false=>rfl
 | true =>
 cases decide (s ≥ 1) && decide (s ≤ 10000000) with
 | false=>rfl
 | true =>
 cases decide (d ≥ 1) && decide (d ≤ 10000000) with
 | false=>rfl
 | true =>
 cases decide (p ≥ 1) && decide (p ≤ 10000000) with
 | false=>rfl
 | true =>
 by_cases g3 : h < r
 ·rw [decide_eq_true g3,decide_eq_false (show ¬ r ≤ h by omega)]; rfl
 rw [decide_eq_false g3,decide_eq_true (show r ≤ h by omega)]
 by_cases g4 : s > f
 ·rw [decide_eq_true g4,decide_eq_false (show ¬ s ≤ f by omega)]; rfl
 rw [decide_eq_false g4,decide_eq_true (show s ≤ f by omega)]; rfl
theorem r27_Good_eq (t : ApiTool) : r27_Good t = some (goodT t) := by
 have key : Tot (r27_Good t) (fun b=>b = true ↔ goodT t = true) := by
  unfold r27_Good r27_length
  refine Tot.bind (E := fun b=>b = true ↔ goodT t = true) ?_ (fun b hb=>.ok hb)
  rw [goodT_iff]
  simp only [bindO_s]
  repeat' refine Tot.ite (fun _=>?_) (fun _=>?_)
  all_goals
   simp only [Bool.and_eq_true,Bool.and_eq_false_iff,decide_eq_true_eq,decide_eq_false_iff_not] at *
   refine .ok ?_
   simp only [decide_eq_true_eq,Bool.false_eq_true,false_iff]
   omega
 obtain ⟨b,hb,h⟩ := key
 rw [hb]
 congr 1
 cases b <;> cases hg : goodT t <;> simp_all
set_option maxHeartbeats 4000000 in
theorem awake27 : l27_awake = some true := by kernel_rfl
end Go.Proofs.YthljcnchaopncaaGreatDoor
namespace Go.Proofs.YthljcnchaopncaaGreatDoor
open Go.RowKit
set_option linter.unusedVariables false
set_option linter.unusedSimpArgs false
set_option maxRecDepth 100000
theorem few_cases (l : List ApiTool) : l27_few l = some false ∨ (l27_few l = some true ∧ l.length ≤ 205) := by
 unfold l27_few
 by_cases h : l.length ≤ 205
 ·cases hb : ((decide ((l.length : Int) ≤ 12)) || ((decide ((l.length : Int) ≥ 195)) && (decide ((l.length : Int) ≤ 205)))) with
  | true=>exact .inr ⟨rfl,h⟩
  | false=>exact .inl rfl
 ·left
  rw [decide_eq_false (show ¬ (l.length : Int) ≤ 12 by omega),decide_eq_false (show ¬ (l.length : Int) ≤ 205 by omega)]
  simp
def fJ (n : Int) : List ApiTool → Nat → Option Nat
 | [],_=>none
 | t :: l,i=>if (t.Number == n) = true then some i else fJ n l (i + 1)
def fV : Option Nat → Int × Int
 | some k=>((k : Int),0)
 | none=>(0,4)
def fT (l : List ApiTool) (n : Int) : Int × Int := fV (fJ n l 0)
theorem find_loop {ε : Type} (g : Int → ε) (n : Int) : ∀ (l : List ApiTool) (i : Nat),rangeX (fun (i1 : Nat) (e1 : ApiTool) (_ : Unit)=>if (e1.Number == n) = true then some (Ex.ret (Ex.ret (g (i1 : Int)))) else some (Ex.go ())) (fun _=>some (Ex.go ())) l i () = some (match fJ n l i with | some k=>Ex.ret (g (k : Int)) | none=>Ex.go ())
 | [],i=>rfl
 | t :: l,i=>by
  simp only [rangeX,fJ]
  cases h : t.Number == n with
  | true=>rfl
  | false =>
   simp only [Bool.false_eq_true,if_false]
   exact find_loop g n l (i + 1)
theorem r27_Find_eq (l : List ApiTool) (n : Int) (hl : l.length ≤ 9223372036854775807) : r27_Find l n = some (fT l n) := by
 unfold r27_Find fT
 rw [okIdx_of hl,guardO_t]
 have := find_loop (fun k=>(k,(0 : Int))) n l 0
 rw [this]
 cases fJ n l 0 <;> rfl
theorem to_Find_eq (l : List ApiTool) (n : Int) (hl : l.length ≤ 9223372036854775807) : to_Find l n = some (fT l n) := by
 unfold to_Find fT
 rw [okIdx_of hl,guardO_t]
 have := find_loop (fun k=>k) n l 0
 simp only [bindO_s]
 rw [this]
 cases h : fJ n l 0 with
 | none=>rfl
 | some k =>
  show (if (decide (((k : Nat) : Int) < 0)) = true then some ((0 : Int),(4 : Int)) else some (((k : Nat) : Int),0)) = _
  rw [decide_eq_false (by omega)]; rfl
theorem tool_beq (a b : ApiTool) : ((a.Number == b.Number) && ((a.Kind == b.Kind) && ((a.Radius == b.Radius) && ((a.Flute == b.Flute) && ((a.Holder == b.Holder) && ((a.Step == b.Step) && ((a.Feed == b.Feed) && (a.Plunge == b.Plunge)))))))) = decide (a = b) := by
 obtain ⟨a1,a2,a3,a4,a5,a6,a7,a8⟩ := a
 obtain ⟨b1,b2,b3,b4,b5,b6,b7,b8⟩ := b
 rw [Bool.eq_iff_iff]
 simp [ApiTool.mk.injEq]
theorem r27_Equal_eq (a b : List ApiTool) (ha : a.length ≤ 1000000) : r27_Equal a b = some (decide (a = b)) := by
 have key : Tot (r27_Equal a b) (fun r=>r = decide (a = b)) := by
  unfold r27_Equal
  refine Tot.ite (fun q=>.ok ?_) (fun q=>?_)
  ·rw [decide_eq_false (fun e=>by subst e; simp at q)]
  ·have hl : a.length = b.length := by
    have : (a.length : Int) = (b.length : Int) := by simpa using q
    omega
   refine Tot.bindX (E := fun _=>a = b) (TotX.guard (okIdx_of (by omega)) (TotX.of (Tot.range (fun i (_ : Unit)=>∀ j,j < i → a[j]? = b[j]?) _ (fun j h=>by omega) (fun i x v hx hv=>?_) (fun v hv=>.ok ?_)))) (fun _ h=>.ok (by simp [h]))
   ·have hlt := getElem_lt hx
    have hy : b[i]? = some b[i] := List.getElem?_eq_getElem (by omega)
    rw [gt_k hy,bindO_s,tool_beq]
    refine TotX.ite (fun q=>.ret ?_) (fun q=>.go ?_)
    ·have hne : x ≠ b[i] := by simpa using q
     show false = decide (a = b)
     rw [decide_eq_false (fun e=>hne (by subst e; rw [hy] at hx; injection hx with hx; exact hx.symm))]
    ·have he : x = b[i] := by simpa using q
     intro j hj
     by_cases h : j = i
     ·subst h; rw [hx,hy,he]
     ·exact hv j (by omega)
   ·show a = b
    apply List.ext_getElem?
    intro j
    rcases Nat.lt_or_ge j a.length with h | h
    ·exact hv j h
    ·rw [List.getElem?_eq_none h,List.getElem?_eq_none (by omega)]
 obtain ⟨e,he,rfl⟩ := key
 exact he
theorem to_Equal_eq (a b : List ApiTool) (ha : a.length ≤ 1000000) : to_Equal a b = some (decide (a = b)) := by
 have h : slices_Equal_api_Tool_api_Tool a b = some (decide (a = b)) := r27_Equal_eq a b ha
 unfold to_Equal
 rw [h,bindO_s]
end Go.Proofs.YthljcnchaopncaaGreatDoor
