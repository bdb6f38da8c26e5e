import Derived.Test.YtejknolljjpodaaGreatDoorBv
import Derived.Test.YtejknolljjpodaaGreatDoorME
import Derived.Lib.IndexLaws
namespace Go.Proofs.YtejknolljjpodaaGreatDoor
open Go.RowKit
set_option linter.unusedVariables false
set_option linter.unusedSimpArgs false
def isD (c : UInt8) : Bool := decide (48 ≤ c.toNat) && decide (c.toNat ≤ 57)
def dv (c : UInt8) : Nat := c.toNat - 48
def numA (a : Nat) (l : List UInt8) : Nat := l.foldl (fun a c => 10 * a + dv c) a
def num (l : List UInt8) : Nat := numA 0 l
theorem isD_iff {c : UInt8} : isD c = true ↔ 48 ≤ c.toNat ∧ c.toNat ≤ 57 := by simp [isD]
theorem numA_cons (a : Nat) (c : UInt8) (l : List UInt8) : numA a (c :: l) = numA (10 * a + dv c) l := by unfold numA; rw [List.foldl_cons]
theorem numA_append (a : Nat) (l m : List UInt8) : numA a (l ++ m) = numA (numA a l) m := by simp [numA, List.foldl_append]
theorem pow10_pos (n : Nat) : 1 ≤ 10 ^ n := Nat.pos_of_ne_zero (by simp)
theorem numA_eq (l : List UInt8) : ∀ a : Nat, numA a l = a * 10 ^ l.length + num l := by
 induction l with
 | nil => intro a; simp [numA, num]
 | cons c l ih =>
  intro a
  show numA (10 * a + dv c) l = a * 10 ^ (l.length + 1) + numA (10 * 0 + dv c) l
  rw [ih (10 * a + dv c), ih (10 * 0 + dv c), Nat.pow_succ, Nat.add_mul, Nat.mul_zero, Nat.zero_add, ← Nat.mul_assoc, Nat.mul_assoc 10 a]
  omega
theorem numA_ge (l : List UInt8) (a : Nat) : a ≤ numA a l := by
 rw [numA_eq]
 have := Nat.le_mul_of_pos_right a (pow10_pos l.length)
 omega
theorem num_snoc (l : List UInt8) (c : UInt8) : num (l ++ [c]) = 10 * num l + dv c := by
 unfold num; rw [numA_append]; rfl
theorem dv_lt {c : UInt8} (h : isD c = true) : dv c < 10 := by
 have := isD_iff.1 h
 unfold dv; omega
theorem num_lt : ∀ (l : List UInt8), l.all isD = true → num l < 10 ^ l.length
 | [], _ => by simp [num, numA]
 | c :: l, h => by
  simp only [List.all_cons, Bool.and_eq_true] at h
  have h1 := num_lt l h.2
  have h2 := dv_lt h.1
  rw [show num (c :: l) = numA (10 * 0 + dv c) l from rfl, numA_eq, List.length_cons, Nat.pow_succ]
  have : (10 * 0 + dv c) * 10 ^ l.length ≤ 9 * 10 ^ l.length := Nat.mul_le_mul_right _ (by omega)
  omega
theorem ofNat_toNat {r : Nat} (h : r < 208) : (UInt8.ofNat (48 + r)).toNat = 48 + r := by
 rw [UInt8.toNat_ofNat']
 omega
theorem dv_of {r : Nat} (h : r < 10) : dv (UInt8.ofNat (48 + r)) = r := by unfold dv; rw [ofNat_toNat (by omega)]; omega
theorem isD_of {r : Nat} (h : r < 10) : isD (UInt8.ofNat (48 + r)) = true := by rw [isD_iff, ofNat_toNat (by omega)]; omega
theorem dd_small {u : Nat} (h : u < 10) : Lib.decDigits u = [UInt8.ofNat (48 + u)] := by rw [Lib.decDigits, dif_pos h]
theorem dd_big {u : Nat} (h : ¬ u < 10) : Lib.decDigits u = Lib.decDigits (u / 10) ++ [UInt8.ofNat (48 + u % 10)] := by conv => lhs; rw [Lib.decDigits, dif_neg h]
theorem dd_facts : ∀ (n u : Nat), u < n → (Lib.decDigits u).all isD = true ∧ num (Lib.decDigits u) = u ∧ Lib.decDigits u ≠ [] ∧ (u ≠ 0 → (Lib.decDigits u).head? ≠ some 48)
 | 0, u, h => by omega
 | n + 1, u, h => by
  by_cases hs : u < 10
  ·rw [dd_small hs]
   refine ⟨by simp only [List.all_cons, List.all_nil, isD_of hs, Bool.and_true], ?_, by simp, fun h0 => ?_⟩
   ·show 10 * 0 + dv _ = u
    rw [dv_of hs]; omega
   ·simp only [List.head?_cons, ne_eq, Option.some.injEq]
    intro e
    have := congrArg UInt8.toNat e
    rw [ofNat_toNat (by omega)] at this
    have h48 : (48 : UInt8).toNat = 48 := rfl
    omega
  ·rw [dd_big hs]
   obtain ⟨h1, h2, h3, h4⟩ := dd_facts n (u / 10) (by omega)
   refine ⟨by simp only [List.all_append, List.all_cons, List.all_nil, h1, isD_of (Nat.mod_lt u (by omega : 0 < 10)), Bool.and_true], ?_, by simp, fun _ => ?_⟩
   ·rw [num_snoc, h2, dv_of (Nat.mod_lt _ (by omega))]; omega
   ·cases hd : Lib.decDigits (u / 10) with
    | nil => exact absurd hd h3
    | cons c r =>
     have := h4 (by omega)
     rw [hd] at this
     simpa using this
theorem dd_dig (u : Nat) : (Lib.decDigits u).all isD = true := (dd_facts _ u (Nat.lt_succ_self u)).1
theorem dd_num (u : Nat) : num (Lib.decDigits u) = u := (dd_facts _ u (Nat.lt_succ_self u)).2.1
theorem dd_ne (u : Nat) : Lib.decDigits u ≠ [] := (dd_facts _ u (Nat.lt_succ_self u)).2.2.1
theorem dd_head {u : Nat} (h : u ≠ 0) : (Lib.decDigits u).head? ≠ some 48 := (dd_facts _ u (Nat.lt_succ_self u)).2.2.2 h
def canW (l : List UInt8) : Prop := l.all isD = true ∧ l ≠ [] ∧ (1 < l.length → l.head? ≠ some 48)
theorem dd_can (u : Nat) : canW (Lib.decDigits u) := by
 refine ⟨dd_dig u, dd_ne u, fun h => ?_⟩
 by_cases h0 : u = 0
 ·subst h0
  rw [dd_small (by omega)] at h
  simp at h
 ·exact dd_head h0
theorem num_pos {l : List UInt8} (h : l.all isD = true) (hne : l ≠ []) (hh : l.head? ≠ some 48) : 10 ^ (l.length - 1) ≤ num l := by
 cases l with
 | nil => exact absurd rfl hne
 | cons c l =>
  simp only [List.all_cons, Bool.and_eq_true] at h
  simp only [List.head?_cons, ne_eq, Option.some.injEq] at hh
  have h1 := isD_iff.1 h.1
  have h2 : c.toNat ≠ 48 := fun e => hh (UInt8.toNat_inj.1 e)
  rw [show num (c :: l) = numA (10 * 0 + dv c) l from rfl, numA_eq, List.length_cons, Nat.add_sub_cancel]
  have : 1 * 10 ^ l.length ≤ (10 * 0 + dv c) * 10 ^ l.length := Nat.mul_le_mul_right _ (by unfold dv; omega)
  omega
def fr3 (a b c : UInt8) : List UInt8 := if c = 48 then (if b = 48 then (if a = 48 then [] else [a]) else [a, b]) else [a, b, c]
theorem trim3 (a b c : UInt8) : Lib.trimRightB [a, b, c] 48 = fr3 a b c := by
 unfold Lib.trimRightB fr3
 by_cases hc : c = 48
 ·by_cases hb : b = 48
  ·by_cases ha : a = 48
   ·simp [hc, hb, ha]
   ·simp [hc, hb, ha]
  ·simp [hc, hb]
 ·simp [hc]
def d3 (r : Nat) : UInt8 × UInt8 × UInt8 := (UInt8.ofNat (48 + r / 100), UInt8.ofNat (48 + r / 10 % 10), UInt8.ofNat (48 + r % 10))
theorem dd_1000 {r : Nat} (h : r < 1000) : (Lib.decDigits (1000 + r)).drop 1 = [(d3 r).1, (d3 r).2.1, (d3 r).2.2] := by
 rw [dd_big (by omega), dd_big (by omega), dd_big (by omega), dd_small (by omega)]
 simp only [List.append_assoc, List.cons_append, List.nil_append, List.drop_succ_cons, List.drop_zero, d3]
 rw [show (1000 + r) / 10 / 10 % 10 = r / 100 by omega, show (1000 + r) / 10 % 10 = r / 10 % 10 by omega, show (1000 + r) % 10 = r % 10 by omega]
def frac (r : Nat) : List UInt8 := fr3 (d3 r).1 (d3 r).2.1 (d3 r).2.2
def txtU (u : Nat) : List UInt8 := Lib.decDigits (u / 1000) ++ (if u % 1000 = 0 then [] else 46 :: frac (u % 1000))
def txtV (n : Int) : List UInt8 := (if n < 0 then [45] else []) ++ txtU n.natAbs
theorem wrap_u64 (n : Int) : IntKind.u64.wrap n = n % 18446744073709551616 := by
 simp [IntKind.wrap, IntKind.bits, IntKind.signed]
theorem okStr_of {a b : List UInt8} (h : a.length + b.length ≤ 9223372036854775807) : okStr a b = true := decide_eq_true h
theorem fmtU (u : Nat) (h : u < 18446744073709551616) : strconv_FormatUint (u : Int) 10 = some (Lib.decDigits u) := by
 unfold strconv_FormatUint
 rw [show (decide ((0 : Int) ≤ (u : Int) ∧ (u : Int) < 18446744073709551616) && ((10 : Int) == 10)) = true by simp; omega, guardO_t, Int.toNat_natCast]
theorem dd_len (u : Nat) (h : u < 18446744073709551616) : (Lib.decDigits u).length ≤ 20 := by
 rcases Nat.lt_or_ge (Lib.decDigits u).length 21 with q | q
 ·omega
 ·exfalso
  by_cases h0 : u = 0
  ·subst h0
   rw [dd_small (by omega)] at q
   simp at q
  ·have h1 := num_pos (dd_dig u) (dd_ne u) (dd_head h0)
   rw [dd_num] at h1
   have h2 : 10 ^ 20 ≤ 10 ^ ((Lib.decDigits u).length - 1) := Nat.pow_le_pow_right (by omega) (by omega)
   omega
theorem trimR (s : List UInt8) (h : s.length ≤ 9223372036854775807) : strings_TrimRight s [48] = some (Lib.trimRightB s 48) := by
 show guardO (decide ((48 : UInt8).toNat < 128) && decide (s.length ≤ 9223372036854775807)) _ = _
 rw [show (decide ((48 : UInt8).toNat < 128) && decide (s.length ≤ 9223372036854775807)) = true by simp; omega, guardO_t]
theorem fr3_len (a b c : UInt8) : (fr3 a b c).length ≤ 3 := by
 unfold fr3; split
 ·split
  ·split <;> simp
  ·simp
 ·simp
theorem abs_wrap (n : Int) (h1 : -9223372036854775808 ≤ n) (h2 : n ≤ 9223372036854775807) : (if (decide (n < 0)) = true then
        some (IntKind.u64.wrap (0 - (IntKind.u64.wrap n)), ([45] : List UInt8))
      else
        some (IntKind.u64.wrap n, [])) = some ((n.natAbs : Int), if n < 0 then [45] else []) := by
  by_cases hn : n < 0
  · rw [decide_eq_true hn, if_pos rfl, if_pos hn, wrap_u64, wrap_u64]
    congr 2
    omega
  · rw [decide_eq_false hn, if_neg (by simp), if_neg hn, wrap_u64]
    congr 2
    omega
theorem bk_Text_eq (n : Int) (h1 : -9223372036854775808 ≤ n) (h2 : n ≤ 9223372036854775807) : bk_Text n = some (txtV n) := by
 unfold bk_Text
 rw [abs_wrap n h1 h2, bindO_s]
 obtain ⟨u, hu⟩ : ∃ u, u = n.natAbs := ⟨_, rfl⟩
 obtain ⟨sg, hsg⟩ : ∃ sg : List UInt8, sg = if n < 0 then [45] else [] := ⟨_, rfl⟩
 have hu2 : u ≤ 9223372036854775808 := by omega
 have hsl : sg.length ≤ 1 := by rw [hsg]; split <;> simp
 unfold txtV txtU
 rw [← hu, ← hsg]
 simp only
 have e1 : IntKind.u64.wrap (Int.tdiv (u : Int) 1000) = ((u / 1000 : Nat) : Int) := by
  rw [wrap_u64, Int.tdiv_eq_ediv_of_nonneg (by omega)]; omega
 have e2 : Int.tmod (u : Int) 1000 = ((u % 1000 : Nat) : Int) := by
  rw [Int.tmod_eq_emod_of_nonneg (by omega)]; omega
 have hl := dd_len (u / 1000) (by omega)
 rw [e1, fmtU (u / 1000) (by omega), bindO_s, okStr_of (by omega), guardO_t, e2]
 by_cases hr : u % 1000 = 0
 ·rw [hr]; simp
 ·rw [decide_eq_true (show ((u % 1000 : Nat) : Int) > 0 by omega), if_pos rfl, if_neg hr]
  have e3 : IntKind.u64.wrap (1000 + ((u % 1000 : Nat) : Int)) = ((1000 + u % 1000 : Nat) : Int) := by rw [wrap_u64]; omega
  have hr2 : u % 1000 < 1000 := Nat.mod_lt _ (by omega)
  have hd := dd_1000 hr2
  have hl2 := dd_len (1000 + u % 1000) (by omega)
  rw [e3, fmtU _ (by omega), bindO_s]
  have hc : cutF (Lib.decDigits (1000 + u % 1000)) 1 = some ((Lib.decDigits (1000 + u % 1000)).drop 1) := by
   unfold cutF
   rw [if_neg]
   ·rfl
   ·have := List.length_pos_iff.2 (dd_ne (1000 + u % 1000))
    omega
  have hf := fr3_len (d3 (u % 1000)).1 (d3 (u % 1000)).2.1 (d3 (u % 1000)).2.2
  rw [hc, bindO_s, trimR _ (by simp; omega), bindO_s, hd, trim3, okStr_of (by simp; omega), guardO_t, okStr_of (by simp; omega), guardO_t]
  simp [frac]
def strip : List UInt8 → Bool × List UInt8
 | [] => (false, [])
 | c :: r => if c = 45 then (true, r) else (false, c :: r)
theorem strip_cons (c : UInt8) (r : List UInt8) : strip (c :: r) = if c = 45 then (true, r) else (false, c :: r) := rfl
theorem strip_len (s : List UInt8) : (strip s).2.length ≤ s.length := by
 cases s with
 | nil => simp [strip]
 | cons c r => rw [strip_cons]; split <;> simp
def cutV (l : List UInt8) : List UInt8 × List UInt8 × Bool := (l.takeWhile (· != 46), (l.dropWhile (· != 46)).drop 1, l.contains 46)
def zer (k : Nat) : List UInt8 := List.replicate k 48
def digB (l : List UInt8) : Bool := l.all isD && !l.isEmpty
def badP (neg : Bool) (body p : List UInt8) (pt : Bool) : Bool := (pt && (!digB p || (decide (3 < p.length) || p.getLast? == some 48))) || (neg && body == [48])
def badV (neg : Bool) (body w p : List UInt8) (pt : Bool) : Bool := !digB w || ((decide (1 < w.length) && w.head? == some 48) || badP neg body p pt)
def valN (neg : Bool) (w p : List UInt8) : Int × Int := if w.length > 10 then (0, 11) else if num (w ++ p ++ zer (3 - p.length)) > 1000000000000 then (0, 11) else (if neg = true then -(num (w ++ p ++ zer (3 - p.length)) : Int) else num (w ++ p ++ zer (3 - p.length)), 0)
def valV (s : List UInt8) : Int × Int :=
 if badV (strip s).1 (strip s).2 (cutV (strip s).2).1 (cutV (strip s).2).2.1 (cutV (strip s).2).2.2 = true then (0, 2) else valN (strip s).1 (cutV (strip s).2).1 (cutV (strip s).2).2.1
theorem cutPre (s : List UInt8) (hs : s.length ≤ 1000000) : strings_CutPrefix s [45] = some ((strip s).2, (strip s).1) := by
 unfold strings_CutPrefix stringslite_CutPrefix stringslite_HasPrefix
 cases s with
 | nil => rfl
 | cons c r =>
  have h1 : decide (((c :: r).length : Int) ≥ (([45] : List UInt8).length : Int)) = true := by simp; omega
  have h2 : cutT (c :: r) (([45] : List UInt8).length : Int) = some [c] := by unfold cutT; rw [if_neg (by simp; omega)]; rfl
  have h3 : cutF (c :: r) (([45] : List UInt8).length : Int) = some r := by unfold cutF; rw [if_neg (by simp; omega)]; rfl
  rw [h1, if_pos rfl, h2, bindO_s, bindO_s, bindO_s, h3]
  rw [strip_cons]
  by_cases hc : c = 45
  ·subst hc; rfl
  ·rw [if_neg hc, show (([c] : List UInt8) == [45]) = false by simpa using hc]
   rfl
theorem idx_facts : ∀ l : List UInt8, (Lib.indexByte l 46 = -1 ∧ l.takeWhile (· != 46) = l ∧ l.dropWhile (· != 46) = [] ∧ l.contains 46 = false) ∨ (∃ o : Nat, Lib.indexByte l 46 = (o : Int) ∧ o < l.length ∧ l.take o = l.takeWhile (· != 46) ∧ l.drop o = l.dropWhile (· != 46) ∧ l.contains 46 = true)
 | [] => .inl ⟨rfl, rfl, rfl, rfl⟩
 | b :: l => by
  unfold Lib.indexByte
  by_cases hb : b = 46
  ·subst hb
   exact .inr ⟨0, rfl, by simp, rfl, by simp, by simp⟩
  ·have hb1 : (b == 46) = false := by simpa using hb
   have hb2 : (b != 46) = true := by simp [hb]
   have hb3 : ((46 : UInt8) == b) = false := by simpa using fun e => hb e.symm
   rw [hb1]
   simp only [Bool.false_eq_true, if_false, List.takeWhile_cons, List.dropWhile_cons, hb2, if_true, List.contains_cons, hb3, Bool.false_or]
   rcases idx_facts l with ⟨h1, h2, h3, h4⟩ | ⟨o, h1, h2, h3, h4, h5⟩
   ·left
    rw [h1, h2]
    exact ⟨rfl, rfl, h3, h4⟩
   ·right
    have hne : ((o : Int) == -1) = false := by simp
    rw [h1, hne]
    refine ⟨o + 1, by simp, by simpa using h2, ?_, by simpa using h4, h5⟩
    rw [List.take_succ_cons, h3]
theorem cutEq (s : List UInt8) (hs : s.length ≤ 1000000) : strings_Cut s [46] = some (cutV s) := by
 have hi : stringslite_Index s [46] = some (Lib.indexByte s 46) := by
  unfold stringslite_Index
  by_cases he : s = [46]
  ·subst he; rfl
  ·have : (((([46] : List UInt8).length : Int) == 0) || (([46] : List UInt8) == s)) = false := by
    simp
    exact fun e => he e.symm
   rw [this]
   rfl
 unfold strings_Cut stringslite_Cut
 rw [hi, bindO_s]
 unfold cutV
 rcases idx_facts s with ⟨h1, h2, h3, h4⟩ | ⟨o, h1, h2, h3, h4, h5⟩
 ·rw [h1, h2, h3, h4]; rfl
 ·rw [h1, h5, ← h3, ← h4]
  have hw : IntKind.i64.wrap ((o : Int) + (([46] : List UInt8).length : Int)) = ((o + 1 : Nat) : Int) := by
   simp only [List.length_cons, List.length_nil]
   rw [wrap_i64 (by omega) (by omega)]; omega
  have hc1 : cutT s (o : Int) = some (s.take o) := by unfold cutT; rw [if_neg (by omega), Int.toNat_natCast]
  have hc2 : cutF s ((o + 1 : Nat) : Int) = some (s.drop (o + 1)) := by unfold cutF; rw [if_neg (by omega), Int.toNat_natCast]
  rw [decide_eq_true (show (o : Int) ≥ 0 by omega), if_pos rfl, hc1, bindO_s, hw, hc2, bindO_s, bindO_s, List.drop_drop]
theorem digs_contains (c : UInt8) : ([48, 49, 50, 51, 52, 53, 54, 55, 56, 57] : List UInt8).contains c = isD c := by
 have key : ∀ k, k < 256 → ([48, 49, 50, 51, 52, 53, 54, 55, 56, 57] : List UInt8).contains (UInt8.ofNat k) = (decide (48 ≤ k) && decide (k ≤ 57)) := of_decide_eq_true (by kernel_rfl)
 have := key c.toNat (UInt8.toNat_lt c)
 rw [UInt8.ofNat_toNat] at this
 rw [this]; rfl
theorem dw_nil {p : UInt8 → Bool} : ∀ {l : List UInt8}, l.dropWhile p = [] ↔ ∀ x ∈ l, p x = true
 | [] => by simp
 | c :: l => by
  rw [List.dropWhile_cons]
  cases h : p c with
  | true => rw [if_pos rfl, dw_nil]; simp [h]
  | false => simp [h]
theorem trim_nil (l cs : List UInt8) (p : UInt8 → Bool) (hp : ∀ c, cs.contains c = p c) : (Lib.trimS l cs == []) = l.all p := by
 have hfun : (cs.contains ·) = p := funext hp
 unfold Lib.trimS Lib.trimLeftS Lib.trimRightS
 rw [hfun]
 cases hall : l.all p with
 | true =>
  have : l.reverse.dropWhile p = [] := by
   rw [dw_nil]
   intro x hx
   exact List.all_eq_true.1 hall x (by simpa using hx)
  rw [this]; rfl
 | false =>
  cases hd : l.reverse.dropWhile p with
  | nil =>
   rw [dw_nil] at hd
   have : l.all p = true := List.all_eq_true.2 fun x hx => hd x (by simpa using hx)
   rw [this] at hall; cases hall
  | cons c r =>
   have hc : p c = false := by
    have := List.head?_dropWhile_not p l.reverse
    rw [hd] at this
    simpa using this
   have : (List.dropWhile p (c :: r).reverse) ≠ [] := by
    intro e
    rw [dw_nil] at e
    have := e c (by simp)
    rw [hc] at this; cases this
   cases hx : List.dropWhile p (c :: r).reverse with
   | nil => exact absurd hx this
   | cons a b => rfl
theorem bk_digits_eq (l : List UInt8) (hl : l.length ≤ 1000000) : bk_digits l = some (digB l) := by
 unfold bk_digits digB
 cases l with
 | nil => rfl
 | cons c r =>
  have h1 : ((c :: r) == ([] : List UInt8)) = false := rfl
  rw [h1]
  unfold strings_Trim
  rw [show (([48, 49, 50, 51, 52, 53, 54, 55, 56, 57] : List UInt8).all (fun c => decide (c.toNat < 128)) && (decide ((c :: r).length ≤ 9223372036854775807) && decide (([48, 49, 50, 51, 52, 53, 54, 55, 56, 57] : List UInt8).length < 4294967281))) = true by
   simp only [List.length_cons] at hl ⊢
   simp; omega]
  simp only [Bool.false_eq_true, if_false, guardO_t, bindO_s, trim_nil _ _ _ digs_contains, List.isEmpty_cons, Bool.not_false, Bool.and_true]
theorem parse_eq : ∀ (l : List UInt8) (a : Nat), l.all isD = true → numA a l < 1000000000000000000 → Lib.parseUintM 18446744073709551615 a l = .ok (numA a l)
 | [], a, _, _ => rfl
 | c :: l, a, h, hn => by
  simp only [List.all_cons, Bool.and_eq_true] at h
  have hc := isD_iff.1 h.1
  rw [numA_cons] at hn ⊢
  have hge := numA_ge l (10 * a + dv c)
  have hd : dv c = c.toNat - 48 := rfl
  unfold Lib.parseUintM
  rw [if_pos hc, if_neg (by omega), if_neg (by omega), show a * 10 + (c.toNat - 48) = 10 * a + dv c by omega]
  exact parse_eq l _ h.2 hn
theorem parseInt_eq (l : List UInt8) (h : l.all isD = true) (hne : l ≠ []) (hl : l.length ≤ 17) : strconv_ParseInt l 10 64 = some (num l : Int) := by
 have hn := num_lt l h
 have hp : (10 : Nat) ^ l.length ≤ 10 ^ 17 := Nat.pow_le_pow_right (by omega) hl
 have hm := parse_eq l 0 h (show num l < _ by omega)
 unfold strconv_ParseInt
 rw [show ((10 : Int) == 10 && ((64 : Int) == 64 && decide (l.length ≤ 9223372036854775806))) = true by simp; omega, guardO_t]
 have key : Lib.parseIntB 64 l = .ok (num l : Int) := by
  cases l with
  | nil => exact absurd rfl hne
  | cons c r =>
   simp only [List.all_cons, Bool.and_eq_true] at h
   have hc := isD_iff.1 h.1
   unfold Lib.parseIntB
   simp only
   rw [if_neg (by omega)]
   unfold Lib.parseUintB
   rw [if_neg (by simp), show (2 ^ 64 - 1 : Nat) = 18446744073709551615 by rfl, hm]
   simp only
   have hx : numA 0 (c :: r) = num (c :: r) := rfl
   rw [if_neg (by omega), if_neg (by omega), if_neg (by omega), hx]
 rw [key]
theorem last_gt (p : List UInt8) (hp : p ≠ []) (hl : p.length ≤ 1000000) : ∃ c, gt p (IntKind.i64.wrap ((p.length : Int) - 1)) = some c ∧ p.getLast? = some c := by
 have hpos := List.length_pos_iff.2 hp
 rw [wrap_i64 (by omega) (by omega)]
 obtain ⟨c, h1, h2⟩ := gt_ok' (l := p) (i := (p.length : Int) - 1) (by omega) (by omega)
 refine ⟨c, h1, ?_⟩
 rw [List.getLast?_eq_getElem?, ← h2]
 congr 1
 omega
theorem c48 (c : UInt8) : ((c.toNat : Int) == 48) = (c == 48) := by
 rw [Bool.eq_iff_iff]
 simp only [beq_iff_eq]
 constructor
 ·intro h; exact UInt8.toNat_inj.1 (by have : (48 : UInt8).toNat = 48 := rfl; omega)
 ·intro h; subst h; rfl
theorem badP_eq (neg : Bool) (body p : List UInt8) (pt : Bool) (hl : p.length ≤ 1000000) : (if pt = true then
              bindO (bk_digits p) fun (y105 : Bool) =>
              if y105 = true then
                if (decide ((p.length : Int) > 3)) = true then
                  some true
                else
                  bindO (gt p (IntKind.i64.wrap ((p.length : Int) - 1))) fun (c106 : UInt8) =>
                  if ((c106.toNat : Int) == 48) = true then
                    some true
                  else
                    if neg = true then
                      some (body == [48])
                    else
                      some false
              else
                some true
            else
              if neg = true then
                some (body == [48])
              else
                some false) = some (badP neg body p pt) := by
  unfold badP
  cases pt with
  | false => cases neg <;> simp
  | true =>
    rw [if_pos rfl, bk_digits_eq p hl, bindO_s]
    cases hd : digB p with
    | false => simp
    | true =>
      rw [if_pos rfl]
      have hne : p ≠ [] := by intro e; subst e; cases hd
      obtain ⟨c, h1, h2⟩ := last_gt p hne hl
      rw [h1, bindO_s, h2, c48]
      have e3 : decide ((p.length : Int) > 3) = decide (3 < p.length) := by
        rw [Bool.eq_iff_iff]; simp only [decide_eq_true_eq]; omega
      rw [e3]
      cases decide (3 < p.length) <;> cases hc : (c == 48) <;> cases neg <;> simp_all
theorem tw_len (p : UInt8 → Bool) (l : List UInt8) : (l.takeWhile p).length ≤ l.length ∧ (l.dropWhile p).length ≤ l.length := by
 have h := congrArg List.length (List.takeWhile_append_dropWhile (p := p) (l := l))
 rw [List.length_append] at h
 omega
theorem zer_dig (k : Nat) : (zer k).all isD = true := by
 unfold zer
 rw [List.all_eq_true]
 intro x hx
 rw [List.eq_of_mem_replicate hx]
 rfl
theorem bk_Value_eq (s : List UInt8) (hs : s.length ≤ 100000) : bk_Value s = some (valV s) := by
  unfold bk_Value valV
  rw [cutPre s (by omega), bindO_s]
  have hb := strip_len s
  generalize strip s = st at *
  obtain ⟨neg, body⟩ := st
  simp only at hb ⊢
  rw [cutEq body (by omega), bindO_s]
  have hw := (tw_len (· != 46) body).1
  have hp : (cutV body).2.1.length ≤ body.length := by
    have := (tw_len (· != 46) body).2
    show ((body.dropWhile (· != 46)).drop 1).length ≤ _
    simp; omega
  have hpt : (cutV body).2.2 = false → (cutV body).2.1 = [] := by
    intro h
    rcases idx_facts body with ⟨_, _, h3, _⟩ | ⟨_, _, _, _, _, h5⟩
    · show (body.dropWhile (· != 46)).drop 1 = []
      rw [h3]; rfl
    · have : (cutV body).2.2 = true := h5
      rw [this] at h; cases h
  have hw : (cutV body).1.length ≤ body.length := hw
  generalize cutV body = cv at *
  obtain ⟨w, p, pt⟩ := cv
  simp only at hw hp hpt ⊢
  rw [bk_digits_eq w (by omega), bindO_s]
  have hbad : ∀ (k : Bool → Option (Int × Int)), (bindO (if digB w = true then
        if (decide ((w.length : Int) > 1)) = true then
          bindO (gt w 0) fun (c104 : UInt8) =>
          if ((c104.toNat : Int) == 48) = true then
            some true
          else
            if pt = true then
              bindO (bk_digits p) fun (y105 : Bool) =>
              if y105 = true then
                if (decide ((p.length : Int) > 3)) = true then
                  some true
                else
                  bindO (gt p (IntKind.i64.wrap ((p.length : Int) - 1))) fun (c106 : UInt8) =>
                  if ((c106.toNat : Int) == 48) = true then
                    some true
                  else
                    if neg = true then
                      some (body == [48])
                    else
                      some false
              else
                some true
            else
              if neg = true then
                some (body == [48])
              else
                some false
        else
          if pt = true then
            bindO (bk_digits p) fun (y107 : Bool) =>
            if y107 = true then
              if (decide ((p.length : Int) > 3)) = true then
                some true
              else
                bindO (gt p (IntKind.i64.wrap ((p.length : Int) - 1))) fun (c108 : UInt8) =>
                if ((c108.toNat : Int) == 48) = true then
                  some true
                else
                  if neg = true then
                    some (body == [48])
                  else
                    some false
            else
              some true
          else
            if neg = true then
              some (body == [48])
            else
              some false
      else
        some true) k) = k (badV neg body w p pt) := by
    intro k
    rw [badP_eq neg body p pt (by omega)]
    unfold badV
    cases hd : digB w with
    | false => rfl
    | true =>
      cases w with
      | nil => cases hd
      | cons c r =>
        rw [if_pos rfl, show gt (c :: r) 0 = some c from rfl, bindO_s, c48]
        have e3 : decide (((c :: r).length : Int) > 1) = decide (1 < (c :: r).length) := by
          rw [Bool.eq_iff_iff]; simp only [decide_eq_true_eq]; omega
        rw [e3]
        have e4 : ((c :: r).head? == some 48) = (c == 48) := rfl
        rw [e4]
        cases decide (1 < (c :: r).length) <;> cases (c == 48) <;> simp
  rw [hbad]
  cases hv : badV neg body w p pt with
  | true => rfl
  | false =>
    simp only [Bool.false_eq_true, if_false]
    unfold badV badP at hv
    simp only [Bool.or_eq_false_iff, Bool.not_eq_false'] at hv
    obtain ⟨hd, _, hv, _⟩ := hv
    have hdw : w.all isD = true ∧ w ≠ [] := by
      unfold digB at hd
      simp only [Bool.and_eq_true] at hd
      exact ⟨hd.1, fun e => by subst e; exact absurd hd.2 (by simp)⟩
    have hp3 : p.all isD = true ∧ p.length ≤ 3 := by
      cases pt with
      | false => rw [hpt rfl]; simp
      | true =>
        simp only [Bool.true_and, Bool.or_eq_false_iff, Bool.not_eq_false', decide_eq_false_iff_not] at hv
        unfold digB at hv
        simp only [Bool.and_eq_true] at hv
        exact ⟨hv.1.1, by omega⟩
    unfold valN
    have e1 : decide ((w.length : Int) > 10) = decide (w.length > 10) := by
      rw [Bool.eq_iff_iff]; simp only [decide_eq_true_eq]; omega
    rw [e1]
    by_cases h10 : w.length > 10
    · rw [decide_eq_true h10, if_pos rfl, if_pos h10]
    · rw [decide_eq_false h10, if_neg (by simp), if_neg h10]
      have hz : cutF ([48, 48, 48] : List UInt8) (p.length : Int) = some (zer (3 - p.length)) := by
        have : p.length = 0 ∨ p.length = 1 ∨ p.length = 2 ∨ p.length = 3 := by omega
        rcases this with e | e | e | e <;> rw [e] <;> rfl
      have hall : (w ++ p ++ zer (3 - p.length)).all isD = true := by
        simp only [List.all_append, hdw.1, hp3.1, zer_dig, Bool.and_self]
      have hlen : (w ++ p ++ zer (3 - p.length)).length = w.length + 3 := by simp [zer]; omega
      have hlen2 : (zer (3 - p.length)).length = 3 - p.length := by simp [zer]
      rw [okStr_of (by omega), guardO_t, hz, bindO_s, okStr_of (by simp only [List.length_append]; omega), guardO_t, parseInt_eq _ hall (by intro e; rw [e] at hlen; simp at hlen) (by omega), bindO_s]
      have hlt := num_lt _ hall
      have hle : (10 : Nat) ^ (w ++ p ++ zer (3 - p.length)).length ≤ 10 ^ 13 := Nat.pow_le_pow_right (by omega) (by omega)
      generalize num (w ++ p ++ zer (3 - p.length)) = N at *
      by_cases hN : N > 1000000000000
      · rw [decide_eq_true (show (N : Int) > 1000000000000 by omega), if_pos rfl, if_pos hN]
      · rw [decide_eq_false (show ¬ (N : Int) > 1000000000000 by omega), if_neg (by simp), if_neg hN]
        cases neg with
        | true => simp only [if_true, bindO_s]; rw [wrap_i64 (by omega) (by omega), Int.zero_sub]
        | false => rfl
theorem rune_digit (r : Nat) (h : r < 10) : runeS (IntKind.i32.wrap (IntKind.u64.wrap (48 + (r : Int)))) = [UInt8.ofNat (48 + r)] := by
 have : ∀ r, r < 10 → runeS (IntKind.i32.wrap (IntKind.u64.wrap (48 + ((r : Nat) : Int)))) = [UInt8.ofNat (48 + r)] := of_decide_eq_true (by kernel_rfl)
 exact this r h
def ddRest (n : Nat) (o : List UInt8) : List UInt8 := if n = 0 ∧ o ≠ [] then [] else Lib.decDigits n
theorem r41_digits_eq (k : Nat) (hk : k ≤ 9223372036854775806) : r41_digits (k : Int) = some (Lib.decDigits k) := by
  unfold r41_digits
  have hlk := dd_len k (by omega)
  have key : Tot (loopX (fun (v113 : Int × (List UInt8)) =>
        if ((decide (v113.1 > 0)) || (v113.2 == [])) = true then
          guardO (okStr (runeS (IntKind.i32.wrap (IntKind.u64.wrap (48 + (Int.tmod v113.1 10))))) v113.2) (
          some (.go (IntKind.u64.wrap (Int.tdiv v113.1 10), (runeS (IntKind.i32.wrap (IntKind.u64.wrap (48 + (Int.tmod v113.1 10))))) ++ v113.2)))
        else
          some (.ret v113.2)) fuel ((k : Int), [])) (fun o => o = Lib.decDigits k) := by
    refine Tot.loop (fun m v => ∃ n : Nat, v.1 = (n : Int) ∧ n ≤ k ∧ ddRest n v.2 ++ v.2 = Lib.decDigits k ∧ m = n + (if v.2 = [] then 1 else 0)) _ (k + 1) (fuel_gt (by omega)) ⟨k, rfl, by omega, by simp [ddRest], by simp⟩ (fun m v hr => ?_)
    obtain ⟨n, hn, hnk, hd, hm⟩ := hr
    obtain ⟨v1, o⟩ := v
    simp only at hn hd hm ⊢
    subst hn
    refine TotX.ite (fun h => ?_) (fun h => .ret ?_)
    · have ht : Int.tmod (n : Int) 10 = ((n % 10 : Nat) : Int) := by rw [Int.tmod_eq_emod_of_nonneg (by omega)]; omega
      have hq : IntKind.u64.wrap (Int.tdiv (n : Int) 10) = ((n / 10 : Nat) : Int) := by rw [wrap_u64, Int.tdiv_eq_ediv_of_nonneg (by omega)]; omega
      have hol : o.length ≤ 20 := by
        have := congrArg List.length hd
        rw [List.length_append] at this; omega
      rw [ht, hq, rune_digit (n % 10) (Nat.mod_lt _ (by omega))]
      refine TotX.guard (okStr_of (by simp; omega)) (.go ?_)
      have hcond : n = 0 → o = [] := by
        intro e; subst e
        simpa using h
      have hrest : ddRest n o = Lib.decDigits n := by
        unfold ddRest
        rw [if_neg]
        rintro ⟨e1, e2⟩
        exact e2 (hcond e1)
      rw [hrest] at hd
      refine ⟨n / 10 + 0, ?_, n / 10, rfl, by omega, ?_, by simp⟩
      · by_cases e : n = 0
        · rw [hm, hcond e, e]; simp
        · rw [hm]; omega
      · rw [← hd]
        unfold ddRest
        by_cases hs : n < 10
        · rw [if_pos ⟨by omega, by simp⟩, dd_small hs, show n % 10 = n by omega]; rfl
        · rw [if_neg (by omega), dd_big hs]
          simp
    · simp only [Bool.or_eq_false_iff, decide_eq_false_iff_not] at h
      have h0 : n = 0 := by omega
      have ho : o ≠ [] := by intro e; subst e; exact absurd h.2 (by simp)
      rw [← hd]
      unfold ddRest
      rw [if_pos ⟨h0, ho⟩]; rfl
  obtain ⟨o, ho, rfl⟩ := key
  rw [ho]; rfl
theorem trimLoop (a b c : UInt8) (h : ¬ (a = 48 ∧ b = 48 ∧ c = 48)) : loopX (fun (v163 : (List UInt8)) =>
              bindO (gt v163 (IntKind.i64.wrap ((v163.length : Int) - 1))) fun (c164 : UInt8) =>
              if ((c164.toNat : Int) == 48) = true then
                bindO (cutT v163 (IntKind.i64.wrap ((v163.length : Int) - 1))) fun (s165 : (List UInt8)) =>
                some (.go s165)
              else
                some (.ret v163)) fuel [a, b, c] = some (fr3 a b c) := by
  have key : Tot (loopX (fun (v163 : (List UInt8)) =>
              bindO (gt v163 (IntKind.i64.wrap ((v163.length : Int) - 1))) fun (c164 : UInt8) =>
              if ((c164.toNat : Int) == 48) = true then
                bindO (cutT v163 (IntKind.i64.wrap ((v163.length : Int) - 1))) fun (s165 : (List UInt8)) =>
                some (.go s165)
              else
                some (.ret v163)) fuel [a, b, c]) (fun o => o = fr3 a b c) := by
    refine Tot.loop (fun m v => (m = 3 ∧ v = [a, b, c]) ∨ (m = 2 ∧ v = [a, b] ∧ c = 48) ∨ (m = 1 ∧ v = [a] ∧ b = 48 ∧ c = 48)) _ 3 (fuel_gt (by omega)) (.inl ⟨rfl, rfl⟩) (fun m v hr => ?_)
    rcases hr with ⟨rfl, rfl⟩ | ⟨rfl, rfl, hc⟩ | ⟨rfl, rfl, hb, hc⟩
    · rw [show gt [a, b, c] (IntKind.i64.wrap ((([a, b, c] : List UInt8).length : Int) - 1)) = some c from rfl, bindO_s, c48, show cutT [a, b, c] (IntKind.i64.wrap ((([a, b, c] : List UInt8).length : Int) - 1)) = some [a, b] from rfl, bindO_s]
      refine TotX.ite (fun q => .go ⟨2, by omega, .inr (.inl ⟨rfl, rfl, by simpa using q⟩)⟩) (fun q => .ret ?_)
      unfold fr3; rw [if_neg (by simpa using q)]
    · rw [show gt [a, b] (IntKind.i64.wrap ((([a, b] : List UInt8).length : Int) - 1)) = some b from rfl, bindO_s, c48, show cutT [a, b] (IntKind.i64.wrap ((([a, b] : List UInt8).length : Int) - 1)) = some [a] from rfl, bindO_s]
      refine TotX.ite (fun q => .go ⟨1, by omega, .inr (.inr ⟨rfl, rfl, by simpa using q, hc⟩)⟩) (fun q => .ret ?_)
      unfold fr3; rw [if_pos hc, if_neg (by simpa using q)]
    · have ha : ¬ a = 48 := fun e => h ⟨e, hb, hc⟩
      rw [show gt [a] (IntKind.i64.wrap ((([a] : List UInt8).length : Int) - 1)) = some a from rfl, bindO_s, c48]
      refine TotX.ite (fun q => absurd (by simpa using q) ha) (fun q => .ret ?_)
      unfold fr3; rw [if_pos hc, if_pos hb, if_neg ha]
  obtain ⟨o, ho, rfl⟩ := key
  exact ho
theorem d3_num {r : Nat} (h : r < 1000) (l : List UInt8) : num (l ++ [(d3 r).1, (d3 r).2.1, (d3 r).2.2]) = 1000 * num l + r := by
 unfold d3
 rw [show l ++ [UInt8.ofNat (48 + r / 100), UInt8.ofNat (48 + r / 10 % 10), UInt8.ofNat (48 + r % 10)] = ((l ++ [UInt8.ofNat (48 + r / 100)]) ++ [UInt8.ofNat (48 + r / 10 % 10)]) ++ [UInt8.ofNat (48 + r % 10)] by simp]
 rw [num_snoc, num_snoc, num_snoc, dv_of (by omega), dv_of (by omega), dv_of (by omega)]
 omega
theorem d3_zero {r : Nat} (h : r < 1000) (h0 : r ≠ 0) : ¬ ((d3 r).1 = 48 ∧ (d3 r).2.1 = 48 ∧ (d3 r).2.2 = 48) := by
 rintro ⟨e1, e2, e3⟩
 have := d3_num h []
 rw [e1, e2, e3] at this
 simp [num, numA, dv] at this
 omega
theorem abs_wrap2 (n : Int) (h1 : -9223372036854775808 ≤ n) (h2 : n ≤ 9223372036854775807) : (if (decide (n < 0)) = true then
        some (([45] : List UInt8), IntKind.u64.wrap (0 - (IntKind.u64.wrap n)))
      else
        some ([], IntKind.u64.wrap n)) = some (if n < 0 then [45] else [], (n.natAbs : Int)) := by
  by_cases hn : n < 0
  · rw [decide_eq_true hn, if_pos rfl, if_pos hn, wrap_u64, wrap_u64]
    congr 2
    omega
  · rw [decide_eq_false hn, if_neg (by simp), if_neg hn, wrap_u64]
    congr 2
    omega
theorem r41_Text_eq (n : Int) (h1 : -9223372036854775808 ≤ n) (h2 : n ≤ 9223372036854775807) : r41_Text n = some (txtV n) := by
 unfold r41_Text
 rw [abs_wrap2 n h1 h2, bindO_s]
 obtain ⟨u, hu⟩ : ∃ u, u = n.natAbs := ⟨_, rfl⟩
 obtain ⟨sg, hsg⟩ : ∃ sg : List UInt8, sg = if n < 0 then [45] else [] := ⟨_, rfl⟩
 have hu2 : u ≤ 9223372036854775808 := by omega
 have hsl : sg.length ≤ 1 := by rw [hsg]; split <;> simp
 unfold txtV txtU
 rw [← hu, ← hsg]
 simp only
 have e1 : IntKind.u64.wrap (Int.tdiv (u : Int) 1000) = ((u / 1000 : Nat) : Int) := by
  rw [wrap_u64, Int.tdiv_eq_ediv_of_nonneg (by omega)]; omega
 have e2 : Int.tmod (u : Int) 1000 = ((u % 1000 : Nat) : Int) := by
  rw [Int.tmod_eq_emod_of_nonneg (by omega)]; omega
 have hl := dd_len (u / 1000) (by omega)
 rw [e1, r41_digits_eq (u / 1000) (by omega), bindO_s, okStr_of (by omega), guardO_t, e2]
 by_cases hr : u % 1000 = 0
 ·rw [hr]; simp
 ·rw [decide_eq_true (show ((u % 1000 : Nat) : Int) > 0 by omega), if_pos rfl, if_neg hr]
  have e3 : IntKind.u64.wrap (1000 + ((u % 1000 : Nat) : Int)) = ((1000 + u % 1000 : Nat) : Int) := by rw [wrap_u64]; omega
  have hr2 : u % 1000 < 1000 := Nat.mod_lt _ (by omega)
  have hd := dd_1000 hr2
  have hl2 := dd_len (1000 + u % 1000) (by omega)
  rw [e3, r41_digits_eq _ (by omega), bindO_s]
  have hc : cutF (Lib.decDigits (1000 + u % 1000)) 1 = some ((Lib.decDigits (1000 + u % 1000)).drop 1) := by
   unfold cutF
   rw [if_neg]
   ·rfl
   ·have := List.length_pos_iff.2 (dd_ne (1000 + u % 1000))
    omega
  have hf := fr3_len (d3 (u % 1000)).1 (d3 (u % 1000)).2.1 (d3 (u % 1000)).2.2
  rw [hc, bindO_s, hd, trimLoop _ _ _ (d3_zero hr2 hr), bindO_s, okStr_of (by simp; omega), guardO_t, okStr_of (by simp; omega), guardO_t]
  simp [frac]
theorem fr3_pad (a b c : UInt8) : fr3 a b c ++ zer (3 - (fr3 a b c).length) = [a, b, c] := by
 unfold fr3
 by_cases hc : c = 48
 ·by_cases hb : b = 48
  ·by_cases ha : a = 48
   ·simp [hc, hb, ha, zer, List.replicate]
   ·simp [hc, hb, ha, zer, List.replicate]
  ·simp [hc, hb, zer, List.replicate]
 ·simp [hc, zer, List.replicate]
theorem fr3_last (a b c : UInt8) : (fr3 a b c).getLast? ≠ some 48 := by
 unfold fr3
 by_cases hc : c = 48
 ·by_cases hb : b = 48
  ·by_cases ha : a = 48
   ·simp [hc, hb, ha]
   ·simp [hc, hb, ha]
  ·simp [hc, hb]
 ·simp [hc]
theorem fr3_ne (a b c : UInt8) (h : ¬ (a = 48 ∧ b = 48 ∧ c = 48)) : fr3 a b c ≠ [] := by
 unfold fr3
 by_cases hc : c = 48
 ·by_cases hb : b = 48
  ·by_cases ha : a = 48
   ·exact absurd ⟨ha, hb, hc⟩ h
   ·simp [hc, hb, ha]
  ·simp [hc, hb]
 ·simp [hc]
theorem fr3_dig (a b c : UInt8) (ha : isD a = true) (hb : isD b = true) (hc : isD c = true) : (fr3 a b c).all isD = true := by
 unfold fr3
 split
 ·split
  ·split <;> simp [ha]
  ·simp [ha, hb]
 ·simp [ha, hb, hc]
theorem d3_dig {r : Nat} (h : r < 1000) : isD (d3 r).1 = true ∧ isD (d3 r).2.1 = true ∧ isD (d3 r).2.2 = true := ⟨isD_of (by omega), isD_of (by omega), isD_of (by omega)⟩
theorem dig_ne {c : UInt8} (h : isD c = true) : c ≠ 46 ∧ c ≠ 45 := by
 have := isD_iff.1 h
 refine ⟨fun e => ?_, fun e => ?_⟩
 ·subst e; have : (46 : UInt8).toNat = 46 := rfl; omega
 ·subst e; have : (45 : UInt8).toNat = 45 := rfl; omega
theorem tw_all : ∀ (w r : List UInt8), w.all isD = true → (r = [] ∨ ∃ q, r = 46 :: q) → (w ++ r).takeWhile (· != 46) = w ∧ (w ++ r).dropWhile (· != 46) = r
 | [], r, _, hr => by rcases hr with rfl | ⟨q, rfl⟩ <;> simp
 | c :: w, r, h, hr => by
  simp only [List.all_cons, Bool.and_eq_true] at h
  have hc : (c != 46) = true := by simpa using (dig_ne h.1).1
  obtain ⟨h1, h2⟩ := tw_all w r h.2 hr
  simp only [List.cons_append, List.takeWhile_cons, List.dropWhile_cons, hc, if_true, h1, h2, and_self]
theorem cont_dig : ∀ (w : List UInt8), w.all isD = true → w.contains 46 = false
 | [], _ => rfl
 | c :: w, h => by
  simp only [List.all_cons, Bool.and_eq_true] at h
  rw [List.contains_cons, cont_dig w h.2, show ((46 : UInt8) == c) = false by simpa using fun e => (dig_ne h.1).1 e.symm]; rfl
theorem cutV_of (w p : List UInt8) (pt : Bool) (hw : w.all isD = true) (hp : pt = false → p = []) : cutV (w ++ (if pt = true then 46 :: p else [])) = (w, p, pt) := by
 unfold cutV
 cases pt with
 | true =>
  obtain ⟨h1, h2⟩ := tw_all w (46 :: p) hw (.inr ⟨p, rfl⟩)
  rw [if_pos rfl, h1, h2]
  simp
 | false =>
  obtain ⟨h1, h2⟩ := tw_all w [] hw (.inl rfl)
  rw [if_neg (by simp), h1, h2, hp rfl, List.append_nil, cont_dig w hw]; rfl
theorem strip_of (neg : Bool) (b : List UInt8) (h : b.head? ≠ some 45) : strip ((if neg = true then [45] else []) ++ b) = (neg, b) := by
 cases neg with
 | true => rfl
 | false =>
  cases b with
  | nil => rfl
  | cons c r =>
   show strip (c :: r) = _
   rw [strip_cons, if_neg]
   intro e; subst e; exact h rfl
theorem digB_of {l : List UInt8} (h : l.all isD = true) (hne : l ≠ []) : digB l = true := by
 unfold digB
 rw [h]
 cases l with
 | nil => exact absurd rfl hne
 | cons c r => rfl
theorem txtU_form (u : Nat) : txtU u = Lib.decDigits (u / 1000) ++ (if (decide (u % 1000 ≠ 0)) = true then 46 :: (if u % 1000 = 0 then [] else frac (u % 1000)) else []) := by
 unfold txtU
 by_cases h : u % 1000 = 0
 ·rw [if_pos h, if_neg (by simp [h])]
 ·rw [if_neg h, if_pos (by simpa using h), if_neg h]
theorem val_txt (n : Int) : valV (txtV n) = if n.natAbs > 1000000000000 then (0, 11) else (n, 0) := by
 obtain ⟨u, hu⟩ : ∃ u, u = n.natAbs := ⟨_, rfl⟩
 have hw := dd_can (u / 1000)
 obtain ⟨f, hf⟩ : ∃ f, f = if u % 1000 = 0 then [] else frac (u % 1000) := ⟨_, rfl⟩
 have hr2 : u % 1000 < 1000 := Nat.mod_lt _ (by omega)
 have hform := txtU_form u
 rw [← hf] at hform
 have hhead : (txtU u).head? ≠ some 45 := by
  rw [hform]
  cases hd : Lib.decDigits (u / 1000) with
  | nil => exact absurd hd hw.2.1
  | cons c r =>
   have hc : isD c = true := by
    have := hw.1
    rw [hd] at this
    simp only [List.all_cons, Bool.and_eq_true] at this
    exact this.1
   simp only [List.cons_append, List.head?_cons, ne_eq, Option.some.injEq]
   exact (dig_ne hc).2
 have hst : strip (txtV n) = (decide (n < 0), txtU u) := by
  unfold txtV
  rw [← hu]
  have := strip_of (decide (n < 0)) (txtU u) hhead
  simpa using this
 have hcut : cutV (txtU u) = (Lib.decDigits (u / 1000), f, decide (u % 1000 ≠ 0)) := by
  rw [hform]
  exact cutV_of _ _ _ hw.1 (fun h => by rw [hf, if_pos (by simpa using h)])
 have hfr : u % 1000 ≠ 0 → f.all isD = true ∧ f ≠ [] ∧ f.length ≤ 3 ∧ f.getLast? ≠ some 48 := by
  intro h
  rw [hf, if_neg h]
  obtain ⟨q1, q2, q3⟩ := d3_dig hr2
  exact ⟨fr3_dig _ _ _ q1 q2 q3, fr3_ne _ _ _ (d3_zero hr2 h), fr3_len _ _ _, fr3_last _ _ _⟩
 have hbad : badV (decide (n < 0)) (txtU u) (Lib.decDigits (u / 1000)) f (decide (u % 1000 ≠ 0)) = false := by
  unfold badV badP
  rw [digB_of hw.1 hw.2.1]
  have h1 : (decide (1 < (Lib.decDigits (u / 1000)).length) && (Lib.decDigits (u / 1000)).head? == some 48) = false := by
   by_cases q : 1 < (Lib.decDigits (u / 1000)).length
   ·have := hw.2.2 q
    simp [this]
   ·simp [q]
  have h2 : (decide (u % 1000 ≠ 0) && (!digB f || (decide (3 < f.length) || f.getLast? == some 48))) = false := by
   by_cases q : u % 1000 = 0
   ·simp [q]
   ·obtain ⟨a1, a2, a3, a4⟩ := hfr q
    rw [digB_of a1 a2]
    have a3' : decide (3 < f.length) = false := decide_eq_false (by omega)
    rw [a3']
    simp [a4]
  have h3 : (decide (n < 0) && txtU u == [48]) = false := by
   by_cases q : n < 0
   ·have hu0 : u ≠ 0 := by omega
    rw [decide_eq_true q, Bool.true_and]
    refine beq_eq_false_iff_ne.2 fun e => ?_
    rw [hform] at e
    by_cases q2 : u % 1000 = 0
    ·rw [if_neg (by simp [q2]), List.append_nil] at e
     have := dd_head (u := u / 1000) (by omega)
     rw [e] at this
     exact this rfl
    ·rw [if_pos (by simpa using q2)] at e
     have h5 := congrArg List.length e
     have h6 := List.length_pos_iff.2 hw.2.1
     simp at h5
     omega
   ·simp [q]
  rw [h1, h2, h3]; rfl
 unfold valV
 rw [hst]
 simp only
 rw [hcut]
 simp only
 rw [hbad, if_neg (by simp), ← hu]
 unfold valN
 have hnum : num (Lib.decDigits (u / 1000) ++ f ++ zer (3 - f.length)) = u := by
  by_cases q : u % 1000 = 0
  ·rw [hf, if_pos q]
   show num (Lib.decDigits (u / 1000) ++ [] ++ zer 3) = u
   have hz : (0 : Nat) < 1000 := by omega
   have := d3_num hz (Lib.decDigits (u / 1000))
   rw [dd_num] at this
   rw [List.append_nil, show zer 3 = [(d3 0).1, (d3 0).2.1, (d3 0).2.2] from rfl, this]
   omega
  ·rw [hf, if_neg q, List.append_assoc]
   unfold frac
   rw [fr3_pad, d3_num hr2, dd_num]
   omega
 rw [hnum]
 by_cases h10 : (Lib.decDigits (u / 1000)).length > 10
 ·rw [if_pos h10, if_pos]
  have h0 : u / 1000 ≠ 0 := by
   intro e
   rw [e, dd_small (by omega)] at h10
   simp at h10
  have h1 := num_pos hw.1 hw.2.1 (dd_head h0)
  rw [dd_num] at h1
  have h2 : (10 : Nat) ^ 10 ≤ 10 ^ ((Lib.decDigits (u / 1000)).length - 1) := Nat.pow_le_pow_right (by omega) (by omega)
  omega
 ·rw [if_neg h10]
  by_cases hb : u > 1000000000000
  ·rw [if_pos hb, if_pos hb]
  ·rw [if_neg hb, if_neg hb]
   by_cases hn : n < 0
   ·rw [decide_eq_true hn, if_pos rfl]
    congr 1; omega
   ·rw [decide_eq_false hn, if_neg (by simp)]
    congr 1; omega
end Go.Proofs.YtejknolljjpodaaGreatDoor
