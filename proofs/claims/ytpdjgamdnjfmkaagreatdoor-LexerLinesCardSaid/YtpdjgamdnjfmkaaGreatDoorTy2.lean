/-
  To, Tp, Tq, Tr in one text.
-/
import Derived.Test.YtpdjgamdnjfmkaaGreatDoorTx
import Derived.Test.YtpdjgamdnjfmkaaGreatDoorMK
namespace Go.Proofs.YtpdjgamdnjfmkaaGreatDoor
open Go.RowKit
set_option linter.unusedVariables false
set_option linter.unusedSimpArgs false
theorem cutL_at {α : Type} {l : List α} {a n : Nat} (h : a + n ≤ l.length) : cutL l (a : Int) ((a + n : Nat) : Int) = some ((l.drop a).take n) := by
 unfold cutL
 rw [if_neg (by omega)]
 simp only [Int.toNat_natCast]
 rw [show a + n - a = n by omega]
theorem cB (c k : UInt8) : ((c.toNat : Int) == (k.toNat : Int)) = (c == k) := by
 by_cases h : c = k
 ·subst h; simp
 ·have h2 : c.toNat ≠ k.toNat := fun z => h (UInt8.toNat_inj.1 z)
  rw [beq_eq_false_iff_ne.2 h, beq_eq_false_iff_ne.2 (by omega)]
theorem c35 (c : UInt8) : ((c.toNat : Int) == 35) = (c == 35) := cB c 35
theorem c32 (c : UInt8) : ((c.toNat : Int) == 32) = (c == 32) := cB c 32
theorem c45' (c : UInt8) : ((c.toNat : Int) == 45) = (c == 45) := cB c 45
theorem c46' (c : UInt8) : ((c.toNat : Int) == 46) = (c == 46) := cB c 46
theorem c95 (c : UInt8) : ((c.toNat : Int) == 95) = (c == 95) := cB c 95
theorem n35 (c : UInt8) : ((c.toNat : Int) != 35) = (c != 35) := by unfold bne; rw [c35]
theorem dLe (a b : Nat) : decide ((a : Int) ≤ (b : Int)) = decide (a ≤ b) := by simp
def hd0 (s : List UInt8) : UInt8 := s.head?.getD 0
theorem hd0_dig (s : List UInt8) : isD (hd0 s) = !decide (digN s = 0) := by
 unfold hd0 digN
 cases s with
 | nil => rfl
 | cons c r =>
  show isD c = _
  by_cases h : isD c = true
  ·rw [List.takeWhile_cons_of_pos h, h]; simp
  ·rw [List.takeWhile_cons_of_neg h]
   simpa using h
theorem numN_dig {s : List UInt8} : (0 < numN s) ↔ digN (s.drop (sgN s)) ≠ 0 := by
 unfold numN wholeN
 constructor
 ·intro h z; rw [if_pos z] at h; omega
 ·intro h; rw [if_neg h]; omega
theorem run_at {f : Int → Option (Ex Int Int)} {s : List UInt8} {p : UInt8 → Bool} (hf : ∀ v : Nat, v ≤ s.length → f (v : Int) = match s[v]? with
  | some c => if p c = true then some (.go ((v + 1 : Nat) : Int)) else some (.ret (v : Int))
  | none => some (.ret (v : Int))) : ∀ (n a : Nat), a ≤ s.length → s.length - a < n → loopX f n (a : Int) = some ((a + ((s.drop a).takeWhile p).length : Nat) : Int)
 | 0, a, _, h => absurd h (by omega)
 | n + 1, a, ha, h => by
  have e := hf a ha
  unfold loopX
  rw [e]
  cases hs : s[a]? with
  | none =>
   have : s.length ≤ a := List.getElem?_eq_none_iff.1 hs
   rw [List.drop_eq_nil_of_le this]; rfl
  | some c =>
   have hlt := getElem_lt hs
   have hd : s.drop a = c :: s.drop (a + 1) := by
    rw [List.drop_eq_getElem_cons hlt]
    congr 1
    exact Option.some.inj ((List.getElem?_eq_getElem hlt).symm.trans hs)
   dsimp only
   by_cases hp : p c = true
   ·rw [if_pos hp, hd, List.takeWhile_cons_of_pos hp]
    dsimp only
    rw [run_at hf n (a + 1) (by omega) (by omega)]
    simp; omega
   ·rw [if_neg hp, hd, List.takeWhile_cons_of_neg hp]
    rfl
theorem lx_run {cls : Int → Option Bool} {p : UInt8 → Bool} (hc : ∀ c : UInt8, cls (c.toNat : Int) = some (p c)) {s : List UInt8} (hl : s.length ≤ 1000000) {a : Nat} (ha : a ≤ s.length) : loopX (fun (v2 : Int) =>
            bindO (if (decide (v2 < (s.length : Int))) = true then
                  bindO (gt s v2) fun (c2 : UInt8) =>
                  bindO (cls (c2.toNat : Int)) fun (y1 : Bool) =>
                  some y1
                else
                  some false) fun (v3 : Bool) =>
            if v3 = true then
              some (.go (IntKind.i64.wrap (v2 + 1)))
            else
              some (.ret v2)) fuel (a : Int) = some ((a + ((s.drop a).takeWhile p).length : Nat) : Int) := by
  refine run_at (fun v hv => ?_) fuel a ha (by unfold fuel; omega)
  cases hs : s[v]? with
  | none =>
    have := List.getElem?_eq_none_iff.1 hs
    dsimp only
    rw [decide_eq_false (by omega)]
    rfl
  | some c =>
    have hlt := getElem_lt hs
    dsimp only
    rw [decide_eq_true (by omega), gt_k hs]
    simp only [if_true, bindO_s, hc]
    rw [wI64 (by omega) (by omega)]
    rfl
theorem lx_letter_eq (c : UInt8) : lx_letter (c.toNat : Int) = some (isL c) := by
 unfold lx_letter isL
 have h := c.toNat_lt
 congr 1
 rw [show (decide ((97 : Int) ≤ (c.toNat : Int))) = decide (97 ≤ c.toNat) from dLe 97 _, show (decide ((c.toNat : Int) ≤ 122)) = decide (c.toNat ≤ 122) from dLe _ 122, show (decide ((65 : Int) ≤ (c.toNat : Int))) = decide (65 ≤ c.toNat) from dLe 65 _, show (decide ((c.toNat : Int) ≤ 90)) = decide (c.toNat ≤ 90) from dLe _ 90]
 by_cases h1 : 97 ≤ c.toNat
 ·rw [decide_eq_true h1]; simp
 ·rw [decide_eq_false h1]; simp
theorem lx_digit_eq (c : UInt8) : lx_digit (c.toNat : Int) = some (isD c) := by
 unfold lx_digit isD
 rw [show (decide ((48 : Int) ≤ (c.toNat : Int))) = decide (48 ≤ c.toNat) from dLe 48 _, show (decide ((c.toNat : Int) ≤ 57)) = decide (c.toNat ≤ 57) from dLe _ 57]
theorem lx_inName_eq (c : UInt8) : lx_inName (c.toNat : Int) = some (inN c) := by
 unfold lx_inName inN
 rw [lx_letter_eq, lx_digit_eq, c95, c45']
 cases isL c <;> cases isD c <;> cases (c == 95) <;> rfl
theorem lx_peek_eq (s : List UInt8) (a : Nat) : lx_peek s (a : Int) = some ((hd0 (s.drop a)).toNat : Int) := by
 unfold lx_peek hd0
 rw [List.head?_drop]
 cases hs : s[a]? with
 | none =>
  have := List.getElem?_eq_none_iff.1 hs
  rw [decide_eq_false (by omega)]; rfl
 | some c =>
  have hlt := getElem_lt hs
  rw [decide_eq_true (by omega), gt_k hs]; rfl
theorem lx_number_eq {s : List UInt8} (hl : s.length ≤ 1000000) {a : Nat} (ha : a < s.length) (hn : 0 < numN (s.drop a)) : lx_number s (a : Int) = some ((a + numN (s.drop a) : Nat) : Int) := by
 obtain ⟨t, ht⟩ : ∃ t, s.drop a = t := ⟨_, rfl⟩
 have hlt : t.length = s.length - a := by rw [← ht, List.length_drop]
 rw [ht] at hn ⊢
 obtain ⟨c, hs⟩ : ∃ c, s[a]? = some c := ⟨_, List.getElem?_eq_getElem ha⟩
 have hc : t.head? = some c := by rw [← ht, List.head?_drop]; exact hs
 have hw := wholeN_le t
 have hsg := sgN_le t
 have hf := fracN_le t
 have hdg := numN_dig.1 hn
 have hN : numN t = wholeN t + fracN t := by unfold numN; rw [if_neg hdg]
 have e1 : (if ((c.toNat : Int) == 45) = true then some (IntKind.i64.wrap ((a : Int) + 1)) else some (a : Int)) = some ((a + sgN t : Nat) : Int) := by
  rw [c45', wI64 (by omega) (by omega)]
  unfold sgN
  rw [hc]
  by_cases z : c = 45
  ·subst z; rfl
  ·rw [beq_eq_false_iff_ne.2 z, if_neg (by simp [z])]; simp [z]
 unfold lx_number
 rw [gt_k hs, bindO_s, e1, bindO_s, lx_run lx_digit_eq hl (show a + sgN t ≤ s.length by omega), bindO_s, bindO_s]
 have e2 : a + sgN t + ((s.drop (a + sgN t)).takeWhile isD).length = a + wholeN t := by
  rw [← List.drop_drop, ht]
  unfold wholeN digN
  omega
 rw [e2, lx_peek_eq, bindO_s, c46', wI64 (n := ((a + wholeN t : Nat) : Int) + 1) (by omega) (by omega), show ((a + wholeN t : Nat) : Int) + 1 = ((a + wholeN t + 1 : Nat) : Int) by omega, lx_peek_eq, bindO_s, lx_digit_eq, bindO_s, hd0_dig, ← List.drop_drop (i := wholeN t), ht, show a + wholeN t + 1 = a + (wholeN t + 1) by omega, ← List.drop_drop (i := wholeN t + 1), ht]
 have e3 : (hd0 (t.drop (wholeN t)) == 46) = decide ((t.drop (wholeN t)).head? = some 46) := by
  unfold hd0
  cases (t.drop (wholeN t)).head? with
  | none => rfl
  | some d =>
   show (d == 46) = _
   by_cases w : d = 46
   ·subst w; rfl
   ·rw [beq_eq_false_iff_ne.2 w]; simp [w]
 rw [e3, hN]
 unfold fracN
 by_cases z : (t.drop (wholeN t)).head? = some 46
 ·rw [decide_eq_true z, if_pos z]
  by_cases y : digN (t.drop (wholeN t + 1)) = 0
  ·rw [decide_eq_true y, if_pos y]; rfl
  ·have hz := head_lt z
   rw [decide_eq_false y, if_neg y]
   simp only [Bool.not_false, if_true, bindO_s]
   rw [lx_run lx_digit_eq hl (show a + (wholeN t + 1) ≤ s.length by omega), bindO_s, bindO_s, bindO_s, ← List.drop_drop, ht]
   congr 2
   show a + (wholeN t + 1) + digN (t.drop (wholeN t + 1)) = _
   omega
 ·rw [decide_eq_false z, if_neg z]; rfl
theorem sym_at (c : UInt8) : strings_IndexByte [61, 44, 59, 58, 40, 41] (c.toNat : Int) = some (Lib.indexByte [61, 44, 59, 58, 40, 41] c) := by
 unfold strings_IndexByte stringslite_IndexByte
 rw [Int.toNat_natCast, bindO_s]
 congr 2
 simp
theorem sym_ge (c : UInt8) : decide (Lib.indexByte [61, 44, 59, 58, 40, 41] c ≥ 0) = isY c := by
 have h := ixb_count [61, 44, 59, 58, 40, 41] c
 have hg := Lib.indexByte_ge [61, 44, 59, 58, 40, 41] c
 have hy : isY c = true ↔ c ∈ ([61, 44, 59, 58, 40, 41] : List UInt8) := by
  unfold isY; simp [or_assoc]
 by_cases z : c ∈ ([61, 44, 59, 58, 40, 41] : List UInt8)
 ·have := List.count_pos_iff.2 z
  rw [hy.2 z, decide_eq_true]
  omega
 ·have := List.count_eq_zero.2 z
  rw [Bool.eq_false_iff.2 (fun w => z (hy.1 w)), decide_eq_false]
  rw [h.2 this]; omega
def tkX (t : Tk) : LexerToken := LexerToken.mk t.kind t.pos t.text
theorem aft_hd (s : List UInt8) : aft s.head? = (isL (hd0 s) || (hd0 s == 95 || hd0 s == 46)) := by
 unfold hd0 aft
 cases s.head? with
 | none => rfl
 | some d => simp [Bool.or_assoc]
theorem drop_cons {s : List UInt8} {a : Nat} {c : UInt8} (h : s[a]? = some c) : s.drop a = c :: s.drop (a + 1) := by
 have hlt := getElem_lt h
 rw [List.drop_eq_getElem_cons hlt]
 congr 1
 exact Option.some.inj ((List.getElem?_eq_getElem hlt).symm.trans h)
theorem lx_Tokens_eq {s : List UInt8} (hl : s.length ≤ 20000) : lx_Tokens s = some (resT tkX [] (tokL s)) := by
  apply Tot.get
  unfold lx_Tokens
  refine Tot.ite (fun q => absurd q (by simp; omega)) (fun _ => ?_)
  refine Tot.bindX (E := fun out => (out, 0, 0) = resT tkX [] (tokL s)) (TotX.of (Tot.loop (fun m (v : List LexerToken × Int) => ∃ a : Nat, v.2 = (a : Int) ∧ a ≤ s.length ∧ m = s.length - a ∧ v.1.length ≤ a ∧ resT tkX v.1 (toks (s.length - a + 1) (s.drop a) a) = resT tkX [] (tokL s)) _ s.length (by unfold fuel; omega) ⟨0, rfl, Nat.zero_le _, by simp, by simp, rfl⟩ (fun m v hr => ?_))) (fun out h => .ok h)
  obtain ⟨out, at'⟩ := v
  obtain ⟨a, h1, h2, h3, h4, h5⟩ := hr
  dsimp only at h1 h4 h5 ⊢
  subst h1
  cases hs : s[a]? with
  | none =>
    have := List.getElem?_eq_none_iff.1 hs
    rw [decide_eq_false (by omega)]
    refine .ret ?_
    rw [← h5, resT_fin (by rw [List.drop_eq_nil_of_le this]; rfl)]
  | some c =>
    have hlt := getElem_lt hs
    have hd := drop_cons hs
    have hg := gt_k hs
    obtain ⟨t, ht⟩ : ∃ t, s.drop a = t := ⟨_, rfl⟩
    have hst := stepT_cons c (s.drop (a + 1))
    rw [← hd, ht] at hst
    have htl : t.length = s.length - a := by rw [← ht, List.length_drop]
    rw [decide_eq_true (by omega), hg]
    simp only [if_true, bindO_s]
    rw [n35, c32, lx_letter_eq, bindO_s]
    by_cases a1 : c = 35
    · subst a1
      refine .ret ?_
      rw [← h5, resT_fin (by rw [ht, hst]; rfl)]
    rw [if_neg a1] at hst
    have a1' : (c != 35) = true := by simpa using a1
    rw [a1']
    simp only [if_true]
    by_cases a2 : c = 32
    · subst a2
      rw [if_pos rfl] at hst
      simp only [beq_self_eq_true, if_true, bindX_r]
      refine .go ⟨s.length - (a + 1), by omega, a + 1, ?_, by omega, rfl, (show out.length ≤ a + 1 by omega), ?_⟩
      · show IntKind.i64.wrap ((a : Int) + 1) = _
        rw [wI64 (by omega) (by omega)]; omega
      · exact (resT_space (by rw [ht]; exact hst)).symm.trans h5
    rw [if_neg a2] at hst
    rw [beq_eq_false_iff_ne.2 a2]
    simp only [Bool.false_eq_true, if_false]
    -- what a token does
    have fin : ∀ (k n : Nat), stepT t = .one k n → TotX (ε := Ex (List LexerToken × Int × Int) (List LexerToken)) (ν := List LexerToken × Int) (bindO (cutL s (a : Int) ((a + n : Nat) : Int)) fun (s2 : List UInt8) =>
            guardO (okLen (out.length + 1)) (
            some (.go (out ++ [LexerToken.mk (k : Int) (a : Int) s2], ((a + n : Nat) : Int))))) (fun x => match x with | .ret e => e = resT tkX [] (tokL s) | .go v => (v, 0, 0) = resT tkX [] (tokL s)) (fun u => ∃ m', m' < m ∧ ∃ a : Nat, u.2 = (a : Int) ∧ a ≤ s.length ∧ m' = s.length - a ∧ u.1.length ≤ a ∧ resT tkX u.1 (toks (s.length - a + 1) (s.drop a) a) = resT tkX [] (tokL s)) := by
      intro k n hk
      obtain ⟨_, hn1, hn2⟩ := stepT_good hk
      rw [cutL_at (by omega), bindO_s]
      refine .guard (okLen_of (by omega)) (.go ⟨s.length - (a + n), by omega, a + n, rfl, by omega, rfl, by simp; omega, ?_⟩)
      rw [resT_one (k := k) (n := n) (by rw [ht]; exact hk)] at h5
      exact h5
    have bad : ∀ (p e : Nat), stepT t = .bad p e → ([], (a : Int) + p, (e : Int)) = resT tkX [] (tokL s) := by
      intro p e hk
      rw [← h5, resT_bad (by rw [ht]; exact hk)]
    by_cases a3 : isL c = true
    · rw [if_pos a3] at hst
      rw [a3]
      simp only [if_true]
      rw [lx_run lx_inName_eq (by omega) h2, bindO_s, bindO_s, ht]
      have hN : (t.takeWhile inN).length = nameN t := rfl
      have hNl := nameN_le t
      rw [hN, wI64 (by omega) (by omega), show ((a + nameN t : Nat) : Int) - (a : Int) = (nameN t : Int) by omega]
      by_cases a4 : nameN t > 24
      · rw [if_pos a4] at hst
        rw [decide_eq_true (by omega)]
        exact .ret (by simpa using bad _ _ hst)
      · rw [if_neg a4] at hst
        rw [decide_eq_false (by omega)]
        simp only [Bool.false_eq_true, if_false, bindX_g]
        exact (fin 1 (nameN t) hst).mono (fun x h => by cases x <;> exact h) (fun _ h => h)
    rw [if_neg a3] at hst
    rw [Bool.eq_false_iff.2 a3]
    simp only [Bool.false_eq_true, if_false]
    have hv7 : (bindO (bindO (lx_digit (c.toNat : Int)) fun (y3 : Bool) =>
                        if y3 = true then
                          some true
                        else
                          if ((c.toNat : Int) == 45) = true then
                            bindO (lx_peek s (IntKind.i64.wrap ((a : Int) + 1))) fun (y4 : Int) =>
                            bindO (lx_digit y4) fun (y5 : Bool) =>
                            some y5
                          else
                            some false) (fun v => some v)) = some (decide (0 < numN t)) := by
      have hn := @numN_dig t
      rw [lx_digit_eq, bindO_s, c45', wI64 (by omega) (by omega), show (a : Int) + 1 = ((a + 1 : Nat) : Int) by omega, lx_peek_eq, bindO_s, lx_digit_eq, bindO_s, hd0_dig]
      have h45 : c = 45 → sgN t = 1 := by
        rintro rfl
        unfold sgN
        rw [← ht, List.head?_drop, hs, if_pos rfl]
      have h45n : c ≠ 45 → sgN t = 0 := by
        intro z
        unfold sgN
        rw [← ht, List.head?_drop, hs, if_neg (by simp [z])]
      have hdc : isD c = !decide (digN t = 0) := by
        rw [← hd0_dig]
        unfold hd0
        rw [← ht, List.head?_drop, hs]; rfl
      by_cases z : c = 45
      · rw [h45 z] at hn
        have : isD c = false := by rw [z]; rfl
        rw [this, beq_iff_eq.2 z]
        rw [← List.drop_drop, ht]
        simp only [Bool.false_eq_true, if_false, if_true, bindO_s]
        congr 1
        by_cases y : digN (t.drop 1) = 0
        · rw [decide_eq_true y, decide_eq_false (fun w => hn.1 w y)]; rfl
        · rw [decide_eq_false y, decide_eq_true (hn.2 y)]; rfl
      · rw [h45n z, List.drop_zero] at hn
        rw [hdc, beq_eq_false_iff_ne.2 z]
        by_cases y : digN t = 0
        · rw [decide_eq_true y, decide_eq_false (fun w => hn.1 w y)]; rfl
        · rw [decide_eq_false y, decide_eq_true (hn.2 y)]; rfl
    have hv7' : (bindO (lx_digit (c.toNat : Int)) fun (y3 : Bool) =>
                        if y3 = true then
                          some true
                        else
                          if ((c.toNat : Int) == 45) = true then
                            bindO (lx_peek s (IntKind.i64.wrap ((a : Int) + 1))) fun (y4 : Int) =>
                            bindO (lx_digit y4) fun (y5 : Bool) =>
                            some y5
                          else
                            some false) = some (decide (0 < numN t)) := by
      revert hv7
      generalize (bindO (lx_digit (c.toNat : Int)) _) = o
      intro hv7
      cases o with
      | none => cases hv7
      | some x => exact hv7
    rw [hv7', bindO_s]
    by_cases a4 : numN t > 0
    · rw [if_pos a4] at hst
      rw [decide_eq_true a4]
      simp only [if_true]
      have hNl := numN_le t
      rw [lx_number_eq (by omega) hlt (by rw [ht]; exact a4), bindO_s, ht, cutL_at (by omega), bindO_s, ht, dc_Parse_all (by rw [List.length_take]; omega), bindO_s]
      by_cases a5 : prsB (t.take (numN t)) = true
      · rw [if_pos a5] at hst
        rw [if_pos a5]
        have : ((((ofQ (prsQ (t.take (numN t)))), (0 : Int)) : ApiRat × Int).2 != 0) = false := rfl
        rw [this]
        simp only [Bool.false_eq_true, if_false]
        rw [lx_peek_eq, bindO_s, lx_letter_eq, bindO_s, c95, c46']
        rw [aft_hd, ← ht, List.drop_drop, ht] at hst
        have e : (bindO (if isL (hd0 (s.drop (a + numN t))) = true then
                              some true
                            else
                              if (hd0 (s.drop (a + numN t)) == 95) = true then
                                some true
                              else
                                some (hd0 (s.drop (a + numN t)) == 46)) fun (v8 : Bool) => some v8) = some (isL (hd0 (s.drop (a + numN t))) || (hd0 (s.drop (a + numN t)) == 95 || hd0 (s.drop (a + numN t)) == 46)) := by
          cases isL (hd0 (s.drop (a + numN t))) <;> cases (hd0 (s.drop (a + numN t)) == 95) <;> rfl
        by_cases a6 : (isL (hd0 (s.drop (a + numN t))) || (hd0 (s.drop (a + numN t)) == 95 || hd0 (s.drop (a + numN t)) == 46)) = true
        · rw [if_pos a6] at hst
          refine TotX.bindX (E := fun _ => False) (TotX.bind (E := fun v => v = true) ?_ (fun v hv => ?_)) (fun x hx => hx.elim)
          · generalize isL (hd0 (s.drop (a + numN t))) = b1 at *
            generalize (hd0 (s.drop (a + numN t)) == 95) = b2 at *
            cases b1 with
            | true => exact .ok rfl
            | false =>
              cases b2 with
              | true => exact .ok rfl
              | false => exact .ok a6
          · subst hv
            exact .ret (by simpa using bad _ _ hst)
        · rw [if_neg a6] at hst
          refine TotX.bindX (E := fun v => v = (((a + numN t : Nat) : Int), (2 : Int))) (TotX.bind (E := fun v => v = false) ?_ (fun v hv => ?_)) (fun x hx => ?_)
          · generalize isL (hd0 (s.drop (a + numN t))) = b1 at *
            generalize (hd0 (s.drop (a + numN t)) == 95) = b2 at *
            cases b1 with
            | true => exact absurd rfl a6
            | false =>
              cases b2 with
              | true => exact absurd rfl a6
              | false => exact .ok (Bool.eq_false_iff.2 a6)
          · subst hv
            exact .go rfl
          · subst hx
            exact (fin 2 (numN t) hst).mono (fun x h => by cases x <;> exact h) (fun _ h => h)
      · rw [if_neg a5] at hst
        rw [if_neg a5]
        exact .ret (by simpa using bad _ _ hst)
    rw [if_neg a4] at hst
    rw [decide_eq_false a4]
    simp only [Bool.false_eq_true, if_false]
    rw [sym_at, bindO_s, sym_ge, wI64 (by omega) (by omega)]
    by_cases a5 : isY c = true
    · rw [if_pos a5] at hst
      rw [a5]
      simp only [if_true, bindX_g]
      exact (fin 3 1 hst).mono (fun x h => by cases x <;> exact h) (fun _ h => h)
    · rw [if_neg a5] at hst
      rw [Bool.eq_false_iff.2 a5]
      exact .ret (by simpa using bad _ _ hst)
end Go.Proofs.YtpdjgamdnjfmkaaGreatDoor
namespace Go.Proofs.YtpdjgamdnjfmkaaGreatDoor
open Go.RowKit
set_option linter.unusedVariables false
set_option linter.unusedSimpArgs false
theorem awake21 : l21_awake = some true := by kernel_rfl
theorem foldl_snoc {α β : Type} (f : α → β) : ∀ (l : List α) (a : List β), l.foldl (fun v x => v ++ [f x]) a = a ++ l.map f
 | [], a => by simp
 | x :: l, a => by
  rw [List.foldl_cons, foldl_snoc f l]; simp
def ownT (e : LexerToken) : R21Token := R21Token.mk e.Kind e.Pos e.Text
def tkR (t : Tk) : R21Token := R21Token.mk t.kind t.pos t.text
theorem l21_own_eq {l : List LexerToken} (hl : l.length ≤ 16777215) : l21_own l = some (l.map ownT) := by
 unfold l21_own
 rw [okIdx_of (by omega), guardO_t]
 rw [range_fold (L := l) (fun v (e : LexerToken) => v ++ [ownT e]) (fun i v => v.length = i) (fun i x v hx hr => ⟨?_, by simp [hr]⟩) l 0 [] rfl rfl, foldl_snoc]
 ·rfl
 ·have := getElem_lt hx
  rw [okLen_of (by omega)]; rfl
theorem r21_Same_refl {l : List R21Token} (hl : l.length ≤ 16777215) : r21_Same l l = some true := by
 apply Tot.get
 unfold r21_Same
 refine Tot.ite (fun q => by simp at q) (fun _ => ?_)
 refine Tot.bindX (E := fun _ => True) (TotX.of (Tot.guard (okIdx_of (by omega)) (Tot.range (fun _ _ => True) _ trivial (fun i e v hx _ => ?_) (fun v _ => .ok trivial)))) (fun _ _ => .ok rfl)
 rw [gt_k hx, bindO_s]
 refine TotX.ite (fun q => by simp at q) (fun _ => .go trivial)
theorem toks_len : ∀ (f : Nat) (s : List UInt8) (a : Nat), (toks f s a).l.length ≤ s.length
 | 0, _, _ => Nat.zero_le _
 | f + 1, s, a => by
  cases hs : stepT s with
  | fin => rw [toks_fin hs]; exact Nat.zero_le _
  | bad p e => rw [toks_bad hs]; exact Nat.zero_le _
  | space =>
   obtain ⟨r, rfl⟩ := stepT_space hs
   rw [toks_space hs]
   have := toks_len f r (a + 1)
   simp only [List.drop_succ_cons, List.drop_zero, List.length_cons]
   omega
  | one k n =>
   obtain ⟨_, hn, hn2⟩ := stepT_good hs
   have := toks_len f (s.drop n) (a + n)
   rw [List.length_drop] at this
   rw [toks_one hs]
   split
   ·simp only [List.length_cons]; omega
   ·omega
theorem tokL_len (s : List UInt8) : (tokL s).l.length ≤ s.length := toks_len _ _ _
theorem own_tkX (l : List Tk) : (l.map tkX).map ownT = l.map tkR := by
 rw [List.map_map]; rfl
theorem r21_letter_eq (c : UInt8) : r21_letter (c.toNat : Int) = some (isL c) := lx_letter_eq c
theorem r21_digit_eq (c : UInt8) : r21_digit (c.toNat : Int) = some (isD c) := lx_digit_eq c
theorem r21_name_eq {s : List UInt8} (hl : s.length ≤ 1000000) : r21_name s = some (nameN s : Int) := by
  unfold r21_name
  have := run_at (f := (fun (v1 : Int) =>
        bindO (if (decide (v1 < (s.length : Int))) = true then
              bindO (gt s v1) fun (c1 : UInt8) =>
              bindO (r21_letter (c1.toNat : Int)) fun (y1 : Bool) =>
              if y1 = true then
                some true
              else
                bindO (r21_digit (c1.toNat : Int)) fun (y2 : Bool) =>
                if y2 = true then
                  some true
                else
                  if ((c1.toNat : Int) == 95) = true then
                    some true
                  else
                    some ((c1.toNat : Int) == 45)
            else
              some false) fun (v2 : Bool) =>
        if v2 = true then
          some (.go (IntKind.i64.wrap (v1 + 1)))
        else
          some (.ret v1))) (s := s) (p := inN) (fun v hv => by
      cases hs : s[v]? with
      | none =>
        have := List.getElem?_eq_none_iff.1 hs
        dsimp only
        rw [decide_eq_false (by omega)]
        rfl
      | some c =>
        have hlt := getElem_lt hs
        dsimp only
        rw [decide_eq_true (by omega), gt_k hs]
        simp only [if_true, bindO_s]
        rw [r21_letter_eq, r21_digit_eq, c95, c45', wI64 (by omega) (by omega)]
        unfold inN
        cases isL c <;> cases isD c <;> cases (c == 95) <;> rfl) fuel 0 (Nat.zero_le _) (by unfold fuel; omega)
  rw [show (0 : Int) = ((0 : Nat) : Int) from rfl, this, bindO_s, List.drop_zero, Nat.zero_add]
  rfl
end Go.Proofs.YtpdjgamdnjfmkaaGreatDoor
namespace Go.Proofs.YtpdjgamdnjfmkaaGreatDoor
open Go.RowKit
set_option linter.unusedVariables false
set_option linter.unusedSimpArgs false
theorem cutF_at {α : Type} {l : List α} {a : Nat} (h : a ≤ l.length) : cutF l (a : Int) = some (l.drop a) := by
 unfold cutF
 rw [if_neg (by omega), Int.toNat_natCast]
theorem cutT_at {α : Type} {l : List α} {a : Nat} (h : a ≤ l.length) : cutT l (a : Int) = some (l.take a) := by
 unfold cutT
 rw [if_neg (by omega), Int.toNat_natCast]
theorem r21_digits_eq {s : List UInt8} (hl : s.length ≤ 1000000) : r21_digits s = some (digN s : Int) := by
 unfold r21_digits
 rw [show (0 : Int) = ((0 : Nat) : Int) from rfl, lx_run r21_digit_eq hl (Nat.zero_le _), bindO_s, List.drop_zero, Nat.zero_add]
 rfl
theorem r21_number_eq {s : List UInt8} (hl : s.length ≤ 1000000) : r21_number s = some (numN s : Int) := by
  have hw := wholeN_le s
  have hsg := sgN_le s
  have hf := fracN_le s
  have e1 : (bindO (if (decide ((s.length : Int) > 0)) = true then
        bindO (gt s 0) fun (c1 : UInt8) =>
        some ((c1.toNat : Int) == 45)
      else
        some false) fun (v1 : Bool) =>
  bindO (if v1 = true then
        some 1
      else
        some 0) fun (v2 : Int) => some v2) = some (sgN s : Int) := by
    cases s with
    | nil => rfl
    | cons c r =>
      have e0 : gt (c :: r) 0 = some c := rfl
      rw [e0, decide_eq_true (show ((c :: r).length : Int) > 0 by simp)]
      simp only [if_true, bindO_s]
      rw [c45']
      unfold sgN
      by_cases z : c = 45
      · subst z; rfl
      · rw [beq_eq_false_iff_ne.2 z]; simp [z]
  have e2 : ∀ f : Int → Option Int, (bindO (if (decide ((s.length : Int) > 0)) = true then
        bindO (gt s 0) fun (c1 : UInt8) =>
        some ((c1.toNat : Int) == 45)
      else
        some false) fun (v1 : Bool) =>
  bindO (if v1 = true then
        some 1
      else
        some 0) f) = f (sgN s : Int) := by
    intro f
    revert e1
    cases (if (decide ((s.length : Int) > 0)) = true then
        bindO (gt s 0) fun (c1 : UInt8) =>
        some ((c1.toNat : Int) == 45)
      else
        some false) with
    | none => intro e1; cases e1
    | some b =>
      intro e1
      rw [bindO_s] at e1 ⊢
      cases b with
      | true =>
        simp only [if_true, bindO_s] at e1 ⊢
        injection e1 with e1
        rw [e1]
      | false =>
        simp only [Bool.false_eq_true, if_false, bindO_s] at e1 ⊢
        injection e1 with e1
        rw [e1]
  unfold r21_number
  rw [e2, cutF_at hsg, bindO_s, r21_digits_eq (by rw [List.length_drop]; omega), bindO_s]
  have hN : numN s = if digN (s.drop (sgN s)) = 0 then 0 else wholeN s + fracN s := rfl
  rw [hN]
  by_cases h : digN (s.drop (sgN s)) = 0
  · rw [h, if_pos rfl]; rfl
  · rw [if_neg h, beq_eq_false_iff_ne.2 (show ((digN (s.drop (sgN s)) : Nat) : Int) ≠ 0 by omega)]
    have hwd : wholeN s = sgN s + digN (s.drop (sgN s)) := rfl
    simp only [Bool.false_eq_true, if_false]
    have e3 : IntKind.i64.wrap (((digN (s.drop (sgN s)) : Nat) : Int) + (sgN s : Int)) = (wholeN s : Int) := by
      rw [wI64 (by omega) (by omega)]; omega
    rw [e3, wI64 (n := (wholeN s : Int) + 1) (by omega) (by omega), show (wholeN s : Int) + 1 = ((wholeN s + 1 : Nat) : Int) by omega]
    have hh : (s.drop (wholeN s)).head? = s[wholeN s]? := List.head?_drop
    have hd2 : isD (hd0 (s.drop (wholeN s + 1))) = !decide (digN (s.drop (wholeN s + 1)) = 0) := hd0_dig _
    have hf0 : fracN s = if s[wholeN s]? = some 46 then (if digN (s.drop (wholeN s + 1)) = 0 then 0 else 1 + digN (s.drop (wholeN s + 1))) else 0 := by
      unfold fracN
      rw [hh]
    rw [hf0]
    by_cases z : wholeN s + 1 < s.length
    · obtain ⟨c, hc⟩ : ∃ c, s[wholeN s]? = some c := ⟨_, List.getElem?_eq_getElem (by omega)⟩
      obtain ⟨d, hd⟩ : ∃ d, s[wholeN s + 1]? = some d := ⟨_, List.getElem?_eq_getElem z⟩
      have hdd : hd0 (s.drop (wholeN s + 1)) = d := by unfold hd0; rw [List.head?_drop, hd]; rfl
      rw [hdd] at hd2
      rw [decide_eq_true (show ((wholeN s + 1 : Nat) : Int) < (s.length : Int) by omega), gt_k hc, gt_k hd]
      simp only [if_true, bindO_s]
      rw [c46', r21_digit_eq, bindO_s, hd2, hc]
      by_cases y : c = 46
      · subst y
        rw [if_pos rfl]
        by_cases x : digN (s.drop (wholeN s + 1)) = 0
        · rw [decide_eq_true x, if_pos x]; rfl
        · rw [decide_eq_false x, if_neg x]
          simp only [beq_self_eq_true, Bool.not_false, if_true, bindO_s]
          rw [cutF_at (by omega), bindO_s, r21_digits_eq (by rw [List.length_drop]; omega), bindO_s]
          have := digN_le (s.drop (wholeN s + 1))
          rw [List.length_drop] at this
          rw [wI64 (by omega) (by omega), bindO_s]
          congr 1
          omega
      · rw [beq_eq_false_iff_ne.2 y]; simp [y]
    · have hx : digN (s.drop (wholeN s + 1)) = 0 := by
        rw [List.drop_eq_nil_of_le (by omega)]; rfl
      rw [decide_eq_false (show ¬ ((wholeN s + 1 : Nat) : Int) < (s.length : Int) by omega), if_pos hx]
      simp
theorem r21_symbol_eq (c : UInt8) : r21_symbol (c.toNat : Int) = some (isY c) := by
 unfold r21_symbol isY
 rw [show ((c.toNat : Int) == 61) = (c == 61) from cB c 61, show ((c.toNat : Int) == 44) = (c == 44) from cB c 44, show ((c.toNat : Int) == 59) = (c == 59) from cB c 59, show ((c.toNat : Int) == 58) = (c == 58) from cB c 58, show ((c.toNat : Int) == 40) = (c == 40) from cB c 40, show ((c.toNat : Int) == 41) = (c == 41) from cB c 41]
 simp [Bool.or_assoc]
theorem r21_Tokens_eq {s : List UInt8} (hl : s.length ≤ 20000) : r21_Tokens s = some (resT tkR [] (tokL s)) := by
  apply Tot.get
  unfold r21_Tokens
  refine Tot.ite (fun q => absurd q (by simp; omega)) (fun _ => ?_)
  refine Tot.bindX (E := fun out => (out, 0, 0) = resT tkR [] (tokL s)) (TotX.of (Tot.loop (fun m (v : List R21Token × Int) => ∃ a : Nat, v.2 = (a : Int) ∧ a ≤ s.length ∧ m = s.length - a ∧ v.1.length ≤ a ∧ resT tkR v.1 (toks (s.length - a + 1) (s.drop a) a) = resT tkR [] (tokL s)) _ s.length (by unfold fuel; omega) ⟨0, rfl, Nat.zero_le _, by simp, by simp, rfl⟩ (fun m v hr => ?_))) (fun out h => .ok h)
  obtain ⟨out, at'⟩ := v
  obtain ⟨a, h1, h2, h3, h4, h5⟩ := hr
  dsimp only at h1 h4 h5 ⊢
  subst h1
  cases hs : s[a]? with
  | none =>
    have := List.getElem?_eq_none_iff.1 hs
    rw [decide_eq_false (by omega)]
    refine .ret ?_
    rw [← h5, resT_fin (by rw [List.drop_eq_nil_of_le this]; rfl)]
  | some c =>
    have hlt := getElem_lt hs
    have hd := drop_cons hs
    have hg := gt_k hs
    obtain ⟨t, ht⟩ : ∃ t, s.drop a = t := ⟨_, rfl⟩
    have hst := stepT_cons c (s.drop (a + 1))
    rw [← hd, ht] at hst
    have htl : t.length = s.length - a := by rw [← ht, List.length_drop]
    rw [decide_eq_true (by omega), hg]
    simp only [if_true, bindO_s]
    rw [n35]
    by_cases a1 : c = 35
    · subst a1
      refine .ret ?_
      rw [← h5, resT_fin (by rw [ht, hst]; rfl)]
    rw [if_neg a1] at hst
    have a1' : (c != 35) = true := by simpa using a1
    rw [a1']
    simp only [if_true]
    rw [cutF_at (by omega), bindO_s, ht, c32, r21_letter_eq, bindO_s]
    by_cases a2 : c = 32
    · subst a2
      rw [if_pos rfl] at hst
      simp only [beq_self_eq_true, if_true, bindX_g]
      refine .go ⟨s.length - (a + 1), by omega, a + 1, ?_, by omega, rfl, (show out.length ≤ a + 1 by omega), ?_⟩
      · show IntKind.i64.wrap ((a : Int) + 1) = _
        rw [wI64 (by omega) (by omega)]; omega
      · exact (resT_space (by rw [ht]; exact hst)).symm.trans h5
    rw [if_neg a2] at hst
    rw [beq_eq_false_iff_ne.2 a2]
    simp only [Bool.false_eq_true, if_false]
    -- what a token does
    have fin : ∀ (k n : Nat), stepT t = .one k n → ∃ m', m' < m ∧ ∃ b : Nat, IntKind.i64.wrap ((a : Int) + (n : Int)) = (b : Int) ∧ b ≤ s.length ∧ m' = s.length - b ∧ (out ++ [R21Token.mk (k : Int) (a : Int) (t.take n)]).length ≤ b ∧ resT tkR (out ++ [R21Token.mk (k : Int) (a : Int) (t.take n)]) (toks (s.length - b + 1) (s.drop b) b) = resT tkR [] (tokL s) := by
      intro k n hk
      obtain ⟨_, hn1, hn2⟩ := stepT_good hk
      rw [resT_one (k := k) (n := n) (by rw [ht]; exact hk), ht] at h5
      refine ⟨s.length - (a + n), by omega, a + n, ?_, by omega, rfl, by simp; omega, h5⟩
      rw [wI64 (by omega) (by omega)]; omega
    have bad : ∀ (p e : Nat), stepT t = .bad p e → ([], (a : Int) + p, (e : Int)) = resT tkR [] (tokL s) := by
      intro p e hk
      rw [← h5, resT_bad (by rw [ht]; exact hk)]
    by_cases a3 : isL c = true
    · rw [if_pos a3] at hst
      rw [a3]
      simp only [if_true]
      have hNl := nameN_le t
      rw [r21_name_eq (by omega), bindO_s]
      by_cases a4 : nameN t > 24
      · rw [if_pos a4] at hst
        rw [decide_eq_true (by omega)]
        exact .ret (by simpa using bad _ _ hst)
      · rw [if_neg a4] at hst
        rw [decide_eq_false (by omega)]
        simp only [Bool.false_eq_true, if_false]
        rw [cutT_at hNl, bindO_s, okLen_of (by omega), guardO_t, bindX_g]
        exact .go (fin 1 (nameN t) hst)
    rw [if_neg a3] at hst
    rw [Bool.eq_false_iff.2 a3]
    simp only [Bool.false_eq_true, if_false]
    rw [r21_number_eq (by omega), bindO_s]
    have hNl := numN_le t
    by_cases a4 : numN t > 0
    · rw [if_pos a4] at hst
      rw [decide_eq_true (show ((numN t : Nat) : Int) > 0 by omega)]
      simp only [if_true, bindO_s]
      rw [cutT_at hNl, bindO_s, r06_Parse_all (by rw [List.length_take]; omega), bindO_s]
      by_cases a5 : prsB (t.take (numN t)) = true
      · rw [if_pos a5] at hst
        rw [if_pos a5]
        have : ((((ofQ (prsQ (t.take (numN t)))), (0 : Int)) : ApiRat × Int).2 != 0) = false := rfl
        rw [this]
        simp only [Bool.false_eq_true, if_false]
        have e : (if (decide (((numN t : Nat) : Int) < (t.length : Int))) = true then
                              bindO (gt t ((numN t : Nat) : Int)) fun (c3 : UInt8) =>
                              bindO (r21_letter (c3.toNat : Int)) fun (y6 : Bool) =>
                              if y6 = true then
                                some true
                              else
                                if ((c3.toNat : Int) == 95) = true then
                                  some true
                                else
                                  some ((c3.toNat : Int) == 46)
                            else
                              some false) = some (aft (t.drop (numN t)).head?) := by
          rw [List.head?_drop]
          cases hq : t[numN t]? with
          | none =>
            have := List.getElem?_eq_none_iff.1 hq
            rw [decide_eq_false (by omega)]; rfl
          | some d =>
            have := getElem_lt hq
            rw [decide_eq_true (by omega), gt_k hq]
            simp only [if_true, bindO_s]
            rw [r21_letter_eq, bindO_s, c95, c46']
            show _ = some (isL d || d == 95 || d == 46)
            cases isL d <;> cases (d == 95) <;> rfl
        rw [e, bindO_s]
        by_cases a6 : aft (t.drop (numN t)).head? = true
        · rw [if_pos a6] at hst
          rw [a6, wI64 (n := (a : Int) + ((numN t : Nat) : Int)) (by omega) (by omega)]
          exact .ret (by simpa using bad _ _ hst)
        · rw [if_neg a6] at hst
          rw [Bool.eq_false_iff.2 a6]
          simp only [Bool.false_eq_true, if_false]
          rw [okLen_of (by omega), guardO_t, bindX_g]
          exact .go (fin 2 (numN t) hst)
      · rw [if_neg a5] at hst
        rw [if_neg a5]
        exact .ret (by simpa using bad _ _ hst)
    rw [if_neg a4] at hst
    rw [decide_eq_false (show ¬ ((numN t : Nat) : Int) > 0 by omega)]
    simp only [Bool.false_eq_true, if_false]
    rw [r21_symbol_eq, bindO_s]
    by_cases a5 : isY c = true
    · rw [if_pos a5] at hst
      rw [a5]
      simp only [if_true]
      rw [show (1 : Int) = ((1 : Nat) : Int) from rfl, cutT_at (by omega), bindO_s, okLen_of (by omega), guardO_t, bindX_g]
      exact .go (fin 3 1 hst)
    · rw [if_neg a5] at hst
      rw [Bool.eq_false_iff.2 a5]
      exact .ret (by simpa using bad _ _ hst)
end Go.Proofs.YtpdjgamdnjfmkaaGreatDoor
namespace Go.Proofs.YtpdjgamdnjfmkaaGreatDoor
open Go.RowKit
set_option linter.unusedVariables false
set_option linter.unusedSimpArgs false
theorem pcs_len : ∀ s : List UInt8, (pcs s).length ≤ s.length + 1
 | [] => Nat.le_refl _
 | c :: r => by
  have := pcs_len r
  rw [pcs_cons]
  split
  ·simp; omega
  ·split
   ·simp
   ·rename_i p ps h
    rw [h] at this
    simp at this ⊢; omega
theorem pcs_mem : ∀ {s p : List UInt8}, p ∈ pcs s → p.length ≤ s.length
 | [], p, h => by
  have : p = [] := by simpa [pcs] using h
  rw [this]; exact Nat.le_refl _
 | c :: r, p, h => by
  rw [pcs_cons] at h
  split at h
  ·rcases List.mem_cons.1 h with e | e
   ·rw [e]; exact Nat.zero_le _
   ·have := pcs_mem e; simp; omega
  ·split at h
   ·have : p = [c] := by simpa using h
    rw [this]; simp
   ·rename_i q qs hq
    rcases List.mem_cons.1 h with e | e
    ·have := pcs_mem (s := r) (p := q) (by rw [hq]; simp)
     rw [e]; simp; omega
    ·have := pcs_mem (s := r) (p := p) (by rw [hq]; simp [e])
     simp; omega
def lnX (x : LnT) : LexerLine := LexerLine.mk x.num (x.l.map tkX)
def lnR (x : LnT) : R21Line := R21Line.mk x.num (x.l.map tkR)
theorem drop_at' {α : Type} {l : List α} {i : Nat} {x : α} (h : l[i]? = some x) : l.drop i = x :: l.drop (i + 1) := by
 have hlt := getElem_lt h
 rw [List.drop_eq_getElem_cons hlt]
 congr 1
 exact Option.some.inj ((List.getElem?_eq_getElem hlt).symm.trans h)
theorem resT_ok {T : Type} {f : Tk → T} {S : TS} (h : S.e = 0) : resT f [] S = (S.l.map f, 0, 0) := by unfold resT; rw [if_pos h]; rfl
theorem resT_no {T : Type} {f : Tk → T} {S : TS} (h : S.e ≠ 0) : resT f [] S = ([], (S.pos : Int), (S.e : Int)) := by unfold resT; rw [if_neg h]
theorem lx_Lines_eq {s : List UInt8} (hl : s.length ≤ 20000) : lx_Lines s = some (resL lnX [] (lnsT (pcs s) 1)) := by
 have hpl := pcs_len s
 have hsp : strings_Split s [10] = some (pcs s) := by
  show guardO (decide (s.length ≤ 16777216)) (some (Lib.split s [10])) = _
  rw [decide_eq_true (by omega), split_pcs]; rfl
 apply Tot.get
 unfold lx_Lines
 refine Tot.ite (fun q => absurd q (by simp; omega)) (fun _ => ?_)
 rw [hsp, bindO_s]
 refine Tot.bindX (E := fun out => (out, 0, 0) = resL lnX [] (lnsT (pcs s) 1)) (TotX.of (Tot.guard (okIdx_of (by omega)) (Tot.range (fun i (v : List LexerLine) => v.length ≤ i ∧ resL lnX v (lnsT ((pcs s).drop i) (i + 1)) = resL lnX [] (lnsT (pcs s) 1)) _ ⟨by simp, rfl⟩ (fun i p v hx hr => ?_) (fun v hr => .ok ?_)))) (fun out h => .ok h)
 ·obtain ⟨h1, h2⟩ := hr
  have hil := getElem_lt hx
  have hp := pcs_mem (List.mem_of_getElem? hx)
  rw [drop_at' hx] at h2
  rw [lx_Tokens_eq (by omega), bindO_s]
  by_cases h : (tokL p).e = 0
  ·rw [resT_ok h, resL_go h] at *
   rw [if_neg (by simp)]
   by_cases z : (tokL p).l = []
   ·rw [if_pos z] at h2
    rw [z, decide_eq_false (by simp)]
    exact .go ⟨by omega, h2⟩
   ·rw [if_neg z] at h2
    have : 0 < (tokL p).l.length := List.length_pos_iff.2 z
    rw [decide_eq_true (by simp; omega), if_pos rfl, okLen_of (by omega), guardO_t, bindX_g, wI64 (by omega) (by omega)]
    exact .go ⟨by simp; omega, h2⟩
  ·rw [resT_no h]
   rw [resL_bad h] at h2
   rw [if_pos (by simpa using h), wI64 (by omega) (by omega)]
   refine .ret ?_
   rw [← h2]; rfl
 ·obtain ⟨h1, h2⟩ := hr
  rw [List.drop_length] at h2
  rw [← h2]
  exact resL_nil.symm
theorem r21_Lines_eq {s : List UInt8} (hl : s.length ≤ 20000) : r21_Lines s = some (resL lnR [] (lnsT (pcs s) 1)) := by
  apply Tot.get
  unfold r21_Lines
  refine Tot.ite (fun q => absurd q (by simp; omega)) (fun _ => ?_)
  refine Tot.bindX (E := fun out => (out, 0, 0) = resL lnR [] (lnsT (pcs s) 1)) (TotX.of (Tot.loop (fun m (v : List R21Line × Int × Int × Int) => ∃ fr n i : Nat, v.2 = ((fr : Int), (n : Int), (i : Int)) ∧ m = s.length + 1 - i ∧ v.1.length ≤ i ∧ n ≤ i + 1 ∧ ((i ≤ s.length ∧ fr ≤ i ∧ (∀ c ∈ (s.drop fr).take (i - fr), c ≠ 10) ∧ resL lnR v.1 (lnsT (pcs (s.drop fr)) n) = resL lnR [] (lnsT (pcs s) 1)) ∨ (i = s.length + 1 ∧ (v.1, 0, 0) = resL lnR [] (lnsT (pcs s) 1)))) _ (s.length + 1) (by unfold fuel; omega) ⟨0, 1, 0, rfl, rfl, Nat.zero_le _, by omega, .inl ⟨Nat.zero_le _, Nat.zero_le _, by simp, by simp⟩⟩ (fun m v hr => ?_))) (fun out h => .ok h)
  obtain ⟨out, rest⟩ := v
  obtain ⟨fr, n, i, h1, h2, h3, h4, h5⟩ := hr
  dsimp only at h1 h3 h5 ⊢
  subst h1
  dsimp only
  rcases h5 with ⟨i1, i2, i3, i4⟩ | ⟨i1, i2⟩
  · rw [decide_eq_true (show (i : Int) ≤ (s.length : Int) by omega), wI64 (n := (i : Int) + 1) (by omega) (by omega)]
    simp only [if_true]
    by_cases hgo : ∃ c, s[i]? = some c ∧ c ≠ 10
    · obtain ⟨c, c1, c2⟩ := hgo
      have hlt := getElem_lt c1
      rw [decide_eq_true (show (i : Int) < (s.length : Int) by omega), gt_k c1]
      simp only [if_true, bindO_s]
      have c2' : ((c.toNat : Int) != 10) = true := by unfold bne; rw [show ((c.toNat : Int) == 10) = (c == 10) from cB c 10, beq_eq_false_iff_ne.2 c2]; rfl
      rw [c2', if_pos rfl, bindX_g]
      refine .go ⟨m - 1, by omega, fr, n, i + 1, rfl, by omega, (show out.length ≤ i + 1 by omega), by omega, .inl ⟨by omega, by omega, ?_, i4⟩⟩
      intro x hx
      have e : i + 1 - fr = (i - fr) + 1 := by omega
      rw [e, List.take_add_one, List.getElem?_drop, show fr + (i - fr) = i by omega, c1] at hx
      rcases List.mem_append.1 hx with y | y
      · exact i3 x y
      · have : x = c := by simpa using y
        rw [this]; exact c2
    · -- a line ends here
      have hv2 : (if (decide ((i : Int) < (s.length : Int))) = true then
                      bindO (gt s (i : Int)) fun (c1 : UInt8) =>
                      some ((c1.toNat : Int) != 10)
                    else
                      some false) = some false := by
        cases hs : s[i]? with
        | none =>
          have := List.getElem?_eq_none_iff.1 hs
          rw [decide_eq_false (by omega)]; rfl
        | some c =>
          have hlt := getElem_lt hs
          have hc : c = 10 := Classical.byContradiction fun z => hgo ⟨c, hs, z⟩
          rw [decide_eq_true (by omega), gt_k hs, hc]; rfl
      have hp : ∃ p : List UInt8, p = (s.drop fr).take (i - fr) ∧ cutL s (fr : Int) (i : Int) = some p ∧ p.length ≤ s.length ∧ ((i = s.length ∧ pcs (s.drop fr) = [p]) ∨ (i < s.length ∧ pcs (s.drop fr) = p :: pcs (s.drop (i + 1)))) := by
        refine ⟨_, rfl, ?_, ?_, ?_⟩
        · have := cutL_at (l := s) (a := fr) (n := i - fr) (by omega)
          rw [show fr + (i - fr) = i by omega] at this
          exact this
        · rw [List.length_take, List.length_drop]; omega
        · cases hs : s[i]? with
          | none =>
            have := List.getElem?_eq_none_iff.1 hs
            left
            refine ⟨by omega, ?_⟩
            have e : (s.drop fr).take (i - fr) = s.drop fr := List.take_of_length_le (by rw [List.length_drop]; omega)
            rw [e] at i3 ⊢
            exact pcs_one i3
          | some c =>
            have hlt := getElem_lt hs
            have hc : c = 10 := Classical.byContradiction fun z => hgo ⟨c, hs, z⟩
            right
            refine ⟨hlt, ?_⟩
            have e : s.drop fr = (s.drop fr).take (i - fr) ++ 10 :: s.drop (i + 1) := by
              have h6 := List.take_append_drop (i - fr) (s.drop fr)
              rw [List.drop_drop, show fr + (i - fr) = i by omega, drop_at' hs, hc] at h6
              exact h6.symm
            rw [e] at i3 ⊢
            have h7 : ((s.drop fr).take (i - fr)).length = i - fr := by rw [List.length_take, List.length_drop]; omega
            rw [List.take_left' h7] at i3
            rw [pcs_app _ i3, List.take_left' h7]
      obtain ⟨p, hp0, hp1, hp2, hp3⟩ := hp
      rw [hv2, bindO_s]
      simp only [Bool.false_eq_true, if_false]
      rw [hp1, bindO_s, r21_Tokens_eq (by omega), bindO_s]
      have hfin : ∀ out' : List R21Line, out'.length ≤ i + 1 → resL lnR out (lnsT (pcs (s.drop fr)) n) = resL lnR out' (lnsT ((pcs (s.drop fr)).drop 1) (n + 1)) → ∃ m', m' < m ∧ ∃ fr' n' i' : Nat, (((i + 1 : Nat) : Int), ((n + 1 : Nat) : Int), ((i + 1 : Nat) : Int)) = ((fr' : Int), (n' : Int), (i' : Int)) ∧ m' = s.length + 1 - i' ∧ out'.length ≤ i' ∧ n' ≤ i' + 1 ∧ ((i' ≤ s.length ∧ fr' ≤ i' ∧ (∀ c ∈ (s.drop fr').take (i' - fr'), c ≠ 10) ∧ resL lnR out' (lnsT (pcs (s.drop fr')) n') = resL lnR [] (lnsT (pcs s) 1)) ∨ (i' = s.length + 1 ∧ (out', 0, 0) = resL lnR [] (lnsT (pcs s) 1))) := by
        intro out' ho he
        refine ⟨s.length + 1 - (i + 1), by omega, i + 1, n + 1, i + 1, rfl, rfl, ho, by omega, ?_⟩
        rw [i4] at he
        rcases hp3 with ⟨y1, y2⟩ | ⟨y1, y2⟩
        · right
          rw [y2] at he
          exact ⟨by omega, by rw [he]; exact resL_nil.symm⟩
        · left
          rw [y2] at he
          exact ⟨by omega, by omega, by simp, he.symm⟩
      have hcons : ∃ ps, pcs (s.drop fr) = p :: ps := by
        rcases hp3 with ⟨_, y2⟩ | ⟨_, y2⟩
        · exact ⟨_, y2⟩
        · exact ⟨_, y2⟩
      obtain ⟨ps, hps⟩ := hcons
      rw [wI64 (n := (n : Int) + 1) (by omega) (by omega)]
      by_cases h : (tokL p).e = 0
      · rw [resT_ok h, if_neg (by simp)]
        by_cases z : (tokL p).l = []
        · rw [z, decide_eq_false (by simp)]
          refine .go (hfin out (by omega) ?_)
          rw [hps, resL_go h, if_pos z]; rfl
        · have : 0 < (tokL p).l.length := List.length_pos_iff.2 z
          rw [decide_eq_true (by simp; omega), if_pos rfl, okLen_of (by omega), guardO_t, bindO_s, bindX_g]
          refine .go (hfin (out ++ [R21Line.mk (n : Int) ((tokL p).l.map tkR)]) (by simp; omega) ?_)
          rw [hps, resL_go h, if_neg z]; rfl
      · rw [resT_no h, if_pos (by simpa using h)]
        refine .ret ?_
        rw [← i4, hps, resL_bad h]
  · rw [decide_eq_false (by omega)]
    exact .ret i2
end Go.Proofs.YtpdjgamdnjfmkaaGreatDoor
