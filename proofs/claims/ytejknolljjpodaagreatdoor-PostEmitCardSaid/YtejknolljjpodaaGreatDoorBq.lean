/-
  Bg, Bp in one text.
-/
import Derived.Test.YtejknolljjpodaaGreatDoorBc
import Derived.Test.YtejknolljjpodaaGreatDoorME
namespace Go.Proofs.YtejknolljjpodaaGreatDoor
open Go.RowKit
set_option linter.unusedVariables false
set_option linter.unusedSimpArgs false
theorem c46 (c : UInt8) : ((c.toNat : Int) == 46) = (c == 46) := by
 rw [Bool.eq_iff_iff]
 simp only [beq_iff_eq]
 constructor
 ·intro h; exact UInt8.toNat_inj.1 (by have : (46 : UInt8).toNat = 46 := rfl; omega)
 ·intro h; subst h; rfl
theorem c45 (c : UInt8) : ((c.toNat : Int) == 45) = (c == 45) := by
 rw [Bool.eq_iff_iff]
 simp only [beq_iff_eq]
 constructor
 ·intro h; exact UInt8.toNat_inj.1 (by have : (45 : UInt8).toNat = 45 := rfl; omega)
 ·intro h; subst h; rfl
def prn (c : UInt8) : Bool := decide ((c.toNat : Int) ≥ 32) && (decide ((c.toNat : Int) ≤ 126) && (((c.toNat : Int) != 40) && ((c.toNat : Int) != 41)))
def nch (c : UInt8) : Bool := isD c || (c == 45 || c == 46)
abbrev PR := ApiBlock × Int × Int
def badR (a : Nat) (e : Int) : PR := (ApiBlock.mk false [] [], (a : Int), e)
def prC (sk : Bool) (ws : List ApiWord) (a : Nat) (r : List UInt8) : PR :=
 if (r.takeWhile prn).length > 100 then badR a 3
 else if r.takeWhile prn = [] ∨ (r.dropWhile prn).head? ≠ some 41 then badR (a + 1 + (r.takeWhile prn).length) 2
 else if (r.dropWhile prn).drop 1 ≠ [] then badR (a + 1 + (r.takeWhile prn).length + 1) 2
 else (ApiBlock.mk sk ws (r.takeWhile prn), 0, 0)
def wordV (c : UInt8) (t : List UInt8) : ApiWord := ApiWord.mk (c.toNat : Int) (valV t).1
def prN (sk : Bool) (a : Nat) (ws : List ApiWord) (K : Nat → List UInt8 → PR) : List UInt8 → PR
 | [] => (ApiBlock.mk sk ws [], 0, 0)
 | d :: q => if d ≠ 32 then badR a 2 else K (a + 1) q
theorem prN_eq (sk : Bool) (a : Nat) (ws : List ApiWord) (K : Nat → List UInt8 → PR) (q : List UInt8) : prN sk a ws K (32 :: q) = K (a + 1) q := rfl
theorem prN_ne (sk : Bool) (a : Nat) (ws : List ApiWord) (K : Nat → List UInt8 → PR) {d : UInt8} (q : List UInt8) (h : d ≠ 32) : prN sk a ws K (d :: q) = badR a 2 := if_pos h
def prW (sk : Bool) : Nat → Bool → Nat → List ApiWord → List UInt8 → PR
 | 0, _, a, _, _ => badR a 2
 | _ + 1, sp, a, ws, [] => if sp = true then badR a 2 else (ApiBlock.mk sk ws [], 0, 0)
 | n + 1, _, a, ws, c :: r =>
  if c = 40 then prC sk ws a r
  else if c.toNat < 65 ∨ c.toNat > 90 then badR a 2
  else if ws.length = 16 then badR a 3
  else if (valV (r.takeWhile nch)).2 ≠ 0 then badR a (valV (r.takeWhile nch)).2
  else prN sk (a + 1 + (r.takeWhile nch).length) (ws ++ [wordV c (r.takeWhile nch)]) (fun b q => prW sk n true b (ws ++ [wordV c (r.takeWhile nch)]) q) (r.dropWhile nch)
def prsV (s : List UInt8) : PR := if s.head? = some 47 then prW true (s.length + 1) false 1 [] (s.drop 1) else prW false (s.length + 1) false 0 [] s
theorem scan {s : List UInt8} {p : UInt8 → Bool} {f : Int → Option (Ex Int Int)} (hs : s.length ≤ 1000000) (h1 : ∀ (i : Nat) c, s[i]? = some c → f (i : Int) = if p c = true then some (.go ((i + 1 : Nat) : Int)) else some (.ret (i : Int))) (h2 : f (s.length : Int) = some (.ret (s.length : Int))) (a : Nat) (ha : a ≤ s.length) :
  loopX f fuel (a : Int) = some ((a + ((s.drop a).takeWhile p).length : Nat) : Int) := by
 have key : Tot (loopX f fuel (a : Int)) (fun o => o = ((a + ((s.drop a).takeWhile p).length : Nat) : Int)) := by
  refine Tot.loop (fun m v => ∃ i : Nat, v = (i : Int) ∧ i ≤ s.length ∧ m = s.length - i ∧ i + ((s.drop i).takeWhile p).length = a + ((s.drop a).takeWhile p).length) _ (s.length - a) (fuel_gt (by omega)) ⟨a, rfl, ha, rfl, rfl⟩ (fun m v hr => ?_)
  obtain ⟨i, rfl, hi, hm, ht⟩ := hr
  rcases Nat.eq_or_lt_of_le hi with e | q
  ·subst e
   rw [h2]
   refine .ret ?_
   rw [← ht]; simp
  ·have hx := List.getElem?_eq_getElem q
   rw [h1 i _ hx]
   rw [List.drop_eq_getElem_cons q, List.takeWhile_cons] at ht
   cases hp : p s[i] with
   | true =>
    rw [hp, if_pos rfl, List.length_cons] at ht
    rw [if_pos rfl]
    exact .go ⟨s.length - (i + 1), by omega, i + 1, rfl, by omega, rfl, by omega⟩
   | false =>
    rw [hp, if_neg (by simp), List.length_nil] at ht
    rw [if_neg (by simp)]
    refine .ret ?_
    rw [← ht]; rfl
 obtain ⟨o, ho, rfl⟩ := key
 exact ho
theorem len_eq_last {s : List UInt8} {i : Nat} {c : UInt8} (h : s[i]? = some c) : ((i : Int) == (s.length : Int)) = false := by
 have := getElem_lt h
 simp; omega
theorem cut_mid {s r t : List UInt8} {a : Nat} {p : UInt8 → Bool} (hd : s.drop a = r) (ht : r.takeWhile p = t) (ha : a ≤ s.length) (hs : s.length ≤ 1000000) : cutL s (a : Int) ((a + t.length : Nat) : Int) = some t := by
 have hl := (tw_len p r).1
 have hrl : r.length = s.length - a := by rw [← hd]; simp
 rw [ht] at hl
 unfold cutL
 rw [if_neg (by omega)]
 congr 1
 rw [Int.toNat_natCast, Int.toNat_natCast, hd, ← ht]
 have := List.takeWhile_append_dropWhile (p := p) (l := r)
 conv => lhs; arg 2; rw [← this]
 rw [List.take_left' (by omega)]
theorem drop_tw {s r : List UInt8} {a : Nat} {p : UInt8 → Bool} (hd : s.drop a = r) : s.drop (a + (r.takeWhile p).length) = r.dropWhile p := by
 rw [← List.drop_drop, hd]
 have := List.takeWhile_append_dropWhile (p := p) (l := r)
 conv => lhs; arg 2; rw [← this]
 rw [List.drop_left' rfl]
theorem dw_at {s r : List UInt8} {a : Nat} {p : UInt8 → Bool} (hd : s.drop a = r) : s[a + (r.takeWhile p).length]? = (r.dropWhile p).head? := by
 have := drop_tw (p := p) hd
 rw [← this, List.head?_drop]
theorem number_val (c : UInt8) : (((decide ((c.toNat : Int) ≥ 48)) && (decide ((c.toNat : Int) ≤ 57))) || (((c.toNat : Int) == 45) || ((c.toNat : Int) == 46))) = nch c := by
 unfold nch
 rw [c45, c46]
 have h : isD c = (decide ((c.toNat : Int) ≥ 48) && decide ((c.toNat : Int) ≤ 57)) := by
  unfold isD
  congr 1 <;> (rw [Bool.eq_iff_iff]; simp only [decide_eq_true_eq]; omega)
 rw [h]
theorem c40 (c : UInt8) : ((c.toNat : Int) == 40) = decide (c = 40) := by
 rw [Bool.eq_iff_iff]
 simp only [beq_iff_eq, decide_eq_true_eq]
 constructor
 ·intro h; exact UInt8.toNat_inj.1 (by have : (40 : UInt8).toNat = 40 := rfl; omega)
 ·intro h; subst h; rfl
theorem c41 (c : UInt8) : ((c.toNat : Int) != 41) = decide (c ≠ 41) := by
 rw [Bool.eq_iff_iff]
 simp only [bne_iff_ne, ne_eq, decide_eq_true_eq]
 constructor
 ·intro h e; subst e; exact h rfl
 ·intro h e; exact h (UInt8.toNat_inj.1 (by have : (41 : UInt8).toNat = 41 := rfl; omega))
theorem c32 (c : UInt8) : ((c.toNat : Int) != 32) = decide (c ≠ 32) := by
 rw [Bool.eq_iff_iff]
 simp only [bne_iff_ne, ne_eq, decide_eq_true_eq]
 constructor
 ·intro h e; subst e; exact h rfl
 ·intro h e; exact h (UInt8.toNat_inj.1 (by have : (32 : UInt8).toNat = 32 := rfl; omega))
theorem c47 (c : UInt8) : ((c.toNat : Int) != 47) = decide (c ≠ 47) := by
 rw [Bool.eq_iff_iff]
 simp only [bne_iff_ne, ne_eq, decide_eq_true_eq]
 constructor
 ·intro h e; subst e; exact h rfl
 ·intro h e; exact h (UInt8.toNat_inj.1 (by have : (47 : UInt8).toNat = 47 := rfl; omega))
def bkOut (r : Int × BlockParser) : PR := if (r.1 != 0) = true then (ApiBlock.mk false [] [], r.2.at_, r.1) else (r.2.b, 0, 0)
set_option maxHeartbeats 4000000 in
theorem bk_Parse_tot (s : List UInt8) (hs : s.length ≤ 65536) : Tot (bk_Parse s) (fun r => r = prsV s) := by
 unfold bk_Parse
 refine Tot.ite (fun h => absurd (of_decide_eq_true h) (by omega)) (fun _ => ?_)
 refine Tot.bind (E := fun r => bkOut r = prsV s) ?_ (fun r hr => ?_)
 ·refine Tot.bind (E := fun x : Bool × Int => x = if s.head? = some 47 then (true, 1) else (false, 0)) ?_ (fun x hx => ?_)
  ·cases s with
   | nil => exact .ok rfl
   | cons c q =>
    have h0 : ((0 : Int) == (((c :: q).length : Nat) : Int)) = false := by simp; omega
    rw [bindO_s, h0, if_neg (by simp), show gt (c :: q) 0 = some c from rfl, bindO_s, bindO_s, c47]
    by_cases hc : c = 47
    ·subst hc; exact .ok rfl
    ·rw [decide_eq_true hc, if_pos rfl]
     refine .ok ?_
     rw [if_neg (by simpa using hc)]
  ·obtain ⟨sk, a0, hx2, ha0, hT⟩ : ∃ (sk : Bool) (a0 : Nat), x = (sk, (a0 : Int)) ∧ a0 ≤ s.length ∧ prsV s = prW sk (s.length + 1) false a0 [] (s.drop a0) := by
    unfold prsV
    by_cases hc : s.head? = some 47
    ·rw [if_pos hc] at hx ⊢
     refine ⟨true, 1, hx, ?_, rfl⟩
     cases s with
     | nil => cases hc
     | cons c q => simp
    ·rw [if_neg hc] at hx ⊢
     exact ⟨false, 0, hx, by omega, rfl⟩
   subst hx2
   rw [hT]
   generalize hTT : prW sk (s.length + 1) false a0 [] (s.drop a0) = T
   refine Tot.loop (fun m v => ∃ (sp : Bool) (a : Nat) (ws : List ApiWord), v = (sp, BlockParser.mk s (a : Int) (ApiBlock.mk sk ws [])) ∧ a ≤ s.length ∧ ws.length ≤ 16 ∧ s.length - a < m ∧ prW sk m sp a ws (s.drop a) = T) _ (s.length + 1) (fuel_gt (by omega)) ⟨false, a0, [], rfl, ha0, by simp, by omega, hTT⟩ (fun m v hr => ?_)
   obtain ⟨sp, a, ws, rfl, ha, hws, hm, ht⟩ := hr
   obtain ⟨n, rfl⟩ : ∃ n, m = n + 1 := ⟨m - 1, by omega⟩
   simp only [bindO_s]
   rcases Nat.eq_or_lt_of_le ha with e | hlt
   ·have hnil : s.drop a = [] := by rw [e]; simp
    rw [hnil] at ht
    rw [show ((a : Int) == (s.length : Int)) = true by simp; omega, if_pos rfl]
    cases sp with
    | true => rw [if_pos rfl]; exact .ret (by rw [← ht]; rfl)
    | false => rw [if_neg (by simp)]; exact .ret (by rw [← ht]; rfl)
   ·obtain ⟨c, hc⟩ : ∃ c, s[a]? = some c := ⟨_, List.getElem?_eq_getElem hlt⟩
    have hdr : s.drop a = c :: s.drop (a + 1) := by
     rw [List.drop_eq_getElem_cons hlt]
     rw [List.getElem?_eq_getElem hlt] at hc; injection hc with hc; rw [hc]
    obtain ⟨r, hr⟩ : ∃ r, s.drop (a + 1) = r := ⟨_, rfl⟩
    rw [hdr, hr] at ht
    have hw1 : IntKind.i64.wrap ((a : Int) + 1) = ((a + 1 : Nat) : Int) := by rw [wrap_i64 (by omega) (by omega)]; omega
    have hrl : r.length = s.length - (a + 1) := by rw [← hr]; simp
    rw [len_eq_last hc, if_neg (by simp), gt_k hc, bindO_s, c40, hw1]
    unfold prW at ht
    by_cases h40 : c = 40
    ·-- a comment
     rw [if_pos h40] at ht
     rw [decide_eq_true h40, if_pos rfl]
     rw [scan (s := s) (p := prn) (by omega) (fun i x hx => by
      rw [len_eq_last hx, if_neg (by simp), gt_k hx, bindO_s]
      unfold bk_printable
      rw [bindO_s, bindO_s, wrap_i64 (by omega) (by have := getElem_lt hx; omega)]
      rfl) (by rw [beq_self_eq_true, if_pos rfl]; rfl) (a + 1) (by omega), bindO_s, hr]
     have htl := (tw_len prn r).1
     rw [cut_mid (p := prn) hr rfl (by omega) (by omega), bindO_s]
     unfold prC at ht
     by_cases h100 : (r.takeWhile prn).length > 100
     ·rw [if_pos h100] at ht
      rw [decide_eq_true (show (((r.takeWhile prn).length : Nat) : Int) > 100 by omega), if_pos rfl, bindO_s]
      exact .ret (by rw [← ht]; rfl)
     ·rw [if_neg h100] at ht
      rw [decide_eq_false (show ¬ (((r.takeWhile prn).length : Nat) : Int) > 100 by omega), if_neg (by simp)]
      by_cases hnil : r.takeWhile prn = []
      ·rw [if_pos (.inl hnil)] at ht
       rw [hnil] at ht ⊢
       exact .ret (by rw [← ht]; rfl)
      ·have hbe : (r.takeWhile prn == []) = false := by simpa using hnil
       rw [hbe, if_neg (by simp)]
       have hat := dw_at (p := prn) hr
       rcases Nat.eq_or_lt_of_le (show a + 1 + (r.takeWhile prn).length ≤ s.length by omega) with e | hlt2
       ·have hh : (r.dropWhile prn).head? = none := by rw [← hat, e]; simp
        rw [if_pos (.inr (by rw [hh]; simp))] at ht
        rw [show (((a + 1 + (r.takeWhile prn).length : Nat) : Int) == (s.length : Int)) = true by simp; omega, if_pos rfl]
        exact .ret (by rw [← ht]; rfl)
       ·obtain ⟨d, hd⟩ : ∃ d, s[a + 1 + (r.takeWhile prn).length]? = some d := ⟨_, List.getElem?_eq_getElem hlt2⟩
        rw [hd] at hat
        rw [len_eq_last hd, if_neg (by simp), gt_k hd, bindO_s, bindO_s, c41]
        have hw2 : IntKind.i64.wrap (((a + 1 + (r.takeWhile prn).length : Nat) : Int) + 1) = ((a + 1 + (r.takeWhile prn).length + 1 : Nat) : Int) := by rw [wrap_i64 (by omega) (by omega)]; omega
        by_cases h41 : d = 41
        ·rw [decide_eq_false (by simpa using h41), if_neg (by simp), hw2, bindO_s, bindO_s, if_neg (by simp)]
         dsimp only
         rw [if_neg (by rw [← hat, h41]; simpa using hnil)] at ht
         have hq : (r.dropWhile prn).drop 1 = s.drop (a + 1 + (r.takeWhile prn).length + 1) := by
          rw [← drop_tw (p := prn) hr, List.drop_drop]
         rw [hq] at ht
         by_cases hend : a + 1 + (r.takeWhile prn).length + 1 = s.length
         ·rw [if_neg (by rw [hend]; simp)] at ht
          rw [show (((a + 1 + (r.takeWhile prn).length + 1 : Nat) : Int) == (s.length : Int)) = true by simp; omega]
          exact .ret (by rw [← ht]; rfl)
         ·rw [if_pos (by
           intro e2
           have := congrArg List.length e2
           simp at this; omega)] at ht
          rw [show (((a + 1 + (r.takeWhile prn).length + 1 : Nat) : Int) == (s.length : Int)) = false by simp; omega]
          exact .ret (by rw [← ht]; rfl)
        ·rw [decide_eq_true h41, if_pos rfl, bindO_s, bindO_s]
         rw [if_pos (.inr (by rw [← hat]; simpa using h41))] at ht
         exact .ret (by rw [← ht]; rfl)
    ·-- a word
     rw [if_neg h40] at ht
     rw [decide_eq_false h40, if_neg (by simp), bindO_s]
     have hlet : (decide ((c.toNat : Int) < 65) || decide ((c.toNat : Int) > 90)) = decide (c.toNat < 65 ∨ c.toNat > 90) := by
      rw [Bool.eq_iff_iff]; simp only [Bool.or_eq_true, decide_eq_true_eq]; omega
     rw [hlet]
     by_cases hl : c.toNat < 65 ∨ c.toNat > 90
     ·rw [if_pos hl] at ht
      rw [decide_eq_true hl, if_pos rfl]
      exact .ret (by rw [← ht]; rfl)
     ·rw [if_neg hl] at ht
      rw [decide_eq_false hl, if_neg (by simp)]
      by_cases h16 : ws.length = 16
      ·rw [if_pos h16] at ht
       rw [show ((ws.length : Int) == 16) = true by simp; omega, if_pos rfl]
       exact .ret (by rw [← ht]; rfl)
      ·rw [if_neg h16] at ht
       rw [show ((ws.length : Int) == 16) = false by simp; omega, if_neg (by simp)]
       rw [scan (s := s) (p := nch) (by omega) (fun i x hx => by
        have hlx := getElem_lt hx
        rw [decide_eq_true (show (i : Int) < (s.length : Int) by omega), if_pos rfl, gt_k hx, bindO_s]
        rw [← number_val x, wrap_i64 (by omega) (by omega)]
        cases decide ((x.toNat : Int) ≥ 48) <;> cases decide ((x.toNat : Int) ≤ 57) <;> cases ((x.toNat : Int) == 45) <;> rfl) (by rw [decide_eq_false (by omega)]; rfl) (a + 1) (by omega), bindO_s, hr]
       have htl := (tw_len nch r).1
       rw [cut_mid (p := nch) hr rfl (by omega) (by omega), bindO_s, bk_Value_eq _ (by omega), bindO_s]
       have hat := dw_at (p := nch) hr
       have hdw := drop_tw (p := nch) hr
       by_cases hv : (valV (r.takeWhile nch)).2 = 0
       ·rw [if_neg (by simpa using hv)] at ht
        rw [hv]
        simp only [bne_self_eq_false, Bool.false_eq_true, if_false]
        rw [okLen_of (by omega), guardO_t, bindO_s]
        simp only [bne_self_eq_false, Bool.false_eq_true, if_false]
        rcases Nat.eq_or_lt_of_le (show a + 1 + (r.takeWhile nch).length ≤ s.length by omega) with e | hlt2
        ·have hnil : r.dropWhile nch = [] := by rw [← hdw, e]; simp
         rw [hnil] at ht
         rw [show (((a + 1 + (r.takeWhile nch).length : Nat) : Int) == (s.length : Int)) = true by simp; omega, if_pos rfl]
         exact .ret (by rw [← ht]; rfl)
        ·obtain ⟨d, hd⟩ : ∃ d, s[a + 1 + (r.takeWhile nch).length]? = some d := ⟨_, List.getElem?_eq_getElem hlt2⟩
         have hcons : r.dropWhile nch = d :: s.drop (a + 1 + (r.takeWhile nch).length + 1) := by
          rw [← hdw, List.drop_eq_getElem_cons hlt2]
          rw [List.getElem?_eq_getElem hlt2] at hd; injection hd with hd; rw [hd]
         rw [hcons] at ht
         rw [len_eq_last hd, if_neg (by simp), if_neg (by simp), gt_k hd, bindO_s, bindO_s, c32]
         have hw2 : IntKind.i64.wrap (((a + 1 + (r.takeWhile nch).length : Nat) : Int) + 1) = ((a + 1 + (r.takeWhile nch).length + 1 : Nat) : Int) := by rw [wrap_i64 (by omega) (by omega)]; omega
         by_cases h32 : d = 32
         ·subst h32
          rw [prN_eq] at ht
          rw [decide_eq_false (by simp), if_neg (by simp), hw2, bindO_s, if_neg (by simp)]
          exact .go ⟨n, by omega, true, _, _, rfl, by omega, by simp; omega, by omega, ht⟩
         ·rw [prN_ne _ _ _ _ _ h32] at ht
          rw [decide_eq_true h32, if_pos rfl, bindO_s]
          exact .ret (by rw [← ht]; rfl)
       ·rw [if_pos hv] at ht
        rw [show ((valV (r.takeWhile nch)).2 != 0) = true by simpa using hv, if_pos rfl, bindO_s]
        simp only [show ((valV (r.takeWhile nch)).2 != 0) = true by simpa using hv, if_true]
        refine .ret ?_
        rw [← ht]
        unfold bkOut
        rw [show ((valV (r.takeWhile nch)).2 != 0) = true by simpa using hv]
        rfl
 ·rw [← hr]
  unfold bkOut
  cases (r.1 != 0) with
  | true => exact .ok rfl
  | false => exact .ok rfl
def jn : List (List UInt8) → List UInt8
 | [] => []
 | x :: l => x ++ (l.map (32 :: ·)).flatten
theorem jn_cons (x y : List UInt8) (l : List (List UInt8)) : jn (x :: y :: l) = x ++ 32 :: jn (y :: l) := by simp [jn]
theorem jn_snoc (x z : List UInt8) (l : List (List UInt8)) : jn ((x :: l) ++ [z]) = jn (x :: l) ++ 32 :: z := by simp [jn]
theorem join_jn : ∀ l : List (List UInt8), Lib.join l [32] = jn l
 | [] => rfl
 | [x] => by simp [Lib.join, jn, List.intercalate]
 | x :: y :: l => by
  have ih := join_jn (y :: l)
  rw [jn_cons, ← ih]
  simp [Lib.join, List.intercalate]
theorem jn_len (M : Nat) : ∀ l : List (List UInt8), (∀ x ∈ l, x.length ≤ M) → (jn l).length ≤ l.length * (M + 1)
 | [], _ => by simp [jn]
 | [x], h => by
  have := h x (by simp)
  simp [jn]; omega
 | x :: y :: l, h => by
  have ih := jn_len M (y :: l) (fun z hz => h z (by simp [hz]))
  have := h x (by simp)
  rw [jn_cons, List.length_append, List.length_cons, List.length_cons (a := x), Nat.add_mul]
  omega
def jnG (v x : List UInt8) : List UInt8 := if v = [] then x else v ++ 32 :: x
theorem jn_fold : ∀ (l : List (List UInt8)) (v : List UInt8), v ≠ [] → l.foldl jnG v = v ++ (l.map (32 :: ·)).flatten
 | [], v, _ => by simp
 | x :: l, v, h => by
  rw [List.foldl_cons, show jnG v x = v ++ 32 :: x from if_neg h, jn_fold l _ (by simp)]
  simp
theorem jn_fold0 (l : List (List UInt8)) (h : ∀ x ∈ l, x ≠ []) : l.foldl jnG [] = jn l := by
 cases l with
 | nil => rfl
 | cons x l =>
  rw [List.foldl_cons, show jnG [] x = x from if_pos rfl, jn_fold l x (h x (by simp))]
  rfl
def okW (w : ApiWord) : Prop := 65 ≤ w.Letter ∧ w.Letter ≤ 90 ∧ -1000000000000 ≤ w.Value ∧ w.Value ≤ 1000000000000
def validP (b : ApiBlock) : Prop := b.Words.length ≤ 16 ∧ b.Comment.length ≤ 100 ∧ (∀ w ∈ b.Words, okW w) ∧ ∀ c ∈ b.Comment, prn c = true
def wt (w : ApiWord) : List UInt8 := UInt8.ofNat w.Letter.toNat :: txtV w.Value
def cmT (c : List UInt8) : List (List UInt8) := if c = [] then [] else [40 :: (c ++ [41])]
def fmtV (b : ApiBlock) : List UInt8 := (if b.Skip = true then [47] else []) ++ jn (b.Words.map wt ++ cmT b.Comment)
theorem rune_letter (n : Int) (h1 : 65 ≤ n) (h2 : n ≤ 90) : runeS (IntKind.i32.wrap n) = [UInt8.ofNat n.toNat] := by
 have : ∀ k, k < 128 → runeS (IntKind.i32.wrap ((k : Nat) : Int)) = [UInt8.ofNat k] := of_decide_eq_true (by kernel_rfl)
 have h := this n.toNat (by omega)
 rwa [show ((n.toNat : Nat) : Int) = n by omega] at h
theorem word_ok (w : ApiWord) (h : okW w) : r41_Word w = some (wt w) := by
 obtain ⟨h1, h2, h3, h4⟩ := h
 unfold r41_Word
 have hl : (txtV w.Value).length ≤ 100 := by
  unfold txtV txtU
  have hl := dd_len (w.Value.natAbs / 1000) (by omega)
  have hf' : (frac (w.Value.natAbs % 1000)).length ≤ 3 := fr3_len _ _ _
  rw [List.length_append, List.length_append]
  have e1 : (if w.Value < 0 then ([45] : List UInt8) else []).length ≤ 1 := by split <;> simp
  have e2 : (if w.Value.natAbs % 1000 = 0 then [] else 46 :: frac (w.Value.natAbs % 1000)).length ≤ 4 := by split <;> simp; omega
  omega
 rw [r41_Text_eq _ (by omega) (by omega), bindO_s, rune_letter _ h1 h2, okStr_of (by simp; omega), guardO_t]
 rfl
theorem txt_len100 (n : Int) (h1 : -9223372036854775808 ≤ n) (h2 : n ≤ 9223372036854775807) : (txtV n).length ≤ 100 := by
 unfold txtV txtU
 have hl := dd_len (n.natAbs / 1000) (by omega)
 have hf' : (frac (n.natAbs % 1000)).length ≤ 3 := fr3_len _ _ _
 rw [List.length_append, List.length_append]
 have e1 : (if n < 0 then ([45] : List UInt8) else []).length ≤ 1 := by split <;> simp
 have e2 : (if n.natAbs % 1000 = 0 then [] else 46 :: frac (n.natAbs % 1000)).length ≤ 4 := by split <;> simp; omega
 omega
theorem bk_Valid_tot (b : ApiBlock) (h1 : b.Words.length ≤ 1000) (h2 : b.Comment.length ≤ 1000) : Tot (bk_Valid b) (fun e => (e = 0 ∧ validP b) ∨ (e = 1 ∧ ¬ validP b)) := by
 unfold bk_Valid
 have hsz : (decide ((b.Words.length : Int) > 16) || decide ((b.Comment.length : Int) > 100)) = decide (¬ (b.Words.length ≤ 16 ∧ b.Comment.length ≤ 100)) := by
  rw [Bool.eq_iff_iff]; simp only [Bool.or_eq_true, decide_eq_true_eq]; omega
 rw [hsz]
 refine Tot.ite (fun h => .ok (.inr ⟨rfl, fun q => of_decide_eq_true h ⟨q.1, q.2.1⟩⟩)) (fun h => ?_)
 have hle : b.Words.length ≤ 16 ∧ b.Comment.length ≤ 100 := by simpa using h
 refine Tot.bindX (E := fun _ => ∀ w ∈ b.Words, okW w) (TotX.of (Tot.mono (E := fun x => (x = .ret 1 ∧ ¬ validP b) ∨ (x = .go () ∧ ∀ w ∈ b.Words, okW w)) ?_ ?_)) (fun x hx => ?_)
 ·refine Tot.guard (okIdx_of (by omega)) (Tot.range (fun i _ => ∀ (k : Nat) w, k < i → b.Words[k]? = some w → okW w) _ (fun k w q => by omega) (fun i x v hx hr => ?_) (fun v hr => .ok (.inr ⟨rfl, fun w hw => ?_⟩)))
  ·have hc : (decide (x.Letter < 65) || (decide (x.Letter > 90) || (decide (x.Value > 1000000000000) || decide (x.Value < -1000000000000)))) = decide (¬ (65 ≤ x.Letter ∧ x.Letter ≤ 90 ∧ -1000000000000 ≤ x.Value ∧ x.Value ≤ 1000000000000)) := by
    rw [Bool.eq_iff_iff]; simp only [Bool.or_eq_true, decide_eq_true_eq]; omega
   rw [hc]
   refine TotX.ite (fun h2 => .ret (.inl ⟨rfl, fun q => of_decide_eq_true h2 (q.2.2.1 x (List.mem_of_getElem? hx))⟩)) (fun h2 => .go (fun k w hk hw => ?_))
   rcases Nat.lt_or_ge k i with q | q
   ·exact hr k w q hw
   ·obtain rfl : k = i := by omega
    rw [hx] at hw; injection hw with hw; subst hw
    have h3 : 65 ≤ x.Letter ∧ x.Letter ≤ 90 ∧ -1000000000000 ≤ x.Value ∧ x.Value ≤ 1000000000000 := Decidable.not_not.1 (of_decide_eq_false h2)
    exact h3
  ·obtain ⟨k, hk⟩ := List.mem_iff_getElem?.1 hw
   exact hr k w (getElem_lt hk) hk
 ·rintro x (⟨rfl, h3⟩ | ⟨rfl, h3⟩)
  ·exact .inr ⟨rfl, h3⟩
  ·exact h3
 ·refine Tot.bindX (E := fun _ => validP b) (TotX.of (Tot.mono (E := fun x => (x = .ret 1 ∧ ¬ validP b) ∨ (x = .go () ∧ validP b)) ?_ ?_)) (fun _ hv => .ok (.inl ⟨rfl, hv⟩))
  ·refine Tot.guard (okIdx_of (by simp [bytesI]; omega)) (Tot.range (fun i _ => ∀ (k : Nat) c, k < i → b.Comment[k]? = some c → prn c = true) _ (fun k w q => by omega) (fun i y v hy hr => ?_) (fun v hr => .ok (.inr ⟨rfl, hle.1, hle.2, hx, fun c hc => ?_⟩)))
   ·unfold bytesI at hy
    rw [List.getElem?_map] at hy
    cases hq : b.Comment[i]? with
    | none => rw [hq] at hy; cases hy
    | some c =>
     rw [hq] at hy; injection hy with hy; subst hy
     have hp : bk_printable (c.toNat : Int) = some (prn c) := rfl
     rw [hp, bindO_s]
     refine TotX.ite (fun h2 => .ret (.inl ⟨rfl, fun q => ?_⟩)) (fun h2 => .go (fun k w hk hw => ?_))
     ·have := q.2.2.2 c (List.mem_of_getElem? hq)
      rw [this] at h2; cases h2
     ·rcases Nat.lt_or_ge k i with q | q
      ·exact hr k w q hw
      ·obtain rfl : k = i := by omega
       rw [hq] at hw; injection hw with hw; subst hw
       simpa using h2
   ·obtain ⟨k, hk⟩ := List.mem_iff_getElem?.1 hc
    exact hr k c (by have := getElem_lt hk; simpa [bytesI] using this) hk
  ·rintro x (⟨rfl, h3⟩ | ⟨rfl, h3⟩)
   ·exact .inr ⟨rfl, h3⟩
   ·exact h3
theorem r41_Valid_tot (b : ApiBlock) (h1 : b.Words.length ≤ 1000) (h2 : b.Comment.length ≤ 1000) : Tot (r41_Valid b) (fun e => (e = 0 ∧ validP b) ∨ (e = 1 ∧ ¬ validP b)) := by
 unfold r41_Valid
 have hsz : (decide ((b.Words.length : Int) > 16) || decide ((b.Comment.length : Int) > 100)) = decide (¬ (b.Words.length ≤ 16 ∧ b.Comment.length ≤ 100)) := by
  rw [Bool.eq_iff_iff]; simp only [Bool.or_eq_true, decide_eq_true_eq]; omega
 rw [hsz]
 refine Tot.ite (fun h => .ok (.inr ⟨rfl, fun q => of_decide_eq_true h ⟨q.1, q.2.1⟩⟩)) (fun h => ?_)
 have hle : b.Words.length ≤ 16 ∧ b.Comment.length ≤ 100 := by simpa using h
 refine Tot.bindX (E := fun _ => ∀ w ∈ b.Words, okW w) (TotX.of (Tot.mono (E := fun x => (x = .ret 1 ∧ ¬ validP b) ∨ (x = .go () ∧ ∀ w ∈ b.Words, okW w)) ?_ ?_)) (fun x hx => ?_)
 ·refine Tot.guard (okIdx_of (by omega)) (Tot.range (fun i _ => ∀ (k : Nat) w, k < i → b.Words[k]? = some w → okW w) _ (fun k w q => by omega) (fun i x v hx hr => ?_) (fun v hr => .ok (.inr ⟨rfl, fun w hw => ?_⟩)))
  ·have hc : (decide (x.Letter < 65) || (decide (x.Letter > 90) || (decide (x.Value > 1000000000000) || decide (x.Value < -1000000000000)))) = decide (¬ (65 ≤ x.Letter ∧ x.Letter ≤ 90 ∧ -1000000000000 ≤ x.Value ∧ x.Value ≤ 1000000000000)) := by
    rw [Bool.eq_iff_iff]; simp only [Bool.or_eq_true, decide_eq_true_eq]; omega
   rw [hc]
   refine TotX.ite (fun h2 => .ret (.inl ⟨rfl, fun q => of_decide_eq_true h2 (q.2.2.1 x (List.mem_of_getElem? hx))⟩)) (fun h2 => .go (fun k w hk hw => ?_))
   rcases Nat.lt_or_ge k i with q | q
   ·exact hr k w q hw
   ·obtain rfl : k = i := by omega
    rw [hx] at hw; injection hw with hw; subst hw
    have h3 : 65 ≤ x.Letter ∧ x.Letter ≤ 90 ∧ -1000000000000 ≤ x.Value ∧ x.Value ≤ 1000000000000 := Decidable.not_not.1 (of_decide_eq_false h2)
    exact h3
  ·obtain ⟨k, hk⟩ := List.mem_iff_getElem?.1 hw
   exact hr k w (getElem_lt hk) hk
 ·rintro x (⟨rfl, h3⟩ | ⟨rfl, h3⟩)
  ·exact .inr ⟨rfl, h3⟩
  ·exact h3
 ·refine Tot.bindX (E := fun _ => validP b) (TotX.of (Tot.mono (E := fun x => (x = .ret 1 ∧ ¬ validP b) ∨ (x = .go () ∧ validP b)) ?_ ?_)) (fun _ hv => .ok (.inl ⟨rfl, hv⟩))
  ·refine Tot.guard (okIdx_of (by omega)) (Tot.range (fun i _ => ∀ (k : Nat) c, k < i → b.Comment[k]? = some c → prn c = true) _ (fun k w q => by omega) (fun i c v hq hr => ?_) (fun v hr => .ok (.inr ⟨rfl, hle.1, hle.2, hx, fun c hc => ?_⟩)))
   ·have hp : r41_printable (c.toNat : Int) = some (prn c) := rfl
    rw [hp, bindO_s]
    refine TotX.ite (fun h2 => .ret (.inl ⟨rfl, fun q => ?_⟩)) (fun h2 => .go (fun k w hk hw => ?_))
    ·have := q.2.2.2 c (List.mem_of_getElem? hq)
     rw [this] at h2; cases h2
    ·rcases Nat.lt_or_ge k i with q | q
     ·exact hr k w q hw
     ·obtain rfl : k = i := by omega
      rw [hq] at hw; injection hw with hw; subst hw
      simpa using h2
   ·obtain ⟨k, hk⟩ := List.mem_iff_getElem?.1 hc
    exact hr k c (getElem_lt hk) hk
  ·rintro x (⟨rfl, h3⟩ | ⟨rfl, h3⟩)
   ·exact .inr ⟨rfl, h3⟩
   ·exact h3
theorem fold_map {α β : Type} (g : α → β) : ∀ (l : List α) (o : List β), l.foldl (fun o x => o ++ [g x]) o = o ++ l.map g
 | [], o => by simp
 | x :: l, o => by rw [List.foldl_cons, fold_map g l]; simp
theorem wt_len (w : ApiWord) (h : okW w) : (wt w).length ≤ 101 := by
 have := txt_len100 w.Value (by have := h.2.2.1; omega) (by have := h.2.2.2; omega)
 unfold wt; simp; omega
theorem parts_len {b : ApiBlock} (h : validP b) : ∀ x ∈ b.Words.map wt ++ cmT b.Comment, x.length ≤ 102 := by
 intro x hx
 rcases List.mem_append.1 hx with hx | hx
 ·obtain ⟨w, hw, rfl⟩ := List.mem_map.1 hx
  have := wt_len w (h.2.2.1 w hw); omega
 ·unfold cmT at hx
  split at hx
  ·cases hx
  ·simp at hx
   subst hx
   have := h.2.1
   simp; omega
theorem bk_Format_ok (b : ApiBlock) (h : validP b) : bk_Format b = some (fmtV b, 0) := by
  unfold bk_Format
  obtain ⟨e, he, hv⟩ := bk_Valid_tot b (by have := h.1; omega) (by have := h.2.1; omega)
  have he0 : e = 0 := by rcases hv with hv | hv; exact hv.1; exact absurd h hv.2
  subst he0
  have hwl := h.1
  have hcl := h.2.1
  rw [he, bindO_s, if_neg (by simp), okIdx_of (by omega), guardO_t, range_fold (g := fun (v : List (List UInt8)) w => v ++ [wt w]) (R := fun i v => v.length = i) (L := b.Words) ?_ b.Words 0 [] rfl (by simp), fold_map, bindO_s]
  · have hpl := parts_len h
    have hjl := jn_len 102 _ hpl
    have hpn : (b.Words.map wt ++ cmT b.Comment).length ≤ 17 := by
      unfold cmT; rw [List.length_append, List.length_map]; split <;> simp <;> omega
    have hcm : (if (!(b.Comment == [])) = true then
          guardO (okStr [40] b.Comment) (
          guardO (okStr ([40] ++ b.Comment) [41]) (
          guardO (okLen (([] ++ b.Words.map wt).length + 1)) (
          some (([] ++ b.Words.map wt) ++ [([40] ++ b.Comment) ++ [41]]))))
        else
          some ([] ++ b.Words.map wt)) = some (b.Words.map wt ++ cmT b.Comment) := by
      unfold cmT
      by_cases hc : b.Comment = []
      · rw [hc]; simp
      · rw [if_neg hc, show (b.Comment == []) = false by simpa using hc, Bool.not_false, if_pos rfl, okStr_of (by simp; omega), guardO_t, okStr_of (by simp; omega), guardO_t, okLen_of (by simp; omega), guardO_t]
        simp
    rw [hcm, bindO_s]
    have hj : strings_Join (b.Words.map wt ++ cmT b.Comment) [32] = some (jn (b.Words.map wt ++ cmT b.Comment)) := by
      unfold strings_Join
      rw [join_jn, decide_eq_true (by have := Nat.mul_le_mul_right (102 + 1) hpn; omega), decide_eq_true (by omega)]
      rfl
    rw [hj, bindO_s]
    unfold fmtV
    have hjl2 := Nat.mul_le_mul_right (102 + 1) hpn
    cases b.Skip with
    | true => rw [if_pos rfl, okStr_of (by simp; omega), guardO_t, bindO_s]; rfl
    | false => rw [if_neg (by simp), bindO_s]; rfl
  · intro i x v hx hr
    have hlt := getElem_lt hx
    obtain ⟨h1, h2, h3, h4⟩ := h.2.2.1 x (List.mem_of_getElem? hx)
    have hl := txt_len100 x.Value (by omega) (by omega)
    rw [bk_Text_eq _ (by omega) (by omega), bindO_s, rune_letter _ h1 h2, okStr_of (by simp; omega), guardO_t, okLen_of (by omega), guardO_t]
    exact ⟨rfl, by simp [hr]⟩
theorem fold_wt (l : List ApiWord) (v : List UInt8) : l.foldl (fun v w => jnG v (wt w)) v = (l.map wt).foldl jnG v := by rw [List.foldl_map]
theorem r41_Format_ok (b : ApiBlock) (h : validP b) : r41_Format b = some (fmtV b, 0) := by
  unfold r41_Format
  obtain ⟨e, he, hv⟩ := r41_Valid_tot b (by have := h.1; omega) (by have := h.2.1; omega)
  have he0 : e = 0 := by rcases hv with hv | hv; exact hv.1; exact absurd h hv.2
  subst he0
  have hwl := h.1
  have hcl := h.2.1
  have hpl := parts_len h
  have hjl := jn_len 102 _ hpl
  have hpn : (b.Words.map wt ++ cmT b.Comment).length ≤ 17 := by
    unfold cmT; rw [List.length_append, List.length_map]; split <;> simp <;> omega
  have hjl2 := Nat.mul_le_mul_right (102 + 1) hpn
  have hwne : ∀ x ∈ b.Words.map wt, x ≠ [] := by
    intro x hx
    obtain ⟨w, _, rfl⟩ := List.mem_map.1 hx
    simp [wt]
  have hjw := jn_len 102 (b.Words.map wt) (fun x hx => hpl x (by simp [hx]))
  rw [List.length_map] at hjw
  have hjw2 := Nat.mul_le_mul_right (102 + 1) hwl
  rw [he, bindO_s, if_neg (by simp), okIdx_of (by omega), guardO_t, range_fold (g := fun (v : List UInt8) w => jnG v (wt w)) (R := fun i v => (v = [] ↔ i = 0) ∧ v.length ≤ i * 103) (L := b.Words) ?_ b.Words 0 [] rfl (by simp), fold_wt, jn_fold0 _ hwne, bindO_s]
  · have hcm : (if (!(b.Comment == [])) = true then
          bindO (if (!(jn (b.Words.map wt) == [])) = true then
                guardO (okStr (jn (b.Words.map wt)) [32]) (
                some (jn (b.Words.map wt) ++ [32]))
              else
                some (jn (b.Words.map wt))) fun (v161 : (List UInt8)) =>
          guardO (okStr v161 [40]) (
          guardO (okStr (v161 ++ [40]) b.Comment) (
          guardO (okStr ((v161 ++ [40]) ++ b.Comment) [41]) (
          some (((v161 ++ [40]) ++ b.Comment) ++ [41]))))
        else
          some (jn (b.Words.map wt))) = some (jn (b.Words.map wt ++ cmT b.Comment)) := by
      unfold cmT
      by_cases hc : b.Comment = []
      · rw [hc]; simp
      · rw [if_neg hc, show (b.Comment == []) = false by simpa using hc, Bool.not_false, if_pos rfl]
        cases hw : b.Words.map wt with
        | nil =>
          rw [show (jn [] == []) = true from rfl, if_neg (by simp), bindO_s, okStr_of (by simp [jn]), guardO_t, okStr_of (by simp [jn]; omega), guardO_t, okStr_of (by simp [jn]; omega), guardO_t]
          simp [jn]
        | cons x l =>
          have hx : x ≠ [] := hwne x (by rw [hw]; simp)
          have hne : jn (x :: l) ≠ [] := by
            intro e
            exact hx (List.append_eq_nil_iff.1 e).1
          rw [hw] at hjw
          rw [show (jn (x :: l) == []) = false by simpa using hne, Bool.not_false, if_pos rfl, okStr_of (by simp only [List.length_cons, List.length_nil]; omega), guardO_t, bindO_s, okStr_of (by simp only [List.length_append, List.length_cons, List.length_nil]; omega), guardO_t, okStr_of (by simp only [List.length_append, List.length_cons, List.length_nil]; omega), guardO_t, okStr_of (by simp only [List.length_append, List.length_cons, List.length_nil]; omega), guardO_t, jn_snoc]
          simp
    rw [hcm, bindO_s]
    unfold fmtV
    cases b.Skip with
    | true => rw [if_pos rfl, okStr_of (by simp; omega), guardO_t, bindO_s]; rfl
    | false => rw [if_neg (by simp), bindO_s]; rfl
  · intro i x v hx hr
    have hlt := getElem_lt hx
    have hokx := h.2.2.1 x (List.mem_of_getElem? hx)
    have hl := wt_len x hokx
    have hr2 : v.length ≤ 16 * 103 := Nat.le_trans hr.2 (Nat.mul_le_mul_right _ (by omega))
    have hg : (if (decide ((i : Int) > 0)) = true then
                guardO (okStr v [32]) (
                some (v ++ [32]))
              else
                some v) = some (if i = 0 then v else v ++ [32]) := by
      by_cases hi : i = 0
      · rw [decide_eq_false (by omega), if_neg (by simp), if_pos hi]
      · rw [decide_eq_true (by omega), if_pos rfl, okStr_of (by simp; omega), guardO_t, if_neg hi]
    rw [hg, bindO_s, word_ok x hokx, bindO_s, okStr_of (by have h5 : (if i = 0 then v else v ++ [32]).length ≤ v.length + 1 := (by split <;> simp); omega), guardO_t]
    have hjg : (if i = 0 then v else v ++ [32]) ++ wt x = jnG v (wt x) := by
      unfold jnG
      by_cases hi : i = 0
      · rw [if_pos hi, if_pos (hr.1.2 hi), hr.1.2 hi]; rfl
      · rw [if_neg hi, if_neg (fun q => hi (hr.1.1 q))]; simp
    rw [hjg]
    refine ⟨rfl, ⟨fun q => ?_, fun q => by omega⟩, ?_⟩
    · exfalso
      rw [← hjg] at q
      have := congrArg List.length q
      simp [wt] at this
    · rw [← hjg]
      have hb : (if i = 0 then v else v ++ [32]).length ≤ v.length + 1 := by split <;> simp
      rw [List.length_append, Nat.add_mul]
      omega
theorem tw_gen {p : UInt8 → Bool} : ∀ (w r : List UInt8), w.all p = true → (r = [] ∨ ∃ d q, r = d :: q ∧ p d = false) → (w ++ r).takeWhile p = w ∧ (w ++ r).dropWhile p = r
 | [], r, _, hr => by rcases hr with rfl | ⟨d, q, rfl, hd⟩ <;> simp_all
 | c :: w, r, h, hr => by
  simp only [List.all_cons, Bool.and_eq_true] at h
  obtain ⟨h1, h2⟩ := tw_gen w r h.2 hr
  simp only [List.cons_append, List.takeWhile_cons, List.dropWhile_cons, h.1, if_true, h1, h2, and_self]
theorem nch_dig {l : List UInt8} (h : l.all isD = true) : l.all nch = true := by
 rw [List.all_eq_true] at h ⊢
 intro x hx
 unfold nch
 rw [h x hx]; rfl
theorem nch_txt (n : Int) : (txtV n).all nch = true := by
 unfold txtV txtU
 rw [List.all_append, List.all_append, nch_dig (dd_dig _)]
 have h1 : (if n < 0 then ([45] : List UInt8) else []).all nch = true := by split <;> rfl
 have h2 : (if n.natAbs % 1000 = 0 then [] else 46 :: frac (n.natAbs % 1000)).all nch = true := by
  split
  ·rfl
  ·obtain ⟨q1, q2, q3⟩ := d3_dig (r := n.natAbs % 1000) (Nat.mod_lt _ (by omega))
   rw [List.all_cons, nch_dig (show (frac (n.natAbs % 1000)).all isD = true from fr3_dig _ _ _ q1 q2 q3)]
   rfl
 rw [h1, h2]; rfl
theorem letter_toNat {n : Int} (h1 : 65 ≤ n) (h2 : n ≤ 90) : (UInt8.ofNat n.toNat).toNat = n.toNat := by
 rw [UInt8.toNat_ofNat']; omega
theorem val_ok {v : Int} (h1 : -1000000000000 ≤ v) (h2 : v ≤ 1000000000000) : valV (txtV v) = (v, 0) := by
 rw [val_txt, if_neg (by omega)]
theorem prC_ok (sk : Bool) (ws : List ApiWord) (a : Nat) (c : List UInt8) (hc : c.all prn = true) (hl : c.length ≤ 100) (hne : c ≠ []) : prC sk ws a (c ++ [41]) = (ApiBlock.mk sk ws c, 0, 0) := by
 obtain ⟨h1, h2⟩ := tw_gen (p := prn) c [41] hc (.inr ⟨41, [], rfl, rfl⟩)
 unfold prC
 rw [h1, h2, if_neg (by omega), if_neg (by simpa using hne), if_neg (by simp)]
theorem prW_cons (sk : Bool) (n : Nat) (sp : Bool) (a : Nat) (ws : List ApiWord) (c : UInt8) (r : List UInt8) : prW sk (n + 1) sp a ws (c :: r) =
  if c = 40 then prC sk ws a r
  else if c.toNat < 65 ∨ c.toNat > 90 then badR a 2
  else if ws.length = 16 then badR a 3
  else if (valV (r.takeWhile nch)).2 ≠ 0 then badR a (valV (r.takeWhile nch)).2
  else prN sk (a + 1 + (r.takeWhile nch).length) (ws ++ [wordV c (r.takeWhile nch)]) (fun b q => prW sk n true b (ws ++ [wordV c (r.takeWhile nch)]) q) (r.dropWhile nch) := rfl
theorem cons_ne {α : Type} {l : List α} (h : l ≠ []) : ∃ x r, l = x :: r := by
 cases l with
 | nil => exact absurd rfl h
 | cons x r => exact ⟨x, r, rfl⟩
theorem jn_ne (x : List UInt8) {l : List (List UInt8)} (h : l ≠ []) : jn (x :: l) = x ++ 32 :: jn l := by
 obtain ⟨y, r, rfl⟩ := cons_ne h
 exact jn_cons x y r
theorem prW_fmt (sk : Bool) (c : List UInt8) (hc : c.all prn = true) (hcl : c.length ≤ 100) : ∀ (W : List ApiWord) (n : Nat) (sp : Bool) (a : Nat) (ws : List ApiWord), (∀ w ∈ W, okW w) → ws.length + W.length ≤ 16 → W.length < n → (sp = true → W ≠ [] ∨ c ≠ []) → prW sk n sp a ws (jn (W.map wt ++ cmT c)) = (ApiBlock.mk sk (ws ++ W) c, 0, 0)
 | [], n, sp, a, ws, _, _, hn, hsp => by
  obtain ⟨n, rfl⟩ : ∃ q, n = q + 1 := ⟨n - 1, by simp at hn; omega⟩
  by_cases h0 : c = []
  ·subst h0
   have : sp = false := by
    cases sp with
    | false => rfl
    | true => rcases hsp rfl with h | h <;> exact absurd rfl h
   subst this
   rw [List.append_nil]; rfl
  ·have hj : jn (List.map wt [] ++ cmT c) = 40 :: (c ++ [41]) := by
    unfold cmT
    rw [if_neg h0]
    simp [jn]
   rw [hj, List.append_nil]
   show (if (40 : UInt8) = 40 then prC sk ws a (c ++ [41]) else _) = _
   rw [if_pos rfl, prC_ok sk ws a c hc hcl h0]
 | w :: W, n, sp, a, ws, hW, hlen, hn, hsp => by
  obtain ⟨n, rfl⟩ : ∃ q, n = q + 1 := ⟨n - 1, by simp at hn; omega⟩
  simp only [List.length_cons] at hlen hn
  obtain ⟨o1, o2, o3, o4⟩ := hW w (by simp)
  have hL := letter_toNat o1 o2
  have h40 : ¬ (UInt8.ofNat w.Letter.toNat = 40) := by
   intro e
   rw [e] at hL
   have : (40 : UInt8).toNat = 40 := rfl
   omega
  have hw : wordV (UInt8.ofNat w.Letter.toNat) (txtV w.Value) = w := by
   unfold wordV
   rw [val_ok o3 o4, hL]
   obtain ⟨l, v⟩ := w
   simp only at o1 ⊢
   congr 1
   omega
  have step : ∀ q, (q = [] ∨ ∃ d r, q = d :: r ∧ nch d = false) → prW sk (n + 1) sp a ws (wt w ++ q) = prN sk (a + 1 + (txtV w.Value).length) (ws ++ [w]) (fun b r => prW sk n true b (ws ++ [w]) r) q := by
   intro q hq
   obtain ⟨t1, t2⟩ := tw_gen (p := nch) (txtV w.Value) q (nch_txt _) hq
   rw [show wt w ++ q = UInt8.ofNat w.Letter.toNat :: (txtV w.Value ++ q) from rfl, prW_cons, if_neg h40, if_neg (by omega), if_neg (by omega), t1, t2, val_ok o3 o4, if_neg (by simp), hw]
  have ha : ws ++ w :: W = (ws ++ [w]) ++ W := by simp
  rw [ha, List.map_cons, List.cons_append]
  by_cases hrest : W.map wt ++ cmT c = []
  ·have hW0 : W = [] := by
    have := (List.append_eq_nil_iff.1 hrest).1
    simpa using this
   have hc0 : c = [] := by
    have := (List.append_eq_nil_iff.1 hrest).2
    unfold cmT at this
    by_cases q : c = []
    ·exact q
    ·rw [if_neg q] at this; cases this
   rw [hrest]
   have := step [] (.inl rfl)
   rw [List.append_nil] at this
   rw [show jn [wt w] = wt w by simp [jn], this, hW0, hc0, List.append_nil]
   rfl
  ·rw [jn_ne _ hrest, step _ (.inr ⟨32, _, rfl, rfl⟩), prN_eq]
   refine prW_fmt sk c hc hcl W n true _ (ws ++ [w]) (fun x hx => hW x (by simp [hx])) (by simp; omega) (by omega) (fun _ => ?_)
   by_cases q : W = []
   ·right
    intro e
    apply hrest
    rw [q, e]; rfl
   ·exact .inl q
theorem flat_len : ∀ l : List (List UInt8), l.length ≤ ((l.map (32 :: ·)).flatten).length
 | [] => by simp
 | x :: l => by
  have := flat_len l
  simp only [List.map_cons, List.flatten_cons, List.length_append, List.length_cons]
  omega
theorem jn_ge (W : List ApiWord) (l : List (List UInt8)) : W.length ≤ (jn (W.map wt ++ l)).length := by
 cases W with
 | nil => simp
 | cons w W =>
  have := flat_len (W.map wt ++ l)
  rw [List.map_cons, List.cons_append]
  show _ ≤ (wt w ++ ((W.map wt ++ l).map (32 :: ·)).flatten).length
  rw [List.length_append] at this ⊢
  rw [List.length_map] at this
  simp only [List.length_cons, wt]
  omega
theorem jn_head {W : List ApiWord} {c : List UInt8} (hW : ∀ w ∈ W, okW w) : (jn (W.map wt ++ cmT c)).head? ≠ some 47 := by
 cases W with
 | nil =>
  unfold cmT
  split
  ·simp [jn]
  ·simp [jn]
 | cons w W =>
  obtain ⟨o1, o2, _⟩ := hW w (by simp)
  have hL := letter_toNat o1 o2
  rw [List.map_cons, List.cons_append]
  show (UInt8.ofNat w.Letter.toNat :: (txtV w.Value ++ _)).head? ≠ some 47
  rw [List.head?_cons]
  intro e
  injection e with e
  rw [e] at hL
  have : (47 : UInt8).toNat = 47 := rfl
  omega
theorem parse_fmt (b : ApiBlock) (h : validP b) : prsV (fmtV b) = (b, 0, 0) := by
 obtain ⟨h1, h2, h3, h4⟩ := h
 obtain ⟨sk, W, c⟩ := b
 simp only at h1 h2 h3 h4
 have hc : c.all prn = true := List.all_eq_true.2 h4
 have hge := jn_ge W (cmT c)
 unfold prsV fmtV
 simp only
 cases sk with
 | true =>
  rw [if_pos rfl, show (([47] : List UInt8) ++ jn (W.map wt ++ cmT c)).head? = some 47 from rfl, if_pos rfl, show (([47] : List UInt8) ++ jn (W.map wt ++ cmT c)).drop 1 = jn (W.map wt ++ cmT c) from rfl]
  exact prW_fmt true c hc h2 W _ false 1 [] h3 (by simpa using h1) (by simp; omega) (fun q => by cases q)
 | false =>
  rw [show ((if false = true then ([47] : List UInt8) else []) ++ jn (W.map wt ++ cmT c)) = jn (W.map wt ++ cmT c) from rfl, if_neg (jn_head h3)]
  exact prW_fmt false c hc h2 W _ false 0 [] h3 (by simpa using h1) (by omega) (fun q => by cases q)
end Go.Proofs.YtejknolljjpodaaGreatDoor
namespace Go.Proofs.YtejknolljjpodaaGreatDoor
open Go.RowKit
set_option linter.unusedVariables false
set_option linter.unusedSimpArgs false
theorem idxd_facts (d : UInt8) : ∀ l : List UInt8, (Lib.indexByte l d = -1 ∧ l.takeWhile (· != d) = l ∧ l.dropWhile (· != d) = [] ∧ l.contains d = false) ∨ (∃ o : Nat, Lib.indexByte l d = (o : Int) ∧ o < l.length ∧ l.take o = l.takeWhile (· != d) ∧ l.drop o = l.dropWhile (· != d) ∧ l.contains d = true)
 | [] => .inl ⟨rfl, rfl, rfl, rfl⟩
 | b :: l => by
  unfold Lib.indexByte
  by_cases hb : b = d
  ·subst hb
   refine .inr ⟨0, ?_, by simp, by simp, by simp, by simp⟩
   rw [if_pos (by simp)]; rfl
  ·have hb1 : (b == d) = false := by simpa using hb
   have hb2 : (b != d) = true := by simp [hb]
   have hb3 : (d == b) = false := by simpa using fun e => hb e.symm
   rw [hb1]
   simp only [Bool.false_eq_true, if_false, List.takeWhile_cons, List.dropWhile_cons, hb2, if_true, List.contains_cons, hb3, Bool.false_or]
   rcases idxd_facts d l with ⟨h1, h2, h3, h4⟩ | ⟨o, h1, h2, h3, h4, h5⟩
   ·left
    rw [h1, h2]
    exact ⟨rfl, rfl, h3, h4⟩
   ·right
    have hne : ((o : Int) == -1) = false := by simp
    rw [h1, hne]
    refine ⟨o + 1, by simp, by simpa using h2, ?_, by simpa using h4, h5⟩
    rw [List.take_succ_cons, h3]
theorem cutd (d : UInt8) (s : List UInt8) (hs : s.length ≤ 1000000) : strings_Cut s [d] = some (s.takeWhile (· != d), (s.dropWhile (· != d)).drop 1, s.contains d) := by
 have hi : stringslite_Index s [d] = some (Lib.indexByte s d) := by
  unfold stringslite_Index
  by_cases he : s = [d]
  ·subst he
   rw [show (((([d] : List UInt8).length : Int) == 0) || (([d] : List UInt8) == [d])) = true by simp, if_pos rfl]
   unfold Lib.indexByte
   rw [if_pos (by simp)]
  ·have : (((([d] : List UInt8).length : Int) == 0) || (([d] : List UInt8) == s)) = false := by
    simp
    exact fun e => he e.symm
   rw [this]
   show bindO (stringslite_IndexByte s (d.toNat : Int)) _ = _
   unfold stringslite_IndexByte
   have hd : ((d.toNat : Int)).toNat.toUInt8 = d := by
    rw [Int.toNat_natCast]
    exact UInt8.ofNat_toNat
   rw [hd]; rfl
 unfold strings_Cut stringslite_Cut
 rw [hi, bindO_s]
 rcases idxd_facts d s with ⟨h1, h2, h3, h4⟩ | ⟨o, h1, h2, h3, h4, h5⟩
 ·rw [h1, h2, h3, h4]; rfl
 ·rw [h1, h5, ← h3, ← h4]
  have hw : IntKind.i64.wrap ((o : Int) + (([d] : List UInt8).length : Int)) = ((o + 1 : Nat) : Int) := by
   simp only [List.length_cons, List.length_nil]
   rw [wrap_i64 (by omega) (by omega)]; omega
  have hc1 : cutT s (o : Int) = some (s.take o) := by unfold cutT; rw [if_neg (by omega), Int.toNat_natCast]
  have hc2 : cutF s ((o + 1 : Nat) : Int) = some (s.drop (o + 1)) := by unfold cutF; rw [if_neg (by omega), Int.toNat_natCast]
  rw [decide_eq_true (show (o : Int) ≥ 0 by omega), if_pos rfl, hc1, bindO_s, hw, hc2, bindO_s, bindO_s, List.drop_drop]
theorem cont_drop (d : UInt8) (s : List UInt8) : (s.contains d = false ∧ s.dropWhile (· != d) = [] ∧ s.takeWhile (· != d) = s) ∨ (s.contains d = true ∧ ∃ q, s.dropWhile (· != d) = d :: q) := by
 rcases idxd_facts d s with ⟨_, h2, h3, h4⟩ | ⟨o, _, h2, h3, h4, h5⟩
 ·exact .inl ⟨h4, h3, h2⟩
 ·right
  refine ⟨h5, ?_⟩
  cases hd : s.dropWhile (· != d) with
  | nil =>
   rw [hd] at h4
   have := congrArg List.length h4
   simp at this; omega
  | cons c r =>
   have hc := List.head?_dropWhile_not (· != d) s
   rw [hd] at hc
   simp at hc
   rw [hc]
   exact ⟨r, rfl⟩
abbrev GR := List ApiBlock × Int × Int
def pgN (out : List ApiBlock) (line : List UInt8) (K : List UInt8 → GR) : List UInt8 → GR
 | [] => ([], (out.length : Int) + 1, 2)
 | _ :: q => if (prsV line).2.2 ≠ 0 then ([], (out.length : Int) + 1, (prsV line).2.2) else K q
theorem pgN_cons (out : List ApiBlock) (line : List UInt8) (K : List UInt8 → GR) (c : UInt8) (q : List UInt8) : pgN out line K (c :: q) = if (prsV line).2.2 ≠ 0 then ([], (out.length : Int) + 1, (prsV line).2.2) else K q := rfl
def pgV : Nat → List UInt8 → List ApiBlock → GR
 | 0, _, out => (out, 0, 0)
 | n + 1, s, out => if s = [] then (out, 0, 0) else pgN out (s.takeWhile (· != 10)) (fun q => pgV n q (out ++ [(prsV (s.takeWhile (· != 10))).1])) (s.dropWhile (· != 10))
theorem bk_Program_tot (s : List UInt8) (hs : s.length ≤ 65536) (hc : (Lib.countByte s 10 : Int) < 20000) : Tot (bk_Program s) (fun r => r = pgV (s.length + 1) s []) := by
  unfold bk_Program
  have h1 : (if (decide ((s.length : Int) > 65536)) = true then
        some true
      else
        bindO (strings_Count s [10]) fun (y101 : Int) =>
        if (decide (y101 > 20000)) = true then
          some true
        else
          bindO (strings_Count s [10]) fun (y102 : Int) =>
          if (y102 == 20000) = true then
            bindO (strings_HasSuffix s [10]) fun (y103 : Bool) =>
            some (!y103)
          else
            some false) = some false := by
    have hcnt : strings_Count s [10] = some (Lib.countByte s 10 : Int) := rfl
    rw [decide_eq_false (by omega), if_neg (by simp), hcnt, bindO_s, decide_eq_false (by omega), if_neg (by simp), bindO_s, show ((Lib.countByte s 10 : Int) == 20000) = false by simp; omega, if_neg (by simp)]
  rw [h1, bindO_s, if_neg (by simp)]
  generalize hT : pgV (s.length + 1) s [] = T
  refine Tot.bindX (E := fun out : List ApiBlock => ((out, 0, 0) : GR) = T) (TotX.of (Tot.mono (E := fun x => match x with | .ret e => e = T | .go out => ((out, 0, 0) : GR) = T) ?_ (fun x h => by cases x <;> exact h))) (fun out h => .ok h)
  refine Tot.loop (fun m v => ∃ (r : List UInt8) (out : List ApiBlock), v = (r, out, (out.length : Int) + 1) ∧ pgV m r out = T ∧ r.length < m ∧ out.length + r.length ≤ s.length) _ (s.length + 1) (fuel_gt (by omega)) ⟨s, [], by simp, hT, by omega, by simp⟩ (fun m v hr => ?_)
  obtain ⟨r, out, rfl, ht, hm, hlen⟩ := hr
  obtain ⟨n, rfl⟩ : ∃ n, m = n + 1 := ⟨m - 1, by omega⟩
  unfold pgV at ht
  dsimp only
  by_cases hnil : r = []
  · rw [if_pos hnil] at ht
    rw [show (!(r == ([] : List UInt8))) = false by rw [hnil]; rfl, if_neg (by simp)]
    exact .ret ht
  · rw [if_neg hnil] at ht
    have hb : (r == ([] : List UInt8)) = false := by simpa using hnil
    rw [hb, Bool.not_false, if_pos rfl, cutd 10 r (by omega), bindO_s]
    have htw := (tw_len (· != 10) r).1
    obtain ⟨y, hy, rfl⟩ := bk_Parse_tot (r.takeWhile (· != 10)) (by omega)
    rw [hy, bindO_s]
    rcases cont_drop 10 r with ⟨c1, c2, _⟩ | ⟨c1, q, c2⟩
    · rw [c2] at ht
      rw [c1]
      exact .ret (by rw [← ht]; rfl)
    · rw [c2] at ht
      rw [c1, c2]
      dsimp only
      rw [pgN_cons] at ht
      rw [if_neg (by simp), bindO_s]
      have hql : q.length < r.length := by
        have := congrArg List.length (List.takeWhile_append_dropWhile (p := (· != 10)) (l := r))
        rw [List.length_append, c2, List.length_cons] at this
        omega
      by_cases he : (prsV (r.takeWhile (· != 10))).2.2 = 0
      · rw [if_neg (by simpa using he)] at ht
        rw [he, if_neg (by simp), okLen_of (by omega), guardO_t]
        refine .go ⟨n, by omega, q, _, ?_, ht, by omega, by simp; omega⟩
        rw [wrap_i64 (by omega) (by omega)]
        simp
      · rw [if_pos he] at ht
        rw [show ((prsV (r.takeWhile (· != 10))).2.2 != 0) = true by simpa using he, if_pos rfl]
        exact .ret ht
def prt (l : List ApiBlock) : List UInt8 := (l.map fun b => fmtV b ++ [10]).flatten
theorem no10 {b : ApiBlock} (h : validP b) : (fmtV b).all (· != 10) = true := by
 have hn : ∀ l : List UInt8, l.all nch = true → l.all (· != 10) = true := by
  intro l hl
  rw [List.all_eq_true] at hl ⊢
  intro x hx
  have := hl x hx
  by_cases e : x = 10
  ·subst e; cases this
  ·simpa using e
 have hw : ∀ w ∈ b.Words, (wt w).all (· != 10) = true := by
  intro w hw
  obtain ⟨o1, o2, _⟩ := h.2.2.1 w hw
  have hL := letter_toNat o1 o2
  unfold wt
  rw [List.all_cons, hn _ (nch_txt _)]
  have : (UInt8.ofNat w.Letter.toNat != 10) = true := by
   rw [bne_iff_ne]
   intro e
   rw [e] at hL
   have : (10 : UInt8).toNat = 10 := rfl
   omega
  rw [this]; rfl
 have hc : ∀ x ∈ b.Words.map wt ++ cmT b.Comment, x.all (· != 10) = true := by
  intro x hx
  rcases List.mem_append.1 hx with hx | hx
  ·obtain ⟨w, hw', rfl⟩ := List.mem_map.1 hx
   exact hw w hw'
  ·unfold cmT at hx
   split at hx
   ·cases hx
   ·simp at hx
    subst hx
    rw [List.all_cons, List.all_append]
    have : b.Comment.all (· != 10) = true := by
     rw [List.all_eq_true]
     intro c hc
     have := h.2.2.2 c hc
     by_cases e : c = 10
     ·subst e; cases this
     ·simpa using e
    rw [this]; rfl
 have hj : ∀ l : List (List UInt8), (∀ x ∈ l, x.all (· != 10) = true) → (jn l).all (· != 10) = true := by
  intro l hl
  cases l with
  | nil => rfl
  | cons x l =>
   show (x ++ (l.map (32 :: ·)).flatten).all (· != 10) = true
   rw [List.all_append, hl x (by simp), Bool.true_and, List.all_eq_true]
   intro c hc
   obtain ⟨y, hy, hcy⟩ := List.mem_flatten.1 hc
   obtain ⟨z, hz, rfl⟩ := List.mem_map.1 hy
   rcases List.mem_cons.1 hcy with rfl | hcz
   ·rfl
   ·exact List.all_eq_true.1 (hl z (by simp [hz])) c hcz
 unfold fmtV
 rw [List.all_append, hj _ hc]
 cases b.Skip <;> rfl
theorem tw10 {b : ApiBlock} (h : validP b) (q : List UInt8) : ((fmtV b ++ [10]) ++ q).takeWhile (· != 10) = fmtV b ∧ ((fmtV b ++ [10]) ++ q).dropWhile (· != 10) = 10 :: q := by
 have := tw_gen (p := (· != 10)) (fmtV b) (10 :: q) (no10 h) (.inr ⟨10, q, rfl, by simp⟩)
 rw [List.append_assoc]
 exact this
theorem pgV_prt : ∀ (l : List ApiBlock) (n : Nat) (out : List ApiBlock), (∀ b ∈ l, validP b) → l.length < n → pgV n (prt l) out = (out ++ l, 0, 0)
 | [], n, out, _, hn => by
  obtain ⟨n, rfl⟩ : ∃ q, n = q + 1 := ⟨n - 1, by simp at hn; omega⟩
  rw [List.append_nil]; rfl
 | b :: l, n, out, h, hn => by
  obtain ⟨n, rfl⟩ : ∃ q, n = q + 1 := ⟨n - 1, by simp at hn; omega⟩
  obtain ⟨t1, t2⟩ := tw10 (h b (by simp)) (prt l)
  have hp : prt (b :: l) = (fmtV b ++ [10]) ++ prt l := by simp [prt]
  unfold pgV
  rw [if_neg (by rw [hp]; simp), hp, t1, t2]
  rw [pgN_cons, parse_fmt b (h b (by simp)), if_neg (by simp), pgV_prt l n _ (fun x hx => h x (by simp [hx])) (by simpa using hn)]
  simp
theorem count_prt : ∀ l : List ApiBlock, (∀ b ∈ l, validP b) → Lib.countByte (prt l) 10 = l.length
 | [], _ => rfl
 | b :: l, h => by
  have hp : prt (b :: l) = (fmtV b ++ [10]) ++ prt l := by simp [prt]
  have ih := count_prt l (fun x hx => h x (by simp [hx]))
  unfold Lib.countByte at ih ⊢
  rw [hp, List.count_append, List.count_append, ih]
  have h0 : List.count 10 (fmtV b) = 0 := by
   rw [List.count_eq_zero]
   intro hm
   have := List.all_eq_true.1 (no10 (h b (by simp))) 10 hm
   cases this
  rw [h0]
  simp
  omega
theorem same_refl (l : List ApiBlock) (hl : l.length ≤ 100000) (hw : ∀ b ∈ l, b.Words.length ≤ 1000000) : r41_Same l l = some true := by
  unfold r41_Same
  rw [bne_self_eq_false, if_neg (by simp)]
  have key : Tot (guardO (okIdx l) (
        rangeX (fun (i155 : Nat) (e157 : ApiBlock) (v156 : Unit) =>
          bindO (gt l (i155 : Int)) fun (e160 : ApiBlock) =>
          bindO (r41_Equal e157 e160) fun (y161 : Bool) =>
          if (!y161) = true then
            some (.ret (.ret false))
          else
            some (.go ())) (fun (v156 : Unit) => some (.go ())) l 0 ())) (fun x : Ex Bool Unit => x = .go ()) := by
    refine Tot.guard (okIdx_of (by omega)) (Tot.range (fun _ _ => True) _ trivial (fun i x v hx hr => ?_) (fun v hr => .ok rfl))
    rw [gt_k hx, bindO_s, r41_equal_eq x x (hw x (List.mem_of_getElem? hx)), bindO_s, decide_eq_true rfl, if_neg (by simp)]
    exact .go trivial
  obtain ⟨e, h1, rfl⟩ := key
  rw [h1]; rfl
end Go.Proofs.YtejknolljjpodaaGreatDoor
