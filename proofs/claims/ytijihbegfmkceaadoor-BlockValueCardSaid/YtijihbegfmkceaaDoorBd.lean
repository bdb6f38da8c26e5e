/-
  Layer 41: what block.Text and block.Value compute.
-/
import Derived.Test.YtijihbegfmkceaaDoorBc
import Derived.Lib.IndexLaws
namespace Go.Proofs.YtijihbegfmkceaaDoor
open Go.RowKit
set_option linter.unusedVariables false
set_option linter.unusedSimpArgs false

theorem wrap_u64 (n : Int) : IntKind.u64.wrap n = n % 18446744073709551616 := by
  simp [IntKind.wrap, IntKind.bits, IntKind.signed]
theorem okStr_of {a b : List UInt8} (h : a.length + b.length ≤ 9223372036854775807) : okStr a b = true := decide_eq_true h
theorem fmtU (u : Nat) (h : u < 18446744073709551616) : strconv_FormatUint (u : Int) 10 = some (Lib.decDigits u) := by
  unfold strconv_FormatUint
  rw [show (decide ((0 : Int) ≤ (u : Int) ∧ (u : Int) < 18446744073709551616) && ((10 : Int) == 10)) = true by simp; omega, guardO_t, Int.toNat_natCast]
theorem dd_len (u : Nat) (h : u < 18446744073709551616) : (Lib.decDigits u).length ≤ 20 := by
  rcases Nat.lt_or_ge (Lib.decDigits u).length 21 with q | q
  · omega
  · exfalso
    by_cases h0 : u = 0
    · subst h0
      rw [dd_small (by omega)] at q
      simp at q
    · have h1 := num_pos (dd_dig u) (dd_ne u) (dd_head h0)
      rw [dd_num] at h1
      have h2 : 10 ^ 20 ≤ 10 ^ ((Lib.decDigits u).length - 1) := Nat.pow_le_pow_right (by omega) (by omega)
      omega
theorem trimR (s : List UInt8) (h : s.length ≤ 9223372036854775807) : strings_TrimRight s [48] = some (Lib.trimRightB s 48) := by
  show guardO (decide ((48 : UInt8).toNat < 128) && decide (s.length ≤ 9223372036854775807)) _ = _
  rw [show (decide ((48 : UInt8).toNat < 128) && decide (s.length ≤ 9223372036854775807)) = true by simp; omega, guardO_t]
theorem fr3_len (a b c : UInt8) : (fr3 a b c).length ≤ 3 := by
  unfold fr3; split
  · split
    · split <;> simp
    · simp
  · simp
theorem abs_wrap (n : Int) (h1 : -9223372036854775808 ≤ n) (h2 : n ≤ 9223372036854775807) : (if (decide (n < 0)) = true then
        some (IntKind.u64.wrap (0 - (IntKind.u64.wrap n)), ([45] : List UInt8))
      else
        some (IntKind.u64.wrap n, [])) = some ((n.natAbs : Int), if n < 0 then [45] else []) := by
  by_cases hn : n < 0
  · rw [decide_eq_true hn, if_pos rfl, if_pos hn, wrap_u64, wrap_u64]
    congr 2
    omega
  · rw [decide_eq_false hn, if_neg (by simp), if_neg hn, wrap_u64]
    congr 2
    omega
theorem bk_Text_eq (n : Int) (h1 : -9223372036854775808 ≤ n) (h2 : n ≤ 9223372036854775807) : bk_Text n = some (txtV n) := by
  unfold bk_Text
  rw [abs_wrap n h1 h2, bindO_s]
  obtain ⟨u, hu⟩ : ∃ u, u = n.natAbs := ⟨_, rfl⟩
  obtain ⟨sg, hsg⟩ : ∃ sg : List UInt8, sg = if n < 0 then [45] else [] := ⟨_, rfl⟩
  have hu2 : u ≤ 9223372036854775808 := by omega
  have hsl : sg.length ≤ 1 := by rw [hsg]; split <;> simp
  unfold txtV txtU
  rw [← hu, ← hsg]
  simp only
  have e1 : IntKind.u64.wrap (Int.tdiv (u : Int) 1000) = ((u / 1000 : Nat) : Int) := by
    rw [wrap_u64, Int.tdiv_eq_ediv_of_nonneg (by omega)]; omega
  have e2 : Int.tmod (u : Int) 1000 = ((u % 1000 : Nat) : Int) := by
    rw [Int.tmod_eq_emod_of_nonneg (by omega)]; omega
  have hl := dd_len (u / 1000) (by omega)
  rw [e1, fmtU (u / 1000) (by omega), bindO_s, okStr_of (by omega), guardO_t, e2]
  by_cases hr : u % 1000 = 0
  · rw [hr]; simp
  · rw [decide_eq_true (show ((u % 1000 : Nat) : Int) > 0 by omega), if_pos rfl, if_neg hr]
    have e3 : IntKind.u64.wrap (1000 + ((u % 1000 : Nat) : Int)) = ((1000 + u % 1000 : Nat) : Int) := by rw [wrap_u64]; omega
    have hr2 : u % 1000 < 1000 := Nat.mod_lt _ (by omega)
    have hd := dd_1000 hr2
    have hl2 := dd_len (1000 + u % 1000) (by omega)
    rw [e3, fmtU _ (by omega), bindO_s]
    have hc : cutF (Lib.decDigits (1000 + u % 1000)) 1 = some ((Lib.decDigits (1000 + u % 1000)).drop 1) := by
      unfold cutF
      rw [if_neg]
      · rfl
      · have := List.length_pos_iff.2 (dd_ne (1000 + u % 1000))
        omega
    have hf := fr3_len (d3 (u % 1000)).1 (d3 (u % 1000)).2.1 (d3 (u % 1000)).2.2
    rw [hc, bindO_s, trimR _ (by simp; omega), bindO_s, hd, trim3, okStr_of (by simp; omega), guardO_t, okStr_of (by simp; omega), guardO_t]
    simp [frac]

/-- A text of a number in parts. -/
def strip : List UInt8 → Bool × List UInt8
  | [] => (false, [])
  | c :: r => if c = 45 then (true, r) else (false, c :: r)
theorem strip_cons (c : UInt8) (r : List UInt8) : strip (c :: r) = if c = 45 then (true, r) else (false, c :: r) := rfl
theorem strip_len (s : List UInt8) : (strip s).2.length ≤ s.length := by
  cases s with
  | nil => simp [strip]
  | cons c r => rw [strip_cons]; split <;> simp
def cutV (l : List UInt8) : List UInt8 × List UInt8 × Bool := (l.takeWhile (· != 46), (l.dropWhile (· != 46)).drop 1, l.contains 46)
def zer (k : Nat) : List UInt8 := List.replicate k 48
def digB (l : List UInt8) : Bool := l.all isD && !l.isEmpty
def badP (neg : Bool) (body p : List UInt8) (pt : Bool) : Bool := (pt && (!digB p || (decide (3 < p.length) || p.getLast? == some 48))) || (neg && body == [48])
def badV (neg : Bool) (body w p : List UInt8) (pt : Bool) : Bool := !digB w || ((decide (1 < w.length) && w.head? == some 48) || badP neg body p pt)
def valN (neg : Bool) (w p : List UInt8) : Int × Int := if w.length > 10 then (0, 11) else if num (w ++ p ++ zer (3 - p.length)) > 1000000000000 then (0, 11) else (if neg = true then -(num (w ++ p ++ zer (3 - p.length)) : Int) else num (w ++ p ++ zer (3 - p.length)), 0)
def valV (s : List UInt8) : Int × Int :=
  if badV (strip s).1 (strip s).2 (cutV (strip s).2).1 (cutV (strip s).2).2.1 (cutV (strip s).2).2.2 = true then (0, 2) else valN (strip s).1 (cutV (strip s).2).1 (cutV (strip s).2).2.1
theorem cutPre (s : List UInt8) (hs : s.length ≤ 1000000) : strings_CutPrefix s [45] = some ((strip s).2, (strip s).1) := by
  unfold strings_CutPrefix stringslite_CutPrefix stringslite_HasPrefix
  cases s with
  | nil => rfl
  | cons c r =>
    have h1 : decide (((c :: r).length : Int) ≥ (([45] : List UInt8).length : Int)) = true := by simp; omega
    have h2 : cutT (c :: r) (([45] : List UInt8).length : Int) = some [c] := by unfold cutT; rw [if_neg (by simp; omega)]; rfl
    have h3 : cutF (c :: r) (([45] : List UInt8).length : Int) = some r := by unfold cutF; rw [if_neg (by simp; omega)]; rfl
    rw [h1, if_pos rfl, h2, bindO_s, bindO_s, bindO_s, h3]
    rw [strip_cons]
    by_cases hc : c = 45
    · subst hc; rfl
    · rw [if_neg hc, show (([c] : List UInt8) == [45]) = false by simpa using hc]
      rfl
theorem idx_facts : ∀ l : List UInt8, (Lib.indexByte l 46 = -1 ∧ l.takeWhile (· != 46) = l ∧ l.dropWhile (· != 46) = [] ∧ l.contains 46 = false) ∨ (∃ o : Nat, Lib.indexByte l 46 = (o : Int) ∧ o < l.length ∧ l.take o = l.takeWhile (· != 46) ∧ l.drop o = l.dropWhile (· != 46) ∧ l.contains 46 = true)
  | [] => .inl ⟨rfl, rfl, rfl, rfl⟩
  | b :: l => by
    unfold Lib.indexByte
    by_cases hb : b = 46
    · subst hb
      exact .inr ⟨0, rfl, by simp, rfl, by simp, by simp⟩
    · have hb1 : (b == 46) = false := by simpa using hb
      have hb2 : (b != 46) = true := by simp [hb]
      have hb3 : ((46 : UInt8) == b) = false := by simpa using fun e => hb e.symm
      rw [hb1]
      simp only [Bool.false_eq_true, if_false, List.takeWhile_cons, List.dropWhile_cons, hb2, if_true, List.contains_cons, hb3, Bool.false_or]
      rcases idx_facts l with ⟨h1, h2, h3, h4⟩ | ⟨o, h1, h2, h3, h4, h5⟩
      · left
        rw [h1, h2]
        exact ⟨rfl, rfl, h3, h4⟩
      · right
        have hne : ((o : Int) == -1) = false := by simp
        rw [h1, hne]
        refine ⟨o + 1, by simp, by simpa using h2, ?_, by simpa using h4, h5⟩
        rw [List.take_succ_cons, h3]
theorem cutEq (s : List UInt8) (hs : s.length ≤ 1000000) : strings_Cut s [46] = some (cutV s) := by
  have hi : stringslite_Index s [46] = some (Lib.indexByte s 46) := by
    unfold stringslite_Index
    by_cases he : s = [46]
    · subst he; rfl
    · have : (((([46] : List UInt8).length : Int) == 0) || (([46] : List UInt8) == s)) = false := by
        simp
        exact fun e => he e.symm
      rw [this]
      rfl
  unfold strings_Cut stringslite_Cut
  rw [hi, bindO_s]
  unfold cutV
  rcases idx_facts s with ⟨h1, h2, h3, h4⟩ | ⟨o, h1, h2, h3, h4, h5⟩
  · rw [h1, h2, h3, h4]; rfl
  · rw [h1, h5, ← h3, ← h4]
    have hw : IntKind.i64.wrap ((o : Int) + (([46] : List UInt8).length : Int)) = ((o + 1 : Nat) : Int) := by
      simp only [List.length_cons, List.length_nil]
      rw [wrap_i64 (by omega) (by omega)]; omega
    have hc1 : cutT s (o : Int) = some (s.take o) := by unfold cutT; rw [if_neg (by omega), Int.toNat_natCast]
    have hc2 : cutF s ((o + 1 : Nat) : Int) = some (s.drop (o + 1)) := by unfold cutF; rw [if_neg (by omega), Int.toNat_natCast]
    rw [decide_eq_true (show (o : Int) ≥ 0 by omega), if_pos rfl, hc1, bindO_s, hw, hc2, bindO_s, bindO_s, List.drop_drop]
theorem digs_contains (c : UInt8) : ([48, 49, 50, 51, 52, 53, 54, 55, 56, 57] : List UInt8).contains c = isD c := by
  have key : ∀ k, k < 256 → ([48, 49, 50, 51, 52, 53, 54, 55, 56, 57] : List UInt8).contains (UInt8.ofNat k) = (decide (48 ≤ k) && decide (k ≤ 57)) := of_decide_eq_true (by kernel_rfl)
  have := key c.toNat (UInt8.toNat_lt c)
  rw [UInt8.ofNat_toNat] at this
  rw [this]; rfl
theorem dw_nil {p : UInt8 → Bool} : ∀ {l : List UInt8}, l.dropWhile p = [] ↔ ∀ x ∈ l, p x = true
  | [] => by simp
  | c :: l => by
    rw [List.dropWhile_cons]
    cases h : p c with
    | true => rw [if_pos rfl, dw_nil]; simp [h]
    | false => simp [h]
theorem trim_nil (l cs : List UInt8) (p : UInt8 → Bool) (hp : ∀ c, cs.contains c = p c) : (Lib.trimS l cs == []) = l.all p := by
  have hfun : (cs.contains ·) = p := funext hp
  unfold Lib.trimS Lib.trimLeftS Lib.trimRightS
  rw [hfun]
  cases hall : l.all p with
  | true =>
    have : l.reverse.dropWhile p = [] := by
      rw [dw_nil]
      intro x hx
      exact List.all_eq_true.1 hall x (by simpa using hx)
    rw [this]; rfl
  | false =>
    cases hd : l.reverse.dropWhile p with
    | nil =>
      rw [dw_nil] at hd
      have : l.all p = true := List.all_eq_true.2 fun x hx => hd x (by simpa using hx)
      rw [this] at hall; cases hall
    | cons c r =>
      have hc : p c = false := by
        have := List.head?_dropWhile_not p l.reverse
        rw [hd] at this
        simpa using this
      have : (List.dropWhile p (c :: r).reverse) ≠ [] := by
        intro e
        rw [dw_nil] at e
        have := e c (by simp)
        rw [hc] at this; cases this
      cases hx : List.dropWhile p (c :: r).reverse with
      | nil => exact absurd hx this
      | cons a b => rfl
theorem bk_digits_eq (l : List UInt8) (hl : l.length ≤ 1000000) : bk_digits l = some (digB l) := by
  unfold bk_digits digB
  cases l with
  | nil => rfl
  | cons c r =>
    have h1 : ((c :: r) == ([] : List UInt8)) = false := rfl
    rw [h1]
    unfold strings_Trim
    rw [show (([48, 49, 50, 51, 52, 53, 54, 55, 56, 57] : List UInt8).all (fun c => decide (c.toNat < 128)) && (decide ((c :: r).length ≤ 9223372036854775807) && decide (([48, 49, 50, 51, 52, 53, 54, 55, 56, 57] : List UInt8).length < 4294967281))) = true by
      simp only [List.length_cons] at hl ⊢
      simp; omega]
    simp only [Bool.false_eq_true, if_false, guardO_t, bindO_s, trim_nil _ _ _ digs_contains, List.isEmpty_cons, Bool.not_false, Bool.and_true]
theorem parse_eq : ∀ (l : List UInt8) (a : Nat), l.all isD = true → numA a l < 1000000000000000000 → Lib.parseUintM 18446744073709551615 a l = .ok (numA a l)
  | [], a, _, _ => rfl
  | c :: l, a, h, hn => by
    simp only [List.all_cons, Bool.and_eq_true] at h
    have hc := isD_iff.1 h.1
    rw [numA_cons] at hn ⊢
    have hge := numA_ge l (10 * a + dv c)
    have hd : dv c = c.toNat - 48 := rfl
    unfold Lib.parseUintM
    rw [if_pos hc, if_neg (by omega), if_neg (by omega), show a * 10 + (c.toNat - 48) = 10 * a + dv c by omega]
    exact parse_eq l _ h.2 hn
theorem parseInt_eq (l : List UInt8) (h : l.all isD = true) (hne : l ≠ []) (hl : l.length ≤ 17) : strconv_ParseInt l 10 64 = some (num l : Int) := by
  have hn := num_lt l h
  have hp : (10 : Nat) ^ l.length ≤ 10 ^ 17 := Nat.pow_le_pow_right (by omega) hl
  have hm := parse_eq l 0 h (show num l < _ by omega)
  unfold strconv_ParseInt
  rw [show ((10 : Int) == 10 && ((64 : Int) == 64 && decide (l.length ≤ 9223372036854775806))) = true by simp; omega, guardO_t]
  have key : Lib.parseIntB 64 l = .ok (num l : Int) := by
    cases l with
    | nil => exact absurd rfl hne
    | cons c r =>
      simp only [List.all_cons, Bool.and_eq_true] at h
      have hc := isD_iff.1 h.1
      unfold Lib.parseIntB
      simp only
      rw [if_neg (by omega)]
      unfold Lib.parseUintB
      rw [if_neg (by simp), show (2 ^ 64 - 1 : Nat) = 18446744073709551615 by rfl, hm]
      simp only
      have hx : numA 0 (c :: r) = num (c :: r) := rfl
      rw [if_neg (by omega), if_neg (by omega), if_neg (by omega), hx]
  rw [key]
theorem last_gt (p : List UInt8) (hp : p ≠ []) (hl : p.length ≤ 1000000) : ∃ c, gt p (IntKind.i64.wrap ((p.length : Int) - 1)) = some c ∧ p.getLast? = some c := by
  have hpos := List.length_pos_iff.2 hp
  rw [wrap_i64 (by omega) (by omega)]
  obtain ⟨c, h1, h2⟩ := gt_ok' (l := p) (i := (p.length : Int) - 1) (by omega) (by omega)
  refine ⟨c, h1, ?_⟩
  rw [List.getLast?_eq_getElem?, ← h2]
  congr 1
  omega
theorem c48 (c : UInt8) : ((c.toNat : Int) == 48) = (c == 48) := by
  rw [Bool.eq_iff_iff]
  simp only [beq_iff_eq]
  constructor
  · intro h; exact UInt8.toNat_inj.1 (by have : (48 : UInt8).toNat = 48 := rfl; omega)
  · intro h; subst h; rfl
theorem badP_eq (neg : Bool) (body p : List UInt8) (pt : Bool) (hl : p.length ≤ 1000000) : (if pt = true then
              bindO (bk_digits p) fun (y105 : Bool) =>
              if y105 = true then
                if (decide ((p.length : Int) > 3)) = true then
                  some true
                else
                  bindO (gt p (IntKind.i64.wrap ((p.length : Int) - 1))) fun (c106 : UInt8) =>
                  if ((c106.toNat : Int) == 48) = true then
                    some true
                  else
                    if neg = true then
                      some (body == [48])
                    else
                      some false
              else
                some true
            else
              if neg = true then
                some (body == [48])
              else
                some false) = some (badP neg body p pt) := by
  unfold badP
  cases pt with
  | false => cases neg <;> simp
  | true =>
    rw [if_pos rfl, bk_digits_eq p hl, bindO_s]
    cases hd : digB p with
    | false => simp
    | true =>
      rw [if_pos rfl]
      have hne : p ≠ [] := by intro e; subst e; cases hd
      obtain ⟨c, h1, h2⟩ := last_gt p hne hl
      rw [h1, bindO_s, h2, c48]
      have e3 : decide ((p.length : Int) > 3) = decide (3 < p.length) := by
        rw [Bool.eq_iff_iff]; simp only [decide_eq_true_eq]; omega
      rw [e3]
      cases decide (3 < p.length) <;> cases hc : (c == 48) <;> cases neg <;> simp_all
theorem tw_len (p : UInt8 → Bool) (l : List UInt8) : (l.takeWhile p).length ≤ l.length ∧ (l.dropWhile p).length ≤ l.length := by
  have h := congrArg List.length (List.takeWhile_append_dropWhile (p := p) (l := l))
  rw [List.length_append] at h
  omega
theorem zer_dig (k : Nat) : (zer k).all isD = true := by
  unfold zer
  rw [List.all_eq_true]
  intro x hx
  rw [List.eq_of_mem_replicate hx]
  rfl
theorem bk_Value_eq (s : List UInt8) (hs : s.length ≤ 100000) : bk_Value s = some (valV s) := by
  unfold bk_Value valV
  rw [cutPre s (by omega), bindO_s]
  have hb := strip_len s
  generalize strip s = st at *
  obtain ⟨neg, body⟩ := st
  simp only at hb ⊢
  rw [cutEq body (by omega), bindO_s]
  have hw := (tw_len (· != 46) body).1
  have hp : (cutV body).2.1.length ≤ body.length := by
    have := (tw_len (· != 46) body).2
    show ((body.dropWhile (· != 46)).drop 1).length ≤ _
    simp; omega
  have hpt : (cutV body).2.2 = false → (cutV body).2.1 = [] := by
    intro h
    rcases idx_facts body with ⟨_, _, h3, _⟩ | ⟨_, _, _, _, _, h5⟩
    · show (body.dropWhile (· != 46)).drop 1 = []
      rw [h3]; rfl
    · have : (cutV body).2.2 = true := h5
      rw [this] at h; cases h
  have hw : (cutV body).1.length ≤ body.length := hw
  generalize cutV body = cv at *
  obtain ⟨w, p, pt⟩ := cv
  simp only at hw hp hpt ⊢
  rw [bk_digits_eq w (by omega), bindO_s]
  have hbad : ∀ (k : Bool → Option (Int × Int)), (bindO (if digB w = true then
        if (decide ((w.length : Int) > 1)) = true then
          bindO (gt w 0) fun (c104 : UInt8) =>
          if ((c104.toNat : Int) == 48) = true then
            some true
          else
            if pt = true then
              bindO (bk_digits p) fun (y105 : Bool) =>
              if y105 = true then
                if (decide ((p.length : Int) > 3)) = true then
                  some true
                else
                  bindO (gt p (IntKind.i64.wrap ((p.length : Int) - 1))) fun (c106 : UInt8) =>
                  if ((c106.toNat : Int) == 48) = true then
                    some true
                  else
                    if neg = true then
                      some (body == [48])
                    else
                      some false
              else
                some true
            else
              if neg = true then
                some (body == [48])
              else
                some false
        else
          if pt = true then
            bindO (bk_digits p) fun (y107 : Bool) =>
            if y107 = true then
              if (decide ((p.length : Int) > 3)) = true then
                some true
              else
                bindO (gt p (IntKind.i64.wrap ((p.length : Int) - 1))) fun (c108 : UInt8) =>
                if ((c108.toNat : Int) == 48) = true then
                  some true
                else
                  if neg = true then
                    some (body == [48])
                  else
                    some false
            else
              some true
          else
            if neg = true then
              some (body == [48])
            else
              some false
      else
        some true) k) = k (badV neg body w p pt) := by
    intro k
    rw [badP_eq neg body p pt (by omega)]
    unfold badV
    cases hd : digB w with
    | false => rfl
    | true =>
      cases w with
      | nil => cases hd
      | cons c r =>
        rw [if_pos rfl, show gt (c :: r) 0 = some c from rfl, bindO_s, c48]
        have e3 : decide (((c :: r).length : Int) > 1) = decide (1 < (c :: r).length) := by
          rw [Bool.eq_iff_iff]; simp only [decide_eq_true_eq]; omega
        rw [e3]
        have e4 : ((c :: r).head? == some 48) = (c == 48) := rfl
        rw [e4]
        cases decide (1 < (c :: r).length) <;> cases (c == 48) <;> simp
  rw [hbad]
  cases hv : badV neg body w p pt with
  | true => rfl
  | false =>
    simp only [Bool.false_eq_true, if_false]
    unfold badV badP at hv
    simp only [Bool.or_eq_false_iff, Bool.not_eq_false'] at hv
    obtain ⟨hd, _, hv, _⟩ := hv
    have hdw : w.all isD = true ∧ w ≠ [] := by
      unfold digB at hd
      simp only [Bool.and_eq_true] at hd
      exact ⟨hd.1, fun e => by subst e; exact absurd hd.2 (by simp)⟩
    have hp3 : p.all isD = true ∧ p.length ≤ 3 := by
      cases pt with
      | false => rw [hpt rfl]; simp
      | true =>
        simp only [Bool.true_and, Bool.or_eq_false_iff, Bool.not_eq_false', decide_eq_false_iff_not] at hv
        unfold digB at hv
        simp only [Bool.and_eq_true] at hv
        exact ⟨hv.1.1, by omega⟩
    unfold valN
    have e1 : decide ((w.length : Int) > 10) = decide (w.length > 10) := by
      rw [Bool.eq_iff_iff]; simp only [decide_eq_true_eq]; omega
    rw [e1]
    by_cases h10 : w.length > 10
    · rw [decide_eq_true h10, if_pos rfl, if_pos h10]
    · rw [decide_eq_false h10, if_neg (by simp), if_neg h10]
      have hz : cutF ([48, 48, 48] : List UInt8) (p.length : Int) = some (zer (3 - p.length)) := by
        have : p.length = 0 ∨ p.length = 1 ∨ p.length = 2 ∨ p.length = 3 := by omega
        rcases this with e | e | e | e <;> rw [e] <;> rfl
      have hall : (w ++ p ++ zer (3 - p.length)).all isD = true := by
        simp only [List.all_append, hdw.1, hp3.1, zer_dig, Bool.and_self]
      have hlen : (w ++ p ++ zer (3 - p.length)).length = w.length + 3 := by simp [zer]; omega
      have hlen2 : (zer (3 - p.length)).length = 3 - p.length := by simp [zer]
      rw [okStr_of (by omega), guardO_t, hz, bindO_s, okStr_of (by simp only [List.length_append]; omega), guardO_t, parseInt_eq _ hall (by intro e; rw [e] at hlen; simp at hlen) (by omega), bindO_s]
      have hlt := num_lt _ hall
      have hle : (10 : Nat) ^ (w ++ p ++ zer (3 - p.length)).length ≤ 10 ^ 13 := Nat.pow_le_pow_right (by omega) (by omega)
      generalize num (w ++ p ++ zer (3 - p.length)) = N at *
      by_cases hN : N > 1000000000000
      · rw [decide_eq_true (show (N : Int) > 1000000000000 by omega), if_pos rfl, if_pos hN]
      · rw [decide_eq_false (show ¬ (N : Int) > 1000000000000 by omega), if_neg (by simp), if_neg hN]
        cases neg with
        | true => simp only [if_true, bindO_s]; rw [wrap_i64 (by omega) (by omega), Int.zero_sub]
        | false => rfl
end Go.Proofs.YtijihbegfmkceaaDoor
