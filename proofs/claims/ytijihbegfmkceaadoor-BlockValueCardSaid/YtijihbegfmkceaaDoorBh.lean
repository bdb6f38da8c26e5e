/-
  Layer 41: the reference's Value is that of the block's.
-/
import Derived.Test.YtijihbegfmkceaaDoorBg
namespace Go.Proofs.YtijihbegfmkceaaDoor
open Go.RowKit
set_option linter.unusedVariables false
set_option linter.unusedSimpArgs false

def cF (i139 : Nat) (c141 : UInt8) (v140 : Int) : Option (Ex Int Int) :=
        bindO (if ((c141.toNat : Int) == 46) = true then
              some (i139 : Int)
            else
              some v140) fun (v142 : Int) =>
        some (.go v142)
def cD (v140 : Int) : Option Int := some v140
theorem cF_digs : ∀ (w r : List UInt8) (i : Nat) (v : Int), w.all isD = true → rangeX cF cD (w ++ r) i v = rangeX cF cD r (i + w.length) v
  | [], _, _, _, _ => rfl
  | c :: w, r, i, v, h => by
    simp only [List.all_cons, Bool.and_eq_true] at h
    have hc : cF i c v = some (.go v) := by
      unfold cF
      rw [c46, show (c == 46) = false by simpa using (dig_ne h.1).1]; rfl
    rw [List.cons_append, rx_go hc, cF_digs w r (i + 1) v h.2, List.length_cons, show i + 1 + w.length = i + (w.length + 1) by omega]
theorem point_eq (w p : List UInt8) (pt : Bool) (v : Int) (hw : w.all isD = true) (hp : pt = true → p.all isD = true) : rangeX cF cD (w ++ (if pt = true then 46 :: p else [])) 0 v = some (if pt = true then (w.length : Int) else v) := by
  rw [cF_digs w _ 0 v hw, Nat.zero_add]
  cases pt with
  | false => rfl
  | true =>
    have h1 := cF_digs p [] (w.length + 1) (w.length : Int) (hp rfl)
    rw [List.append_nil] at h1
    have h2 : cF w.length 46 v = some (.go (w.length : Int)) := rfl
    rw [if_pos rfl, if_pos rfl, rx_go h2, h1]
    rfl
/-- The rest of the test, behind the sign. -/
def canB (body : List UInt8) : Option Bool :=
  bindO (guardO (okIdx body) (rangeX cF cD body 0 (body.length : Int))) fun (v124 : Int) =>
  bindO (if (v124 == 0) = true then
        some true
      else
        if (decide (v124 > 1)) = true then
          bindO (gt body 0) fun (c143 : UInt8) =>
          some ((c143.toNat : Int) == 48)
        else
          some false) fun (v144 : Bool) =>
  if v144 = true then
    some false
  else
    bindO (if (v124 == (body.length : Int)) = true then
          some true
        else
          if (decide (v124 < (IntKind.i64.wrap ((body.length : Int) - 1)))) = true then
            bindO (gt body (IntKind.i64.wrap ((body.length : Int) - 1))) fun (c145 : UInt8) =>
            some ((c145.toNat : Int) != 48)
          else
            some false) fun (v146 : Bool) =>
    some v146
def badB (w p : List UInt8) (pt : Bool) : Bool := !digB w || ((decide (1 < w.length) && w.head? == some 48) || (pt && (!digB p || p.getLast? == some 48)))
theorem canB_eq (w p : List UInt8) (pt : Bool) (hw : w.all isD = true) (hp : pt = true → p.all isD = true) (hl : (w ++ (if pt = true then 46 :: p else [])).length ≤ 1000000) : canB (w ++ (if pt = true then 46 :: p else [])) = some (!badB w p pt) := by
  obtain ⟨body, hb⟩ : ∃ body, body = w ++ (if pt = true then 46 :: p else []) := ⟨_, rfl⟩
  unfold canB
  rw [okIdx_of (by omega), guardO_t, point_eq w p pt _ hw hp, ← hb, bindO_s]
  rw [← hb] at hl
  have hv : (if pt = true then (w.length : Int) else (body.length : Int)) = (w.length : Int) := by
    cases pt with
    | true => rfl
    | false => rw [hb]; simp
  rw [hv]
  unfold badB
  cases w with
  | nil => rfl
  | cons c r =>
    have hd : digB (c :: r) = true := digB_of hw (by simp)
    rw [hd, show ((((c :: r).length : Nat) : Int) == 0) = false by simp; omega, if_neg (by simp)]
    have hg : gt body 0 = some c := by rw [hb]; rfl
    have e1 : decide (((c :: r).length : Int) > 1) = decide (1 < (c :: r).length) := by
      rw [Bool.eq_iff_iff]; simp only [decide_eq_true_eq]; omega
    rw [hg, e1, bindO_s, c48, show ((c :: r).head? == some 48) = (c == 48) from rfl]
    have hrest : (if ((((c :: r).length : Nat) : Int) == (body.length : Int)) = true then
          some true
        else
          if (decide ((((c :: r).length : Nat) : Int) < (IntKind.i64.wrap ((body.length : Int) - 1)))) = true then
            bindO (gt body (IntKind.i64.wrap ((body.length : Int) - 1))) fun (c145 : UInt8) =>
            some ((c145.toNat : Int) != 48)
          else
            some false) = some (!(pt && (!digB p || p.getLast? == some 48))) := by
      cases pt with
      | false =>
        rw [if_neg (by simp), List.append_nil] at hb
        rw [hb]
        simp
      | true =>
        rw [if_pos rfl] at hb
        have hlen : body.length = (c :: r).length + (p.length + 1) := by rw [hb]; simp; omega
        rw [show ((((c :: r).length : Nat) : Int) == (body.length : Int)) = false by rw [hlen]; simp; omega, if_neg (by simp)]
        cases hpn : p with
        | nil =>
          rw [hpn] at hlen
          rw [wrap_i64 (by omega) (by omega), decide_eq_false (by simp only [List.length_nil] at hlen; omega)]
          rfl
        | cons a q =>
          have hpne : p ≠ [] := by rw [hpn]; simp
          have hbne : body ≠ [] := by rw [hb]; simp
          obtain ⟨x, h1, h2⟩ := last_gt body hbne hl
          have hlast : body.getLast? = p.getLast? := by
            rw [hb, List.getLast?_append, List.getLast?_cons, hpn]
            simp [List.getLast?_cons]
          rw [hlast, hpn] at h2
          have hpos : 0 < p.length := List.length_pos_iff.2 hpne
          have hdp : digB (a :: q) = true := by rw [← hpn]; exact digB_of (hp rfl) hpne
          rw [decide_eq_true (show (((c :: r).length : Nat) : Int) < IntKind.i64.wrap ((body.length : Int) - 1) by rw [wrap_i64 (by omega) (by omega)]; omega), if_pos rfl, h1, bindO_s, hdp, h2]
          have : ((x.toNat : Int) != 48) = !(x == 48) := by
            show (!((x.toNat : Int) == 48)) = _
            rw [c48]
          rw [this]
          rfl
    rw [hrest]
    cases decide (1 < (c :: r).length) <;> cases (c == 48) <;> cases (pt && (!digB p || p.getLast? == some 48)) <;> rfl
theorem canon_eq (neg : Bool) (w p : List UInt8) (pt : Bool) (hw : w.all isD = true) (hp : pt = true → p.all isD = true ∧ p.length ≤ 3) (hp0 : pt = false → p = []) (hl : (w ++ (if pt = true then 46 :: p else [])).length ≤ 100000) :
    r41_canonical ((if neg = true then [45] else []) ++ (w ++ (if pt = true then 46 :: p else []))) = some (!badV neg (w ++ (if pt = true then 46 :: p else [])) w p pt) := by
  have hB := canB_eq w p pt hw (fun q => (hp q).1) (by omega)
  have hbad : badV neg (w ++ (if pt = true then 46 :: p else [])) w p pt = (badB w p pt || (neg && (w ++ (if pt = true then 46 :: p else [])) == [48])) := by
    unfold badV badB badP
    have h3 : (pt && (!digB p || (decide (3 < p.length) || p.getLast? == some 48))) = (pt && (!digB p || p.getLast? == some 48)) := by
      cases pt with
      | false => rfl
      | true => rw [decide_eq_false (show ¬ 3 < p.length by have := (hp rfl).2; omega), Bool.false_or]
    rw [h3]
    cases digB w <;> cases (decide (1 < w.length) && w.head? == some 48) <;> cases (pt && (!digB p || p.getLast? == some 48)) <;> rfl
  have hhead : (w ++ (if pt = true then 46 :: p else [])).head? ≠ some 45 := by
    cases w with
    | nil => cases pt <;> simp
    | cons c r =>
      simp only [List.all_cons, Bool.and_eq_true] at hw
      simp only [List.cons_append, List.head?_cons, ne_eq, Option.some.injEq]
      exact (dig_ne hw.1).2
  generalize w ++ (if pt = true then 46 :: p else []) = body at *
  rw [hbad]
  have hsame : ∀ l : List UInt8, (bindO (guardO (okIdx l) (
      rangeX (fun (i139 : Nat) (c141 : UInt8) (v140 : Int) =>
        bindO (if ((c141.toNat : Int) == 46) = true then
              some (i139 : Int)
            else
              some v140) fun (v142 : Int) =>
        some (.go v142)) (fun (v140 : Int) => some v140) l 0 (l.length : Int))) fun (v124 : Int) =>
  bindO (if (v124 == 0) = true then
        some true
      else
        if (decide (v124 > 1)) = true then
          bindO (gt l 0) fun (c143 : UInt8) =>
          some ((c143.toNat : Int) == 48)
        else
          some false) fun (v144 : Bool) =>
  if v144 = true then
    some false
  else
    bindO (if (v124 == (l.length : Int)) = true then
          some true
        else
          if (decide (v124 < (IntKind.i64.wrap ((l.length : Int) - 1)))) = true then
            bindO (gt l (IntKind.i64.wrap ((l.length : Int) - 1))) fun (c145 : UInt8) =>
            some ((c145.toNat : Int) != 48)
          else
            some false) fun (v146 : Bool) =>
    some v146) = canB l := fun l => rfl
  unfold r41_canonical
  simp only [hsame]
  cases neg with
  | true =>
    have h1 : decide (((([45] : List UInt8) ++ body).length : Int) > 0) = true := decide_eq_true (by simp)
    rw [if_pos rfl, h1, if_pos rfl, show gt (([45] : List UInt8) ++ body) 0 = some 45 from rfl, bindO_s, bindO_s]
    rw [show (((45 : UInt8).toNat : Int) == 45) = true from rfl, if_pos rfl]
    have h2 : ((([45] : List UInt8) ++ body) == [45, 48]) = (body == [48]) := rfl
    rw [h2, Bool.true_and]
    cases (body == [48]) with
    | true => rw [Bool.or_true]; rfl
    | false =>
      have h3 : cutF (([45] : List UInt8) ++ body) 1 = some body := by unfold cutF; rw [if_neg (by simp; omega)]; rfl
      rw [if_neg (by simp), h3, bindO_s, bindX_g, hB, Bool.or_false]
  | false =>
    rw [show ((if false = true then ([45] : List UInt8) else []) ++ body) = body from rfl, Bool.false_and, Bool.or_false]
    have h1 : (if (decide ((body.length : Int) > 0)) = true then
        bindO (gt body 0) fun (c101 : UInt8) =>
        some ((c101.toNat : Int) == 45)
      else
        some false) = some false := by
      cases body with
      | nil => rfl
      | cons c r =>
        rw [decide_eq_true (show ((c :: r).length : Int) > 0 by simp), if_pos rfl, show gt (c :: r) 0 = some c from rfl, bindO_s, c45]
        have : (c == 45) = false := by
          simp only [List.head?_cons, ne_eq, Option.some.injEq] at hhead
          simpa using hhead
        rw [this]
    rw [h1, bindO_s, if_neg (by simp), bindX_g, hB]
theorem places_eq (b k : Nat) (pt : Bool) (hb : b < 1000) (hk : pt = true → 1 ≤ k ∧ k ≤ 3) : loopX (fun (v223 : Int × Int) =>
          if ((decide (v223.2 ≥ 0)) && (decide (v223.2 < 3))) = true then
            some (.go (IntKind.u64.wrap (10 * v223.1), IntKind.i64.wrap (v223.2 + 1)))
          else
            some (.ret v223.1)) fuel ((b : Int), (if pt = true then (k : Int) else -1)) = some (((if pt = true then b * 10 ^ (3 - k) else b : Nat)) : Int) := by
  cases pt with
  | false =>
    have key : Tot (loopX (fun (v223 : Int × Int) =>
          if ((decide (v223.2 ≥ 0)) && (decide (v223.2 < 3))) = true then
            some (.go (IntKind.u64.wrap (10 * v223.1), IntKind.i64.wrap (v223.2 + 1)))
          else
            some (.ret v223.1)) fuel ((b : Int), -1)) (fun o => o = (b : Int)) := by
      refine Tot.loop (fun m v => v = ((b : Int), -1)) _ 0 (fuel_gt (by omega)) rfl (fun m v hr => ?_)
      subst hr
      exact .ret rfl
    obtain ⟨o, ho, rfl⟩ := key
    exact ho
  | true =>
    obtain ⟨k1, k3⟩ := hk rfl
    rw [if_pos rfl, if_pos rfl]
    have key : Tot (loopX (fun (v223 : Int × Int) =>
          if ((decide (v223.2 ≥ 0)) && (decide (v223.2 < 3))) = true then
            some (.go (IntKind.u64.wrap (10 * v223.1), IntKind.i64.wrap (v223.2 + 1)))
          else
            some (.ret v223.1)) fuel ((b : Int), (k : Int))) (fun o => o = ((b * 10 ^ (3 - k) : Nat) : Int)) := by
      refine Tot.loop (fun m v => ∃ j : Nat, v = (((b * 10 ^ j : Nat) : Int), ((k + j : Nat) : Int)) ∧ k + j ≤ 3 ∧ m = 3 - k - j) _ (3 - k) (fuel_gt (by omega)) ⟨0, by simp, by omega, by omega⟩ (fun m v hr => ?_)
      obtain ⟨j, rfl, hj, hm⟩ := hr
      have hpow : b * 10 ^ j ≤ 1000 * 100 := by
        have : 10 ^ j ≤ 10 ^ 2 := Nat.pow_le_pow_right (by omega) (by omega)
        exact Nat.mul_le_mul (by omega) this
      refine TotX.ite (fun h => .go ⟨3 - k - (j + 1), ?_, j + 1, ?_, ?_, rfl⟩) (fun h => .ret ?_)
      · simp only [Bool.and_eq_true, decide_eq_true_eq] at h; omega
      · simp only [Bool.and_eq_true, decide_eq_true_eq] at h
        rw [wrap_u64, wrap_i64 (by omega) (by omega), Nat.pow_succ, ← Nat.mul_assoc]
        congr 1 <;> omega
      · simp only [Bool.and_eq_true, decide_eq_true_eq] at h; omega
      · simp only [Bool.and_eq_false_iff, decide_eq_false_iff_not] at h
        have : j = 3 - k := by omega
        rw [this]
    obtain ⟨o, ho, rfl⟩ := key
    exact ho
theorem num_zer (k : Nat) : num (zer k) = 0 := by
  induction k with
  | zero => rfl
  | succ k ih =>
    have : zer (k + 1) = zer k ++ [48] := by
      unfold zer
      rw [List.replicate_succ']
    rw [this, num_snoc, ih]; rfl
theorem r41_Value_eq (s : List UInt8) (hs : s.length ≤ 100000) : r41_Value s = some (valV s) := by
  obtain ⟨neg, body, w, p, pt, h1, h2, h3⟩ := vRun_eq s
  have hv : valV s = if badV neg body w p pt = true then (0, 2) else valN neg w p := by
    unfold valV; rw [h1]; simp only; rw [h2]
  have hun : r41_Value s = bindX (guardO (okIdx s) (rangeX vF vD s 0 (0, 0, -1, false, false))) fun (v155 : Int × Int × Int × Bool × Bool) =>
  bindO (r41_canonical s) fun (y210 : Bool) =>
  if (!y210) = true then
    some (0, 2)
  else
    bindO (loopX (fun (v223 : Int × Int) =>
          if ((decide (v223.2 ≥ 0)) && (decide (v223.2 < 3))) = true then
            some (.go (IntKind.u64.wrap (10 * v223.1), IntKind.i64.wrap (v223.2 + 1)))
          else
            some (.ret v223.1)) fuel (v155.2.1, v155.2.2.1)) fun (v217 : Int) =>
    if (v155.2.2.2.2 || (decide ((IntKind.u64.wrap ((IntKind.u64.wrap (1000 * v155.1)) + v217)) > 1000000000000))) = true then
      some (0, 11)
    else
      if v155.2.2.2.1 = true then
        some (IntKind.i64.wrap (0 - (IntKind.i64.wrap (IntKind.u64.wrap ((IntKind.u64.wrap (1000 * v155.1)) + v217)))), 0)
      else
        some (IntKind.i64.wrap (IntKind.u64.wrap ((IntKind.u64.wrap (1000 * v155.1)) + v217)), 0) := rfl
  rw [hun, okIdx_of (by omega), guardO_t, hv]
  rcases h3 with ⟨h3, h4⟩ | ⟨h3, hw, hp, hp0, hb, hsb⟩
  · rw [h3, h4, if_pos rfl]; rfl
  · rw [h3]
    unfold vRun
    rw [bindX_g]
    have hbl : body.length ≤ s.length := by rw [hsb]; simp
    have hcan := canon_eq neg w p pt hw hp hp0 (by rw [← hb]; omega)
    rw [← hb, ← hsb] at hcan
    rw [hcan, bindO_s]
    cases hbad : badV neg body w p pt with
    | true => rfl
    | false =>
      simp only [Bool.not_false, Bool.not_true, Bool.false_eq_true, if_false]
      obtain ⟨hcw, hpp, hnz⟩ := good_parts hbad
      have hnp : num p < 1000 ∧ (pt = true → 1 ≤ p.length ∧ p.length ≤ 3) := by
        cases pt with
        | false => rw [hp0 rfl]; exact ⟨by decide, fun q => by cases q⟩
        | true =>
          obtain ⟨a1, a2, a3, _⟩ := hpp rfl
          have := num_lt p a1
          have h5 : (10 : Nat) ^ p.length ≤ 10 ^ 3 := Nat.pow_le_pow_right (by omega) a3
          exact ⟨by omega, fun _ => ⟨List.length_pos_iff.2 a2, a3⟩⟩
      rw [places_eq (num p) p.length pt hnp.1 hnp.2, bindO_s]
      have hT : (if pt = true then num p * 10 ^ (3 - p.length) else num p) = num (p ++ zer (3 - p.length)) := by
        rw [num_app, num_zer]
        have hzl : (zer (3 - p.length)).length = 3 - p.length := by simp [zer]
        rw [hzl]
        cases pt with
        | true => simp
        | false => rw [hp0 rfl]; rfl
      have hpl : p.length ≤ 3 := by
        cases pt with
        | true => exact (hnp.2 rfl).2
        | false => rw [hp0 rfl]; simp
      have hTl : num (p ++ zer (3 - p.length)) < 1000 := by
        have h5 := num_lt (p ++ zer (3 - p.length)) (by
          rw [List.all_append, zer_dig]
          cases pt with
          | true => rw [(hp rfl).1]; rfl
          | false => rw [hp0 rfl]; rfl)
        have h6 : (p ++ zer (3 - p.length)).length = 3 := by simp [zer]; omega
        rw [h6] at h5
        exact h5
      have hN : num (w ++ p ++ zer (3 - p.length)) = 1000 * num w + num (p ++ zer (3 - p.length)) := by
        rw [List.append_assoc, num_app]
        have h6 : (p ++ zer (3 - p.length)).length = 3 := by simp [zer]; omega
        rw [h6]
        omega
      rw [hT]
      unfold valN
      rw [hN]
      have hcap := cap_num w 0 (by omega)
      have hnum0 : numA 0 w = num w := rfl
      rw [hnum0] at hcap
      generalize num (p ++ zer (3 - p.length)) = T at *
      by_cases hbig : num w ≤ 1000000000000
      · rw [if_pos hbig] at hcap
        rw [hcap]
        simp only [Bool.false_or]
        have hwv : IntKind.u64.wrap (IntKind.u64.wrap (1000 * (num w : Int)) + (T : Int)) = ((1000 * num w + T : Nat) : Int) := by
          rw [wrap_u64, wrap_u64]; omega
        rw [hwv]
        by_cases h10 : w.length > 10
        · rw [if_pos h10]
          have hge := num_pos hw hcw.2.1 (hcw.2.2 (by omega))
          have h5 : (10 : Nat) ^ 10 ≤ 10 ^ (w.length - 1) := Nat.pow_le_pow_right (by omega) (by omega)
          rw [decide_eq_true (show ((1000 * num w + T : Nat) : Int) > 1000000000000 by omega), if_pos rfl]
        · rw [if_neg h10]
          by_cases hM : 1000 * num w + T > 1000000000000
          · rw [decide_eq_true (show ((1000 * num w + T : Nat) : Int) > 1000000000000 by omega), if_pos rfl, if_pos hM]
          · rw [decide_eq_false (show ¬ ((1000 * num w + T : Nat) : Int) > 1000000000000 by omega), if_neg (by simp), if_neg hM]
            have hwi : IntKind.i64.wrap ((1000 * num w + T : Nat) : Int) = ((1000 * num w + T : Nat) : Int) := wrap_i64 (by omega) (by omega)
            rw [hwi]
            cases neg with
            | true => rw [if_pos rfl, if_pos rfl, wrap_i64 (by omega) (by omega), Int.zero_sub]
            | false => rfl
      · rw [if_neg hbig] at hcap
        rw [hcap]
        have h10 : w.length > 10 ∨ w.length ≤ 10 := by omega
        simp only [Bool.true_or, if_true]
        rcases h10 with h10 | h10
        · rw [if_pos h10]
        · rw [if_neg (by omega), if_pos (by omega)]
end Go.Proofs.YtijihbegfmkceaaDoor
