/-
  Tm, Ts in one text.
-/
import Derived.Test.YtpdjgamdnjfmkaaGreatDoorTx
import Derived.Test.YtpdjgamdnjfmkaaGreatDoorJhf
import Derived.Test.YtpdjgamdnjfmkaaGreatDoorTy2
namespace Go.Proofs.YtpdjgamdnjfmkaaGreatDoor
open Go.RowKit
set_option linter.unusedVariables false
set_option linter.unusedSimpArgs false
theorem r01_Parse_bad {s : List UInt8} {neg : Bool} {b : List UInt8} (hs : strip s = (neg, b)) (h : ¬ canI neg b) (hl : s.length ≤ 65536) : r01_Parse s = some (ApiInt.mk false [], 2) := by
  have hbl : b.length ≤ s.length := by have := strip_len s; rw [hs] at this; exact this
  apply Tot.get
  unfold r01_Parse
  obtain ⟨⟨u1, u2⟩, hu, he⟩ := strip_word (s := s) (by omega)
  rw [hs] at he
  injection he with e1 e2
  subst e1 e2
  cases hv1 : (if (decide ((s.length : Int) > 0)) = true then
        bindO (gt s 0) fun (c1 : UInt8) =>
        some ((c1.toNat : Int) == 45)
      else
        some false) with
  | none => rw [hv1] at hu; cases hu
  | some v1 =>
    rw [hv1, bindO_s] at hu
    rw [bindO_s]
    cases hv2 : (if v1 = true then
        bindO (cutF s 1) fun (s1 : List UInt8) =>
        some s1
      else
        some s) with
    | none => rw [hv2] at hu; cases hu
    | some v2 =>
      rw [hv2, bindO_s] at hu
      rw [bindO_s]
      injection hu with hu
      injection hu with hu1 hu2
      subst hu1 hu2
      clear hv1 hv2
      refine Tot.bind (E := fun v => v = true ∨ (v2 ≠ [] ∧ v2.head? ≠ some 48)) (Tot.ite (fun q => .ok (.inl rfl)) (fun q => ?_)) (fun v hv => ?_)
      · have hne : v2 ≠ [] := by simpa using q
        refine Tot.ite (fun q => .ok (.inl rfl)) (fun _ => ?_)
        cases hc : v2 with
        | nil => exact absurd hc hne
        | cons c r =>
          have e0 : gt (c :: r) 0 = some c := rfl
          rw [e0, bindO_s]
          refine Tot.ite (fun q => .ok (.inl ?_)) (fun q => .ok (.inr ⟨by simp, ?_⟩))
          · rw [Bool.not_eq_true', beq_eq_false_iff_ne]
            intro z
            rw [z] at hs
            have : strip [48] = (false, [48]) := rfl
            rw [this] at hs
            injection hs with h1 h2
            subst h1 h2
            exact h canI_zero
          · intro z
            injection z with z
            subst z
            cases q
      · refine Tot.ite (fun _ => .ok rfl) (fun q => ?_)
        obtain ⟨h1, h2⟩ := hv.resolve_left (by rw [q]; simp)
        have hnd : ¬ v2.all isD = true := by
          intro z
          refine h ⟨⟨z, h1, fun _ => h2⟩, fun _ => ?_⟩
          have := num_pos z h1 h2
          have := pow10_pos (v2.length - 1)
          omega
        have hL : IntKind.i64.wrap ((IntKind.i64.wrap (Int.tdiv (v2.length : Int) 9)) + 1) = ((v2.length / 9 + 1 : Nat) : Int) := by
          rw [tdv (by omega), wI64 (n := (v2.length : Int) / 9) (by omega) (by omega), wI64 (by omega) (by omega)]; omega
        rw [hL, Int.toNat_natCast]
        refine Tot.guard (decide_eq_true (by omega)) (Tot.guard (okLen_of (by omega)) ?_)
        refine Tot.bindX (E := fun l => False) (TotX.of (Tot.guard (okIdx_of (by omega)) (Tot.range (fun i l => l.length = v2.length / 9 + 1 ∧ (v2.take i).all isD = true) _ ⟨by simp, by simp⟩ (fun i c l hx hr => ?_) (fun l hr => .ok ?_)))) (fun l hl' => hl'.elim)
        · obtain ⟨r1, r2⟩ := hr
          have hil := getElem_lt hx
          have hat : IntKind.i64.wrap ((IntKind.i64.wrap ((v2.length : Int) - 1)) - (i : Int)) = ((v2.length - 1 - i : Nat) : Int) := by
            rw [wI64 (n := (v2.length : Int) - 1) (by omega) (by omega), wI64 (by omega) (by omega)]; omega
          rw [hat]
          obtain ⟨p, hp⟩ : ∃ p, v2.length - 1 - i = p := ⟨_, rfl⟩
          rw [hp]
          have hdv : IntKind.i64.wrap (Int.tdiv ((p : Nat) : Int) 9) = ((p / 9 : Nat) : Int) := by rw [tdv (by omega), wI64 (by omega) (by omega)]; omega
          have hmd : Int.tmod ((p : Nat) : Int) 9 = ((p % 9 : Nat) : Int) := by rw [tmd (by omega)]; omega
          rw [hdv, hmd, Int.toNat_natCast]
          have hpl : p / 9 < l.length := by omega
          have hm9 : p % 9 < 9 := Nat.mod_lt _ (by omega)
          refine TotX.bindX (E := fun u => u.length = l.length ∧ isD c = true) (TotX.ite (fun q => .ret rfl) (fun q => ?_)) (fun u hu => .go ⟨hu.1.trans r1, ?_⟩)
          · rw [pow_loop (by omega), bindO_s, gt_l hpl, bindO_s, bindO_s]
            refine .go ⟨by simp, ?_⟩
            rw [notD] at q
            simpa using q
          · rw [List.take_add_one, hx, List.all_append, r2]
            simp [hu.2]
        · exact hnd (by have := hr.2; rwa [List.take_of_length_le (Nat.le_refl _)] at this)
def intB (s : List UInt8) : Bool := !s.contains 46 && prsB s
theorem lz_one {b : List UInt8} (h : canW b) : lz b = [] ↔ b = [48] := by
 constructor
 ·intro z
  have h0 : num b = 0 := by rw [← num_lz, z]; rfl
  by_cases y : b.head? = some 48
  ·exact canW_zero h y
  ·have := num_pos h.1 h.2.1 y
   have := pow10_pos (b.length - 1)
   omega
 ·rintro rfl; rfl
theorem strip_cont (s : List UInt8) : s.contains 46 = (strip s).2.contains 46 := by
 cases s with
 | nil => rfl
 | cons c r =>
  rw [strip_cons]
  by_cases h : c = 45
  ·subst h; rw [if_pos rfl]; simp
  ·rw [if_neg h]
theorem cutV_none {b : List UInt8} (h : b.contains 46 = false) : cutV b = (b, [], false) := by
 have h1 : ∀ x ∈ b, (x != 46) = true := by
  intro x hx
  have : ¬ (46 ∈ b) := by simpa using h
  simp only [bne_iff_ne, ne_eq]
  rintro rfl
  exact this hx
 unfold cutV
 rw [h]
 have e1 : b.dropWhile (· != 46) = [] := dw_nil.2 h1
 have e2 : b.takeWhile (· != 46) = b := by
  have := List.takeWhile_append_dropWhile (p := (· != 46)) (l := b)
  rw [e1, List.append_nil] at this
  exact this
 rw [e1, e2]; rfl
theorem intB_can (s : List UInt8) : intB s = true ↔ canI (strip s).1 (strip s).2 := by
 unfold intB
 rw [strip_cont]
 generalize hb : (strip s).2 = b
 by_cases h : b.contains 46 = true
 ·rw [h]
  constructor
  ·intro z; cases z
  ·intro z
   have := cont_dig b z.1.1
   rw [this] at h; cases h
 ·have h' : b.contains 46 = false := by simpa using h
  have hp : prsB s = okD (strip s).1 b [] false := by
   unfold prsB
   rw [hb, cutV_none h']
  rw [h', hp]
  unfold okD goodB digB canI canW
  rw [List.append_nil]
  simp only [Bool.not_false, Bool.true_and, Bool.true_or, Bool.and_true, Bool.and_eq_true, Bool.not_eq_true', Bool.or_eq_true, Bool.and_eq_false_iff, decide_eq_false_iff_not]
  constructor
  ·rintro ⟨⟨⟨a1, a2⟩, a3⟩, a4⟩
   have c1 : canW b := ⟨a1, (fun z => by rw [z] at a2; cases a2), fun z => by
    rcases a3 with y | y
    ·exact absurd z y
    ·simpa using y⟩
   refine ⟨c1, fun z => ?_⟩
   rcases a4 with y | y
   ·rw [z] at y; cases y
   ·intro hz
    have : lz b ≠ [] := fun w => by rw [w] at y; cases y
    refine this ((lz_one c1).2 ?_)
    by_cases yy : b.head? = some 48
    ·exact canW_zero c1 yy
    ·have := num_pos c1.1 c1.2.1 yy
     have := pow10_pos (b.length - 1)
     omega
  ·rintro ⟨⟨a1, a2, a3⟩, a4⟩
   refine ⟨⟨⟨a1, (by cases b with | nil => exact absurd rfl a2 | cons c r => rfl)⟩, ?_⟩, ?_⟩
   ·by_cases y : 1 < b.length
    ·right; simpa using a3 y
    ·left; exact y
   ·cases hn : (strip s).1 with
    | false => left; rfl
    | true =>
     right
     cases hz : lz b with
     | cons c r => rfl
     | nil =>
      have := (lz_one ⟨a1, a2, a3⟩).1 hz
      rw [this] at a4
      exact absurd rfl (a4 hn)
def intZ (s : List UInt8) : Int := signI (strip s).1 (num (strip s).2)
theorem r01_Parse_all {s : List UInt8} (hl : s.length ≤ 65536) : r01_Parse s = some (if intB s = true then (ofI (intZ s), 0) else (ApiInt.mk false [], 2)) := by
 by_cases h : intB s = true
 ·rw [if_pos h, r01_Parse_eq rfl ((intB_can s).1 h) hl]; rfl
 ·rw [if_neg h, r01_Parse_bad rfl (fun z => h ((intB_can s).2 z)) hl]
end Go.Proofs.YtpdjgamdnjfmkaaGreatDoor
namespace Go.Proofs.YtpdjgamdnjfmkaaGreatDoor
open Go.RowKit
set_option linter.unusedVariables false
set_option linter.unusedSimpArgs false
theorem decQ_BQ {neg : Bool} {w p : List UInt8} (h : (w ++ p).all isD = true) : BQ (w.length + p.length + 1) (decQ neg w p) := by
 have := Bd_num h
 rw [List.length_append] at this
 exact divInt_BQ (Bd_sign this) ((Bd_ten _).mono (by omega)) (Int.ne_of_gt (ten_pos _))
theorem prsQ_BQ {s : List UInt8} (h : prsB s = true) : BQ (s.length + 2) (prsQ s) := by
 unfold prsB okD at h
 rw [Bool.and_eq_true] at h
 have hbl := strip_len s
 obtain ⟨hbw, hpt⟩ := cutV_len (b := (strip s).2) (w := (cutV (strip s).2).1) (p := (cutV (strip s).2).2.1) (pt := (cutV (strip s).2).2.2) rfl
 obtain ⟨g1, g2, g3, g4, g5⟩ := good_all h.1 hpt
 unfold prsQ
 generalize (cutV (strip s).2).1 = w at *
 generalize (cutV (strip s).2).2.1 = p at *
 generalize (cutV (strip s).2).2.2 = pt at *
 have hall : (w ++ p).all isD = true := by rw [List.all_append, g1, g3]; rfl
 refine (decQ_BQ hall).mono ?_
 cases pt with
 | true => simp only [if_true] at hbw; omega
 | false => rw [hpt rfl] at *; simp only [Bool.false_eq_true, if_false, List.length_nil] at *; omega
def lenT (k : Int) (s : List UInt8) : ApiRat × Bool := if (k == 2 && prsB s) = true then (ofQ (prsQ s * ((1000 : Int) : Rat)), true) else (zeroR, false)
theorem BQ_thousand : BQ 3 ((1000 : Int) : Rat) := BQ.int (Bd.i64 (by omega) (by omega)) (by omega)
theorem ra_FromInt64_eq {z : Int} (h1 : -9223372036854775808 ≤ z) (h2 : z ≤ 9223372036854775807) : ra_FromInt64 z = some (ofQ (z : Rat)) := by
 unfold ra_FromInt64 ra_whole
 rw [it_FromInt64_eq h1 h2, bindO_s, ra_unit_eq]
 rfl
theorem lx_Length_eq {k p : Int} {s : List UInt8} (hl : s.length ≤ 1000) : lx_Length (LexerToken.mk k p s) = some (lenT k s) := by
 unfold lx_Length lenT
 by_cases h : k = 2
 ·subst h
  rw [if_neg (by simp)]
  show bindO (dc_Parse s) _ = _
  rw [dc_Parse_all (by omega), bindO_s]
  by_cases hp : prsB s = true
  ·rw [if_pos hp, hp, if_neg (by simp), if_pos (by simp), ra_FromInt64_eq (by omega) (by omega), bindO_s]
   show bindO (ra_Mul (ofQ (prsQ s)) (ofQ ((1000 : Int) : Rat))) _ = _
   rw [ra_Mul_eq (prsQ_BQ hp) BQ_thousand (by omega)]; rfl
  ·rw [if_neg hp, if_pos (by simp), Bool.eq_false_iff.2 hp]; rfl
 ·have : (k == 2) = false := beq_eq_false_iff_ne.2 h
  rw [if_pos (by simpa using h), this]; rfl
theorem r21_Length_eq {k p : Int} {s : List UInt8} (hl : s.length ≤ 1000) : r21_Length (R21Token.mk k p s) = some (lenT k s) := by
 unfold r21_Length lenT
 show bindO (r06_Parse s) _ = _
 rw [r06_Parse_all (by omega), bindO_s]
 by_cases h : k = 2
 ·subst h
  by_cases hp : prsB s = true
  ·rw [if_pos hp, hp, if_neg (by simp), if_pos (by simp), r02_FromInt64_eq (by omega) (by omega), bindO_s]
   show bindO (r02_Mul (ofQ (prsQ s)) (ofQ ((1000 : Int) : Rat))) _ = _
   rw [r02_Mul_eq (prsQ_BQ hp) BQ_thousand (by omega)]; rfl
  ·rw [if_neg hp, if_pos (by simp), Bool.eq_false_iff.2 hp]; rfl
 ·have : (k == 2) = false := beq_eq_false_iff_ne.2 h
  have h2 : (k != 2) = true := by simpa using h
  rw [this]
  show (if (k != 2 || _) = true then _ else _) = _
  rw [h2, if_pos (by simp)]; rfl
def shp (k : Int) (t : List UInt8) : List UInt8 := if (k == 1) = true then [110] else if (k == 2) = true then [100] else if ((k == 3) && ((t.length : Int) == 1)) = true then t else [63]
theorem shp_len (k : Int) (t : List UInt8) : (shp k t).length = 1 := by
 unfold shp
 split
 ·rfl
 ·split
  ·rfl
  ·split
   ·rename_i h
    simp at h; omega
   ·rfl
theorem fm_len {α : Type} {f : α → List UInt8} (hf : ∀ x, (f x).length = 1) : ∀ l : List α, (l.flatMap f).length = l.length
 | [] => rfl
 | x :: l => by rw [List.flatMap_cons, List.length_append, hf, fm_len hf l]; simp; omega
theorem shp1 {k : Int} {t : List UInt8} (h : (k == 1) = true) : shp k t = [110] := by unfold shp; rw [if_pos h]
theorem shp2 {k : Int} {t : List UInt8} (h : (k == 1) = false) (h2 : (k == 2) = true) : shp k t = [100] := by unfold shp; rw [if_neg (by rw [h]; decide), if_pos h2]
theorem shp3 {k : Int} {t : List UInt8} (h : (k == 1) = false) (h2 : (k == 2) = false) (h3 : ((k == 3) && ((t.length : Int) == 1)) = true) : shp k t = t := by unfold shp; rw [if_neg (by rw [h]; decide), if_neg (by rw [h2]; decide), if_pos h3]
theorem shp4 {k : Int} {t : List UInt8} (h : (k == 1) = false) (h2 : (k == 2) = false) (h3 : ((k == 3) && ((t.length : Int) == 1)) = false) : shp k t = [63] := by unfold shp; rw [if_neg (by rw [h]; decide), if_neg (by rw [h2]; decide), if_neg (by rw [h3]; decide)]
theorem lx_Shape_eq {l : List LexerToken} (hl : l.length ≤ 1000) : lx_Shape l = some (l.flatMap fun e => shp e.Kind e.Text) := by
 apply Tot.get
 unfold lx_Shape
 refine Tot.bind (E := fun v => v = l.flatMap fun e => shp e.Kind e.Text) (Tot.guard (okIdx_of (by omega)) (Tot.range (fun i (v : List UInt8) => v = (l.take i).flatMap fun e => shp e.Kind e.Text) _ rfl (fun i e v hx hr => ?_) (fun v hr => .ok ?_))) (fun v hv => .ok hv)
 ·have hi := getElem_lt hx
  have hlen : v.length ≤ 1000 := by
   rw [hr, fm_len (fun (e : LexerToken) => shp_len e.Kind e.Text), List.length_take]; omega
  have ht : (l.take (i + 1)).flatMap (fun e => shp e.Kind e.Text) = v ++ shp e.Kind e.Text := by
   rw [List.take_add_one, hx, hr, List.flatMap_append]; simp
  rw [ht]
  refine TotX.bind (E := fun u => u = v ++ shp e.Kind e.Text) ?_ (fun u hu => .go hu)
  refine Tot.ite (fun q1 => ?_) (fun q1 => ?_)
  ·exact .guard (okLen_of (by omega)) (.ok (by rw [shp1 q1]))
  ·refine Tot.ite (fun q2 => ?_) (fun q2 => ?_)
   ·exact .guard (okLen_of (by omega)) (.ok (by rw [shp2 q1 q2]))
   ·refine Tot.ite (fun q3 => ?_) (fun q3 => ?_)
    ·have : e.Text.length = 1 := by simp at q3; omega
     exact .guard (okLen_of (by omega)) (.ok (by rw [shp3 q1 q2 q3]))
    ·exact .guard (okLen_of (by omega)) (.ok (by rw [shp4 q1 q2 q3]))
 ·rw [hr, List.take_length]
theorem r21_Shape_eq {l : List R21Token} (hl : l.length ≤ 1000) : r21_Shape l = some (l.flatMap fun e => shp e.Kind e.Text) := by
 apply Tot.get
 unfold r21_Shape
 refine Tot.bind (E := fun v => v = l.flatMap fun e => shp e.Kind e.Text) (Tot.guard (okIdx_of (by omega)) (Tot.range (fun i (v : List UInt8) => v = (l.take i).flatMap fun e => shp e.Kind e.Text) _ rfl (fun i e v hx hr => ?_) (fun v hr => .ok ?_))) (fun v hv => .ok hv)
 ·have hi := getElem_lt hx
  have hlen : v.length ≤ 1000 := by
   rw [hr, fm_len (fun (e : R21Token) => shp_len e.Kind e.Text), List.length_take]; omega
  have ht : (l.take (i + 1)).flatMap (fun e => shp e.Kind e.Text) = v ++ shp e.Kind e.Text := by
   rw [List.take_add_one, hx, hr, List.flatMap_append]; simp
  rw [ht]
  refine TotX.bind (E := fun u => u = shp e.Kind e.Text) ?_ (fun u hu => ?_)
  ·refine Tot.ite (fun q1 => .ok (shp1 q1).symm) (fun q1 => ?_)
   refine Tot.ite (fun q2 => .ok (shp2 q1 q2).symm) (fun q2 => ?_)
   exact Tot.ite (fun q3 => .ok (shp3 q1 q2 q3).symm) (fun q3 => .ok (shp4 q1 q2 q3).symm)
  ·subst hu
   have := shp_len e.Kind e.Text
   exact .guard (okStr_of (by omega)) (.go rfl)
 ·rw [hr, List.take_length]
theorem has_dot (s : List UInt8) : strings_Contains s [46] = some (s.contains 46) := by
 show some (decide (0 ≤ Lib.indexByte s 46)) = _
 rcases idx_facts s with ⟨h1, _, _, h2⟩ | ⟨o, h1, _, _, _, h2⟩
 ·rw [h1, h2]; rfl
 ·rw [h1, h2, decide_eq_true (by omega)]
def intV (k : Int) (s : List UInt8) : Int × Bool := if (k == 2 && intB s) = true then (if -9223372036854775808 ≤ intZ s ∧ intZ s ≤ 9223372036854775807 then (intZ s, true) else (0, false)) else (0, false)
theorem lx_Integer_eq {k p : Int} {s : List UInt8} (hl : s.length ≤ 1000) : lx_Integer (LexerToken.mk k p s) = some (intV k s) := by
 unfold lx_Integer intV
 by_cases h : k = 2
 ·subst h
  show bindO (if ((2 : Int) != 2) = true then some true else bindO (strings_Contains s [46]) fun y1 => some y1) _ = _
  rw [if_neg (by simp), has_dot, bindO_s, bindO_s]
  by_cases h2 : s.contains 46 = true
  ·have : intB s = false := by unfold intB; rw [h2]; rfl
   rw [h2, this]; rfl
  ·have h2' := Bool.eq_false_iff.2 h2
   rw [h2']
   simp only [Bool.false_eq_true, if_false]
   show bindO (dc_Parse s) _ = _
   rw [dc_Parse_all (by omega), bindO_s]
   have hB : intB s = prsB s := by unfold intB; rw [h2']; rfl
   by_cases hp : prsB s = true
   ·have hcan := (intB_can s).1 (hB.trans hp)
    have hbl := strip_len s
    obtain ⟨r, r1, r2, r3⟩ := parseE (neg := (strip s).1) hcan.1.1 hcan.1.2.1 (by omega)
    rw [← strip_inv s] at r1
    rw [if_pos hp, hB, hp, if_neg (by simp), if_pos (by simp)]
    show bindO (strconv_ParseIntE s 10 64) _ = _
    rw [r1, bindO_s]
    cases hr : r.2 with
    | true =>
     obtain ⟨q1, q2⟩ := r2 hr
     have hz : intZ s = signI (strip s).1 (num (strip s).2) := rfl
     rw [hz, if_pos q2, q1]; rfl
    | false =>
     have hz : intZ s = signI (strip s).1 (num (strip s).2) := rfl
     rw [hz, if_neg (r3 hr)]; rfl
   ·rw [if_neg hp, hB, Bool.eq_false_iff.2 hp, if_pos (by simp)]; rfl
 ·have : (k == 2) = false := beq_eq_false_iff_ne.2 h
  have h2 : (k != 2) = true := by simpa using h
  show bindO (if (k != 2) = true then some true else _) _ = _
  rw [h2, this]; rfl
theorem r21_Integer_eq {k p : Int} {s : List UInt8} (hl : s.length ≤ 900) : r21_Integer (R21Token.mk k p s) = some (intV k s) := by
 unfold r21_Integer intV
 show bindO (r01_Parse s) _ = _
 rw [r01_Parse_all (by omega), bindO_s]
 by_cases h : k = 2
 ·subst h
  by_cases hp : intB s = true
  ·have hcan := (intB_can s).1 hp
   have hbl := strip_len s
   have hd := Bd_sign (neg := (strip s).1) (Bd_num hcan.1.1)
   rw [if_pos hp, hp, if_neg (by simp), if_pos (by simp)]
   show bindO (r01_Int64 (ofI (intZ s))) _ = _
   rw [r01_Int64_eq (n := (strip s).2.length + 1) (z := intZ s) (hd.mono (by omega)) (by omega), bindO_s]
  ·rw [if_neg hp, Bool.eq_false_iff.2 hp, if_pos (by simp)]; rfl
 ·have : (k == 2) = false := beq_eq_false_iff_ne.2 h
  have h2 : (k != 2) = true := by simpa using h
  rw [this]
  show (if (k != 2 || _) = true then _ else _) = _
  rw [h2, if_pos (by simp)]; rfl
end Go.Proofs.YtpdjgamdnjfmkaaGreatDoor
