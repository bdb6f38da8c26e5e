/-
  Vh, Vj, Vk in one text.
-/
import Derived.Test.YtopjpenbieojmaaDoorQe
import Derived.Test.YtopjpenbieojmaaDoorVy
import Derived.Test.YtopjpenbieojmaaDoorQx
namespace Go.Proofs.YtopjpenbieojmaaDoor
open Go.RowKit
def asc (L : List TableLength) (i : Nat) : Prop := ∀ a b x y, a < b → b < i → L[a]? = some x → L[b]? = some y → x.Number < y.Number
theorem tb_Valid_asc (t : TableTable) (hl : t.Lengths.length ≤ 1000) (h : tb_Valid t = some 0) : asc t.Lengths t.Lengths.length := by
 have key : Tot (tb_Valid t) (fun e => e = 0 → asc t.Lengths t.Lengths.length) := by
  unfold tb_Valid
  simp only [tb_far_eq, bindO_s]
  refine Tot.bind (E := fun _ => True) (Tot.bind (E := fun _ => True) (Tot.bindX (E := fun _ => True) ?_ (fun _ _ => .ok trivial)) (fun i _ => .ok trivial)) (fun b _ => Tot.ite (fun _ => .ok (by simp)) (fun _ => ?_))
  ·repeat' (first | exact TotX.ret trivial | exact TotX.go trivial | refine TotX.ite (fun _ => ?_) (fun _ => ?_))
  ·refine Tot.bindX (E := fun _ => asc t.Lengths t.Lengths.length) (TotX.guard (okIdx_of (by omega)) (TotX.of (Tot.range (fun i _ => asc t.Lengths i) _ (fun a b x y h1 h2 => by omega) (fun i x v hx hr => ?_) (fun v hr => .ok hr)))) (fun _ h => .ok fun _ => h)
   have hlt := getElem_lt hx
   refine TotX.bind (E := fun b => b = true ∨ ∀ y, i > 0 → t.Lengths[i - 1]? = some y → y.Number < x.Number) ?_ (fun b hb => TotX.ite (fun _ => .ret (by simp)) (fun hf => .go ?_))
   ·unfold tb_entry
    rw [bindO_s]
    refine Tot.ite (fun _ => ?_) (fun _ => .ok (.inl rfl))
    refine Tot.ite (fun hi => ?_) (fun hi => .ok (.inr fun y h0 => by simp at hi; omega))
    simp at hi
    rw [wrap_i64 (by omega) (by omega), show ((i : Int) - 1) = ((i - 1 : Nat) : Int) by omega]
    obtain ⟨y, hy⟩ : ∃ y, t.Lengths[i - 1]? = some y := ⟨_, List.getElem?_eq_getElem (by omega)⟩
    rw [gt_k hy, bindO_s]
    by_cases hq : y.Number ≥ x.Number
    ·exact .ok (.inl (by simpa using hq))
    ·refine .ok (.inr fun z _ hz => ?_)
     rw [hy] at hz; injection hz with hz; subst hz; omega
   ·have hb' := hb.resolve_left (by simp [hf])
    intro a b y z h1 h2 hy hz
    rcases Nat.lt_or_ge b i with q | q
    ·exact hr a b y z h1 q hy hz
    ·obtain rfl : b = i := by omega
     rw [hx] at hz; injection hz with hz; subst hz
     obtain ⟨u, hu⟩ : ∃ u, t.Lengths[b - 1]? = some u := ⟨_, List.getElem?_eq_getElem (by omega)⟩
     have h3 := hb' u (by omega) hu
     rcases Nat.lt_or_ge a (b - 1) with q2 | q2
     ·have := hr a (b - 1) y u q2 (by omega) hy hu
      omega
     ·obtain rfl : a = b - 1 := by omega
      rw [hy] at hu; injection hu with hu; subst hu; exact h3
 obtain ⟨e, h1, h2⟩ := key
 rw [h] at h1; injection h1 with h1
 exact h2 h1.symm
def placed (L : List TableLength) (n : Int) (r : Int × Bool) : Prop := 0 ≤ r.1 ∧ r.1 ≤ (L.length : Int) ∧ (∀ (k : Nat) x, L[k]? = some x → ((k : Int) < r.1 → x.Number < n) ∧ (r.1 ≤ (k : Int) → n ≤ x.Number)) ∧ (r.2 = true ↔ ∃ x, L[r.1.toNat]? = some x ∧ x.Number = n)
theorem tb_find_at (t : TableTable) (n : Int) (hl : t.Lengths.length ≤ 1000) (hs : asc t.Lengths t.Lengths.length) : Tot (tb_find t n) (placed t.Lengths n) := by
 unfold tb_find
 refine Tot.bind (E := placed t.Lengths n) (Tot.bind (E := fun v : Int => 0 ≤ v ∧ v ≤ (t.Lengths.length : Int) ∧ ∀ (k : Nat) x, t.Lengths[k]? = some x → ((k : Int) < v → x.Number < n) ∧ (v ≤ (k : Int) → n ≤ x.Number)) ?_ (fun v hv => ?_)) (fun r hr => .ok hr)
 ·refine Tot.loop (fun m v => 0 ≤ v.1 ∧ v.1 ≤ v.2 ∧ v.2 ≤ (t.Lengths.length : Int) ∧ m = (v.2 - v.1).toNat ∧ ∀ (k : Nat) x, t.Lengths[k]? = some x → ((k : Int) < v.1 → x.Number < n) ∧ (v.2 ≤ (k : Int) → n ≤ x.Number)) _ t.Lengths.length (fuel_gt (by omega)) ⟨by simp, by simp, by simp, by simp, fun k x hx => ⟨fun q => by simp at q, fun q => by have := getElem_lt hx; simp at q; omega⟩⟩ (fun m v hr => ?_)
  obtain ⟨a, b, c, d, hk⟩ := hr
  refine TotX.ite (fun h => ?_) (fun h => .ret ?_)
  ·simp at h
   rw [mid_eq a (by omega) (by omega) (by omega)]
   obtain ⟨y, hy, hy2⟩ := gt_ok' (l := t.Lengths) (i := (v.1 + v.2) / 2) (by omega) (by omega)
   rw [hy, bindO_s]
   unfold tb_find_c1
   rw [compare_eq, bindO_s, bindO_s]
   have hm : ((((v.1 + v.2) / 2).toNat : Nat) : Int) = (v.1 + v.2) / 2 := by omega
   refine TotX.ite (fun hc => .go ?_) (fun hc => .go ?_)
   ·have hlt : y.Number < n := by
     by_cases q : y.Number < n
     ·exact q
     ·rw [if_neg q] at hc; split at hc <;> simp at hc
    rw [wrap_i64 (by omega) (by omega)]
    refine ⟨_, by omega, by simp; omega, by simp; omega, c, rfl, fun k x hx => ⟨fun q => ?_, fun q => (hk k x hx).2 q⟩⟩
    simp only at q
    rcases Nat.lt_or_ge k ((v.1 + v.2) / 2).toNat with z | z
    ·have := hs k _ x y z (getElem_lt hy2) hx hy2; omega
    ·obtain rfl : k = ((v.1 + v.2) / 2).toNat := by omega
     rw [hy2] at hx; injection hx with hx; subst hx; exact hlt
   ·have hge : n ≤ y.Number := by
     by_cases q : y.Number < n
     ·rw [if_pos q] at hc; simp at hc
     ·omega
    refine ⟨_, by omega, a, by simp; omega, by simp; omega, rfl, fun k x hx => ⟨fun q => (hk k x hx).1 q, fun q => ?_⟩⟩
    simp only at q
    rcases Nat.lt_or_ge ((v.1 + v.2) / 2).toNat k with z | z
    ·have := hs _ k y x z (getElem_lt hx) hy2 hx; omega
    ·obtain rfl : k = ((v.1 + v.2) / 2).toNat := by omega
     rw [hy2] at hx; injection hx with hx; subst hx; exact hge
  ·simp at h
   have : v.1 = v.2 := by omega
   exact ⟨a, by omega, fun k x hx => ⟨(hk k x hx).1, fun q => (hk k x hx).2 (by omega)⟩⟩
 ·obtain ⟨v0, v1, vk⟩ := hv
  refine Tot.bind (E := fun b => b = true ↔ ∃ x, t.Lengths[v.toNat]? = some x ∧ x.Number = n) (Tot.ite (fun h => ?_) (fun h => .ok ?_)) (fun b hb => .ok ⟨v0, v1, vk, hb⟩)
  ·simp at h
   obtain ⟨y, hy, hy2⟩ := gt_ok' (l := t.Lengths) (i := v) v0 h
   rw [hy, bindO_s]
   unfold tb_find_c1
   rw [compare_eq, bindO_s, bindO_s]
   have hge := (vk _ y hy2).2 (by omega)
   refine .ok ?_
   rw [hy2]
   rw [if_neg (by omega)]
   by_cases q : y.Number > n
   ·rw [if_pos q]
    simp; omega
   ·rw [if_neg q]
    simp; omega
  ·simp at h
   have : t.Lengths[v.toNat]? = none := by rw [List.getElem?_eq_none]; omega
   rw [this]; simp
def lenW (L : List TableLength) (n : Int) : Int × Int := if n = 0 then (0, 0) else match L.find? (fun x => x.Number == n) with | some x => (x.Length, 0) | none => (0, 4)
theorem tb_length_eq (t : TableTable) (n : Int) (hl : t.Lengths.length ≤ 1000) (hs : asc t.Lengths t.Lengths.length) : tb_length t n = some (lenW t.Lengths n) := by
 unfold tb_length lenW
 by_cases h0 : n = 0
 ·simp [h0]
 ·have : (n == 0) = false := by simpa using h0
  simp only [this, Bool.false_eq_true, if_false, h0]
  obtain ⟨r, hr, p0, p1, p2, p3⟩ := tb_find_at ⟨t.Work, t.Lengths⟩ n hl hs
  rw [hr, bindO_s]
  cases hb : r.2 with
  | true =>
   obtain ⟨x, hx, hxn⟩ := p3.1 hb
   simp only at hx
   have hg : gt t.Lengths r.1 = some x := by unfold gt; rw [if_neg (by omega)]; exact hx
   have hf : t.Lengths.find? (fun x => x.Number == n) = some x := by
    rw [List.find?_eq_some_iff_getElem]
    refine ⟨by simpa using hxn, r.1.toNat, getElem_lt hx, ?_, ?_⟩
    ·have := List.getElem?_eq_getElem (getElem_lt hx)
     rw [this] at hx; injection hx
    ·intro j hj
     have hlt := getElem_lt hx
     have := (p2 j t.Lengths[j] (List.getElem?_eq_getElem (by omega))).1 (by omega)
     simp; omega
   simp only [Bool.not_true, Bool.false_eq_true, if_false, hg, bindO_s, hf]
  | false =>
   have hf : t.Lengths.find? (fun x => x.Number == n) = none := by
    rw [List.find?_eq_none]
    intro x hx
    obtain ⟨k, hk⟩ := List.mem_iff_getElem?.1 hx
    simp only [beq_iff_eq]
    intro e
    have hq := p2 k x hk
    rcases Int.lt_or_le (k : Int) r.1 with z | z
    ·have := hq.1 z; omega
    ·rcases Nat.lt_or_ge r.1.toNat k with z2 | z2
     ·obtain ⟨y, hy⟩ : ∃ y, t.Lengths[r.1.toNat]? = some y := ⟨_, List.getElem?_eq_getElem (by have := getElem_lt hk; omega)⟩
      have h1 := (p2 _ y hy).2 (by omega)
      have h2 := hs _ k y x z2 (getElem_lt hk) hy hk
      omega
     ·obtain rfl : k = r.1.toNat := by omega
      have := p3.2 ⟨x, hk, e⟩
      rw [hb] at this; cases this
   simp only [Bool.not_false, if_true, hf]
theorem shift_same (t : R45Table) (c n : Int) (hl : t.Lengths.length ≤ 1000) : tb_offset (theirsW t) c n = r45_shift t c n := by
 unfold tb_offset r45_shift
 rw [valid_same t hl]
 obtain ⟨e, he, he2⟩ := r45_Valid_tot t hl
 rw [he, bindO_s, bindO_s]
 rcases he2 with rfl | rfl
 ·have hv : tb_Valid (theirsW t) = some 0 := by rw [valid_same t hl]; exact he
  have hs := tb_Valid_asc (theirsW t) (by simp [theirsW]; omega) hv
  simp only [bne_self_eq_false, Bool.false_eq_true, if_false]
  rw [show tb_length (TableTable.mk (theirsW t).Work (theirsW t).Lengths) n = some (lenW (theirsW t).Lengths n) from tb_length_eq (theirsW t) n (by simp [theirsW]; omega) hs]
  unfold tb_slot r45_index
  have hcond : ((Int.tmod c 1000 != 0) || (decide (c < 54000) || decide (c > 59000))) = (decide (c < 54000) || (decide (c > 59000) || (Int.tmod c 1000 != 0))) := by
   cases (Int.tmod c 1000 != 0) <;> cases decide (c < 54000) <;> cases decide (c > 59000) <;> rfl
  rw [hcond]
  cases hb : (decide (c < 54000) || (decide (c > 59000) || (Int.tmod c 1000 != 0))) with
  | true => simp
  | false =>
   simp at hb
   have hd : Int.tdiv c 1000 = c / 1000 := Int.tdiv_eq_ediv_of_nonneg (by omega)
   have hw : IntKind.i64.wrap (IntKind.i64.wrap (Int.tdiv c 1000) - 54) = c / 1000 - 54 := by
    rw [hd, wrap_i64 (n := c / 1000) (by omega) (by omega), wrap_i64 (by omega) (by omega)]
   simp only [Bool.false_eq_true, if_false, hw, bindO_s, bne_self_eq_false, Bool.false_or]
   have hneg : decide (c / 1000 - 54 < 0) = false := by simp; omega
   have hin : decide (0 ≤ c / 1000 - 54 ∧ c / 1000 - 54 < 6) = true := by simp; omega
   simp only [hneg, hin, guardO_t, Bool.false_eq_true, if_false]
   have hfind : (theirsW t).Lengths.find? (fun x => x.Number == n) = (t.Lengths.find? (fun x => x.Number == n)).map (fun l => ⟨l.Number, l.Length⟩) := by
    simp only [theirsW, List.find?_map]; rfl
   obtain ⟨ev, hev, hbd⟩ := tb_Valid_tot (theirsW t) (by simp [theirsW]; omega)
   obtain rfl : ev = 0 := by rw [hv] at hev; injection hev with q; exact q.symm
   obtain ⟨⟨w0, w1, w2, w3, w4, w5⟩, _⟩ := hbd.2 rfl
   have hX : ∃ w : ApiPos, (if (c / 1000 - 54 == 0) = true then some t.Work.e0 else if (c / 1000 - 54 == 1) = true then some t.Work.e1 else if (c / 1000 - 54 == 2) = true then some t.Work.e2 else if (c / 1000 - 54 == 3) = true then some t.Work.e3 else if (c / 1000 - 54 == 4) = true then some t.Work.e4 else some t.Work.e5) = some w ∧ inR w := by
    have : c / 1000 - 54 = 0 ∨ c / 1000 - 54 = 1 ∨ c / 1000 - 54 = 2 ∨ c / 1000 - 54 = 3 ∨ c / 1000 - 54 = 4 ∨ c / 1000 - 54 = 5 := by omega
    rcases this with e | e | e | e | e | e <;> rw [e]
    ·exact ⟨_, rfl, w0⟩
    ·exact ⟨_, rfl, w1⟩
    ·exact ⟨_, rfl, w2⟩
    ·exact ⟨_, rfl, w3⟩
    ·exact ⟨_, rfl, w4⟩
    ·exact ⟨_, rfl, w5⟩
   obtain ⟨w, hXe, hw⟩ := hX
   rw [show (theirsW t).Work = t.Work from rfl, hXe, bindO_s, bindO_s]
   unfold lenW
   unfold inR at hw
   by_cases h0 : n = 0
   ·simp only [h0, if_true, bne_self_eq_false, Bool.false_eq_true, if_false, beq_self_eq_true]
    rw [wrap_i64 (by omega) (by omega), Int.add_zero]
   ·have hn : (n == 0) = false := by simpa using h0
    simp only [h0, hn, Bool.false_eq_true, if_false, hfind]
    rw [okIdx_of (by omega), guardO_t, range_find (p := fun x : R45Length => x.Number == n) (e := fun x => (ApiPos.mk w.X w.Y (IntKind.i64.wrap (w.Z + x.Length)), (0 : Int))) t.Lengths 0 (fun i x => rfl)]
    cases t.Lengths.find? (fun x => x.Number == n) with
    | none => rfl
    | some x => rfl
 ·simp
theorem work_same (t : R45Table) (c n : Int) (p : ApiPos) (hl : t.Lengths.length ≤ 1000) : tb_Work (theirsW t) c n p = r45_Work t c n p := by
 unfold tb_Work r45_Work r45_move
 rw [show TableTable.mk (theirsW t).Work (theirsW t).Lengths = theirsW t from rfl, shift_same t c n hl]
 obtain ⟨r, hr⟩ : ∃ r, r45_shift t c n = some r := by
  rw [← shift_same t c n hl]
  obtain ⟨r, hr, _⟩ := tb_offset_tot (theirsW t) c n (by simp [theirsW]; omega)
  exact ⟨r, hr⟩
 rw [hr, bindO_s, bindO_s]
 unfold tb_moved
 cases (r.2 != 0) with
 | true => rfl
 | false =>
  simp only [Bool.false_eq_true, if_false, tb_far_eq, r45_out_eq, bindO_s]
end Go.Proofs.YtopjpenbieojmaaDoor
namespace Go.Proofs.YtopjpenbieojmaaDoor
open Go.RowKit
set_option linter.unusedVariables false
set_option linter.unusedSimpArgs false
def knW (w : ApiWord) : Bool :=
 if w.Letter = 77 then [0, 1000, 3000, 4000, 5000, 6000, 8000, 9000, 30000].contains w.Value
 else if w.Letter = 83 then decide (w.Value ≥ 0)
 else [71, 84, 70, 72, 78, 88, 89, 90, 73, 74, 81, 82].contains w.Letter
theorem all_not {α : Type} (p : α → Bool) (l : List α) : (l.any fun x => !(p x)) = !(l.all p) := by
 induction l with
 | nil => rfl
 | cons x l ih => rw [List.any_cons, List.all_cons, ih]; cases p x <;> rfl
theorem known_fin {f : Nat → ApiWord → Unit → Option (Ex (Ex Bool Unit) Unit)} (l : List ApiWord) (hl : l.length ≤ 1000) (hf : ∀ i x, f i x () = if (!(knW x)) = true then some (.ret (.ret false)) else some (.go ())) :
  bindX (guardO (okIdx l) (rangeX f (fun _ => some (.go ())) l 0 ())) (fun (_ : Unit) => some true) = some (l.all knW) := by
 rw [okIdx_of (by omega), guardO_t, range_any (r := false) l 0 hf, all_not]
 cases l.all knW <;> rfl
theorem inp_known_eq (b : ApiBlock) (hl : b.Words.length ≤ 1000) : inp_known b = some (b.Words.all knW) := by
 unfold inp_known
 refine known_fin b.Words hl (fun i w => ?_)
 rw [contains_eq _ _ (by decide), bindO_s]
 unfold knW
 by_cases h1 : w.Letter = 77
 ·rw [h1, if_pos rfl]
  cases h : ([0, 1000, 3000, 4000, 5000, 6000, 8000, 9000, 30000] : List Int).contains w.Value <;> rfl
 ·rw [if_neg h1]
  by_cases h2 : w.Letter = 83
  ·rw [h2, if_pos rfl]
   by_cases h : w.Value < 0
   ·rw [decide_eq_true h, decide_eq_false (show ¬ w.Value ≥ 0 by omega)]; rfl
   ·rw [decide_eq_false h, decide_eq_true (show w.Value ≥ 0 by omega)]; rfl
  ·rw [if_neg h2, beq_false_of_ne h1, beq_false_of_ne h2]
   by_cases a1 : w.Letter = 71
   ·rw [a1]; rfl
   by_cases a2 : w.Letter = 84
   ·rw [a2]; rfl
   by_cases a3 : w.Letter = 70
   ·rw [a3]; rfl
   by_cases a4 : w.Letter = 72
   ·rw [a4]; rfl
   by_cases a5 : w.Letter = 78
   ·rw [a5]; rfl
   by_cases a6 : w.Letter = 88
   ·rw [a6]; rfl
   by_cases a7 : w.Letter = 89
   ·rw [a7]; rfl
   by_cases a8 : w.Letter = 90
   ·rw [a8]; rfl
   by_cases a9 : w.Letter = 73
   ·rw [a9]; rfl
   by_cases b1 : w.Letter = 74
   ·rw [b1]; rfl
   by_cases b2 : w.Letter = 81
   ·rw [b2]; rfl
   by_cases b3 : w.Letter = 82
   ·rw [b3]; rfl
   simp [a1, a2, a3, a4, a5, a6, a7, a8, a9, b1, b2, b3]
def crd (b : ApiBlock) (l a d : Int) : Int := if (findW b l).2 = true then (if d = 90000 then (findW b l).1 else a + (findW b l).1) else a
def tgtW (s : ModalState) (b : ApiBlock) (p : ApiPos) : ApiPos := ⟨crd b 88 p.X s.Distance, crd b 89 p.Y s.Distance, crd b 90 p.Z s.Distance⟩
theorem crd_bd {b : ApiBlock} (hv : validP b) {a : Int} (h : -10000000 ≤ a ∧ a ≤ 10000000) (l d : Int) : -1000010000000 ≤ crd b l a d ∧ crd b l a d ≤ 1000010000000 := by
 have := findW_bd hv l
 unfold crd
 split
 ·split <;> omega
 ·omega
theorem inp_crd {b : ApiBlock} (hv : validP b) (hl : b.Words.length ≤ 1000) {a : Int} (h : -10000000 ≤ a ∧ a ≤ 10000000) (l d : Int) : (bindO (bk_Find b l) fun (y : Int × Bool) => if (!y.2) = true then some a else if (d == 90000) = true then some y.1 else some (IntKind.i64.wrap (a + y.1))) = some (crd b l a d) := by
 have := findW_bd hv l
 rw [bk_Find_eq b l hl, bindO_s]
 unfold crd
 cases (findW b l).2 with
 | false => rfl
 | true =>
  by_cases hd : d = 90000
  ·rw [hd]; rfl
  ·rw [beq_false_of_ne hd, if_pos rfl, if_neg hd, wrap_i64 (by omega) (by omega)]; rfl
theorem inp_target_eq {s : ModalState} {b : ApiBlock} {p : ApiPos} (hv : validP b) (hl : b.Words.length ≤ 1000) (hp : inR p) : inp_target s b p = some (tgtW s b p) := by
 unfold inp_target
 rw [inp_crd hv hl hp.1, bindO_s, inp_crd hv hl hp.2.1, bindO_s, inp_crd hv hl hp.2.2, bindO_s]
 rfl
def cycB (k : Int) : Bool := (k == 81000) || ((k == 82000) || (k == 83000))
def mvV (s : ModalState) (b : ApiBlock) (p : ApiPos) : ApiMove := ⟨if s.Motion = 3000 then 4 else 3, tgtW s b p, ⟨p.X + (findW b 73).1, p.Y + (findW b 74).1⟩, s.Feed⟩
def iniW (c : CycleCycle) (p : ApiPos) : Int := if ((c.Code == 0) && ((c.R == 0) && ((c.Z == 0) && ((c.Q == 0) && ((c.Rate == 0) && ((c.Initial == 0) && (c.High == false))))))) = true then p.Z else c.Initial
def rdC (s : ModalState) (c : CycleCycle) (b : ApiBlock) (p : ApiPos) : CycleCycle :=
 CycleCycle.mk s.Motion (if (findW b 82).2 = true then (findW b 82).1 else c.R) (if (findW b 90).2 = true then (findW b 90).1 else c.Z) (if (findW b 81).2 = true then (findW b 81).1 else c.Q) (if (findW b 70).2 = true then (findW b 70).1 else s.Feed) (iniW c p) (s.Return == 98000)
def reM (m : ApiMove) : InterpreterReached := ⟨m.To, m.Rate⟩
def posV (s : ModalState) (c : CycleCycle) (b : ApiBlock) (p : ApiPos) : List InterpreterReached × CycleCycle × Int :=
  if s.Motion = 0 then ([⟨tgtW s b p, 0⟩], zC, 0)
  else if s.Motion = 1000 then ([⟨tgtW s b p, s.Feed⟩], zC, 0)
  else if cycB s.Motion = true then
    (if cycV (rdC s c b p) ≠ 0 then ([], zC, cycV (rdC s c b p))
     else if (expV (rdC s c b p) p ⟨(tgtW s b p).X, (tgtW s b p).Y⟩).2 ≠ 0 then ([], zC, (expV (rdC s c b p) p ⟨(tgtW s b p).X, (tgtW s b p).Y⟩).2)
     else ((expV (rdC s c b p) p ⟨(tgtW s b p).X, (tgtW s b p).Y⟩).1.map reM, rdC s c b p, 0))
  else if movV p (mvV s b p) = 0 then ((arcL p (mvV s b p)).map fun q => ⟨q, s.Feed⟩, zC, 0)
  else ([], zC, movV p (mvV s b p))
theorem mvV_ok {s : ModalState} {b : ApiBlock} {p : ApiPos} (hv : validP b) (hp : inR p) (hf : i64P s.Feed) : okPos p ∧ okMove (mvV s b p) := by
 obtain ⟨p1, p2, p3⟩ := hp
 have a1 := crd_bd hv p1 88 s.Distance
 have a2 := crd_bd hv p2 89 s.Distance
 have a3 := crd_bd hv p3 90 s.Distance
 have b1 := findW_bd hv 73
 have b2 := findW_bd hv 74
 refine ⟨⟨i64_of p1, i64_of p2, i64_of p3⟩, ?_, ⟨?_, ?_, ?_⟩, ?_, ?_, hf⟩
 ·unfold mvV i64P; dsimp only; split <;> omega
 ·unfold mvV tgtW i64P; dsimp only; omega
 ·unfold mvV tgtW i64P; dsimp only; omega
 ·unfold mvV tgtW i64P; dsimp only; omega
 ·unfold mvV i64P; dsimp only; omega
 ·unfold mvV i64P; dsimp only; omega
theorem mvV_kind (s : ModalState) (b : ApiBlock) (p : ApiPos) : (mvV s b p).Kind = 3 ∨ (mvV s b p).Kind = 4 := by
 unfold mvV; dsimp only; split
 ·exact .inr rfl
 ·exact .inl rfl
theorem arc_ok {p : ApiPos} {m : ApiMove} (hk : m.Kind = 3 ∨ m.Kind = 4) (h : movV p m = 0) : ArcOk p m := by
 unfold movV at h
 rw [if_neg (by omega)] at h
 by_cases e2 : (m.Kind = 3 ∨ m.Kind = 4) ∧ m.Rate > 0 ∧ rad p m.Center > 0 ∧ rad p m.Center = rad m.To m.Center
 ·rw [if_pos e2] at h
  by_cases f : (far6 p m.To || farP m.Center.X || farP m.Center.Y || farP (m.Center.X + rad p m.Center) || farP (m.Center.X - rad p m.Center) || farP (m.Center.Y + rad p m.Center) || farP (m.Center.Y - rad p m.Center)) = true
  ·rw [if_pos f] at h; cases h
  ·have f' : (far6 p m.To || farP m.Center.X || farP m.Center.Y || farP (m.Center.X + rad p m.Center) || farP (m.Center.X - rad p m.Center) || farP (m.Center.Y + rad p m.Center) || farP (m.Center.Y - rad p m.Center)) = false := by simpa using f
   simp only [Bool.or_eq_false_iff, far6] at f'
   obtain ⟨⟨⟨⟨⟨⟨⟨⟨⟨⟨⟨g1, g2⟩, g3⟩, g4⟩, g5⟩, g6⟩, fx⟩, fy⟩, h1⟩, h2⟩, h3⟩, h4⟩ := f'
   have k1 := far_bd h1; have k2 := far_bd h2; have k3 := far_bd h3; have k4 := far_bd h4
   exact ⟨hk, far_bd g1, far_bd g2, far_bd g3, far_bd g4, far_bd g5, far_bd g6, far_bd fx, far_bd fy, by omega, e2.2.2.2, by omega, by omega⟩
 ·rw [if_neg e2] at h; cases h
theorem ip_Arc_bad {p : ApiPos} {m : ApiMove} (hk : m.Kind = 3 ∨ m.Kind = 4) (hp : okPos p) (hm : okMove m) (h : movV p m ≠ 0) : ip_Arc p m = some ([], movV p m) := by
 have hQ : ip_Quarters p m = some (0, movV p m) := by
  unfold ip_Quarters ip_isArc
  have hk' : ((m.Kind == 3) || (m.Kind == 4)) = true := by simpa using hk
  rw [hk', bindO_s, if_neg (by simp)]
  show bindO (ip_Valid p m) _ = _
  rw [ip_Valid_eq hp hm, bindO_s, if_pos (by simpa using h)]
 unfold ip_Arc
 show bindO (ip_Quarters p m) _ = _
 rw [hQ, bindO_s, if_pos (by simpa using h)]
theorem map_loop {α β : Type} (g : α → β) (l : List α) (hl : l.length ≤ 1000000) : (guardO (okIdx l) (rangeX (fun (i : Nat) (e : α) (v : List β) => guardO (okLen (v.length + 1)) (some (.go (v ++ [g e])))) (fun v => some v) l 0 [])) = some (l.map g) := by
 rw [okIdx_of (by omega), guardO_t, range_fold (g := fun (o : List β) (x : α) => o ++ [g x]) (R := fun i v => v.length ≤ i) (L := l) ?_ l 0 [] rfl (by simp)]
 ·rw [map_fold]; rfl
 ·intro i x v hx hr
  have hlt := getElem_lt hx
  rw [okLen_of (by omega), guardO_t]
  exact ⟨rfl, by simp; omega⟩
theorem expV_len (c : CycleCycle) (p : ApiPos) (g : ApiGrid2) : (expV c p g).1.length ≤ 2010 := by
 unfold expV
 split
 ·split
  ·simp
  ·rename_i h _
   exact cycM_len (cycV_ok h) p g
 ·simp
theorem arcL_len {p : ApiPos} {m : ApiMove} (h : ArcOk p m) : (arcL p m).length ≤ 4000 := by
 have := h.all
 unfold arcL; simp; omega
theorem posV_len (s : ModalState) (c : CycleCycle) (b : ApiBlock) (p : ApiPos) : (posV s c b p).1.length ≤ 4000 := by
 unfold posV
 split
 ·simp
 ·split
  ·simp
  ·split
   ·split
    ·simp
    ·split
     ·simp
     ·have := expV_len (rdC s c b p) p ⟨(tgtW s b p).X, (tgtW s b p).Y⟩
      simp; omega
   ·split
    ·rename_i h
     have := arcL_len (arc_ok (mvV_kind s b p) h)
     simp; omega
    ·simp
theorem inp_positions_eq {s : ModalState} {c : CycleCycle} {b : ApiBlock} {p : ApiPos} (hv : validP b) (hl : b.Words.length ≤ 1000) (hp : inR p) (hf : i64P s.Feed) : inp_positions s c b p = some (posV s c b p) := by
 unfold inp_positions posV
 rw [show ApiBlock.mk b.Skip b.Words b.Comment = b from rfl, inp_target_eq hv hl hp, bindO_s]
 by_cases m0 : s.Motion = 0
 ·rw [if_pos (by simpa using m0), if_pos m0]; rfl
 rw [if_neg (by simpa using m0), if_neg m0]
 by_cases m1 : s.Motion = 1000
 ·rw [if_pos (by simpa using m1), if_pos m1]; rfl
 rw [if_neg (by simpa using m1), if_neg m1]
 unfold inp_cycles
 rw [bindO_s]
 by_cases mc : cycB s.Motion = true
 ·rw [if_pos (show ((s.Motion == 81000) || ((s.Motion == 82000) || (s.Motion == 83000))) = true from mc), if_pos mc]
  have hcan : inp_canned s c b p (tgtW s b p) = some (if cycV (rdC s c b p) ≠ 0 then ([], zC, cycV (rdC s c b p))
    else if (expV (rdC s c b p) p ⟨(tgtW s b p).X, (tgtW s b p).Y⟩).2 ≠ 0 then ([], zC, (expV (rdC s c b p) p ⟨(tgtW s b p).X, (tgtW s b p).Y⟩).2)
    else ((expV (rdC s c b p) p ⟨(tgtW s b p).X, (tgtW s b p).Y⟩).1.map reM, rdC s c b p, 0)) := by
   unfold inp_canned
   have hi : (if (!((c.Code == 0) && ((c.R == 0) && ((c.Z == 0) && ((c.Q == 0) && ((c.Rate == 0) && ((c.Initial == 0) && (c.High == false)))))))) = true then some c.Initial else some p.Z) = some (iniW c p) := by
    unfold iniW
    cases ((c.Code == 0) && ((c.R == 0) && ((c.Z == 0) && ((c.Q == 0) && ((c.Rate == 0) && ((c.Initial == 0) && (c.High == false))))))) <;> rfl
   obtain ⟨n, hn, hn2⟩ := cy_Read_same b s.Motion s.Feed (iniW c p) (s.Return == 98000) c hl
   have hn3 : n = rdC s c b p := hn2
   subst hn3
   rw [hi, bindO_s, hn, bindO_s]
   by_cases z : cycV (rdC s c b p) = 0
   ·rw [if_pos z, if_neg (by simp), cy_Expand_one, bindO_s, if_neg (show ¬ (cycV (rdC s c b p) ≠ 0) by simpa using z)]
    by_cases y : (expV (rdC s c b p) p ⟨(tgtW s b p).X, (tgtW s b p).Y⟩).2 = 0
    ·rw [if_neg (by simpa using y), if_neg (by simpa using y), map_loop (fun e : ApiMove => InterpreterReached.mk e.To e.Rate) _ (Nat.le_trans (expV_len (rdC s c b p) p ⟨(tgtW s b p).X, (tgtW s b p).Y⟩) (by decide)), bindO_s]
     rfl
    ·rw [if_pos (by simpa using y), if_pos (by simpa using y)]; rfl
   ·rw [if_neg z, if_pos (by simpa using z), if_pos z]; rfl
  show bindO (inp_canned s c b p (tgtW s b p)) _ = _
  rw [hcan, bindO_s]
 ·rw [if_neg (show ¬ ((s.Motion == 81000) || ((s.Motion == 82000) || (s.Motion == 83000))) = true from mc), if_neg mc]
  obtain ⟨op, om⟩ := mvV_ok (s := s) hv hp hf
  have hb1 := findW_bd hv 73
  have hb2 := findW_bd hv 74
  obtain ⟨p1, p2, p3⟩ := hp
  have harc : inp_arc s b p (tgtW s b p) = some (if movV p (mvV s b p) = 0 then ((arcL p (mvV s b p)).map fun q => ⟨q, s.Feed⟩, 0) else ([], movV p (mvV s b p))) := by
   unfold inp_arc
   rw [inp_value_eq b 73 hl, bindO_s, inp_value_eq b 74 hl, bindO_s]
   have hk : (if (s.Motion == 3000) = true then some (4 : Int) else some 3) = some (if s.Motion = 3000 then 4 else 3) := by
    by_cases q : s.Motion = 3000
    ·rw [if_pos (by simpa using q), if_pos q]
    ·rw [if_neg (by simpa using q), if_neg q]
   rw [hk, bindO_s, wrap_i64 (n := p.X + (findW b 73).1) (by omega) (by omega), wrap_i64 (n := p.Y + (findW b 74).1) (by omega) (by omega)]
   show bindO (ip_Arc p (mvV s b p)) _ = _
   by_cases z : movV p (mvV s b p) = 0
   ·have ok := arc_ok (mvV_kind s b p) z
    rw [ip_Arc_eq ok op om z, bindO_s, if_pos z, map_loop (fun e : ApiPos => InterpreterReached.mk e s.Feed) _ (Nat.le_trans (arcL_len ok) (by decide)), bindO_s]
   ·rw [ip_Arc_bad (mvV_kind s b p) op om z, bindO_s, if_neg z]
    rfl
  show bindO (inp_arc s b p (tgtW s b p)) _ = _
  rw [harc, bindO_s]
  by_cases z : movV p (mvV s b p) = 0
  ·rw [if_pos z, if_pos z]; rfl
  ·rw [if_neg z, if_neg z]; rfl
end Go.Proofs.YtopjpenbieojmaaDoor
namespace Go.Proofs.YtopjpenbieojmaaDoor
open Go.RowKit
set_option linter.unusedVariables false
set_option linter.unusedSimpArgs false
def machV (t : TableTable) (w n : Int) (q : ApiPos) : ApiPos × Int := (tb_Machine t w n q).getD (⟨0, 0, 0⟩, 1)
theorem machV_eq {t : TableTable} (ht : t.Lengths.length ≤ 1000) (w n : Int) (q : ApiPos) : tb_Machine t w n q = some (machV t w n q) := by
 obtain ⟨e, h, _⟩ := tb_Machine_tot t w n q ht
 unfold machV; rw [h]; rfl
def addM (r : ApiPos) (rate tool i : Int) (v : List ApiMotion × ApiPos) : List ApiMotion × ApiPos := (if (!posEq r v.2) = true then v.1 ++ [ApiMotion.mk v.2 r rate tool i] else v.1, r)
def runM (t : TableTable) (w n tool i : Int) : List InterpreterReached → List ApiMotion × ApiPos → Ex Int (List ApiMotion × ApiPos)
 | [], v => .go v
 | x :: l, v => if (machV t w n x.at_).2 ≠ 0 then .ret (machV t w n x.at_).2 else runM t w n tool i l (addM (machV t w n x.at_).1 x.rate tool i v)
theorem addM_len (r : ApiPos) (rate tool i : Int) (v : List ApiMotion × ApiPos) : (addM r rate tool i v).1.length ≤ v.1.length + 1 := by
 unfold addM; dsimp only; split <;> simp
theorem run_loop {α σ ε : Type} {f : Nat → α → σ → Option (Ex ε σ)} {d : σ → Option ε} {t : TableTable} {w n tool i : Int} (emb : List ApiMotion × ApiPos → σ) (pr : α → InterpreterReached) (g : Int → ε)
  (hf : ∀ (k : Nat) x (v : List ApiMotion × ApiPos), v.1.length ≤ 300000 → f k x (emb v) = some (if (machV t w n (pr x).at_).2 ≠ 0 then .ret (g (machV t w n (pr x).at_).2) else .go (emb (addM (machV t w n (pr x).at_).1 (pr x).rate tool i v)))) :
  ∀ (l : List α) (k : Nat) (v : List ApiMotion × ApiPos), v.1.length + l.length ≤ 300000 → rangeX f d l k (emb v) = match runM t w n tool i (l.map pr) v with | .ret e => some (g e) | .go u => d (emb u)
 | [], k, v, _ => rfl
 | x :: l, k, v, hv => by
  simp only [List.length_cons] at hv
  simp only [rangeX, hf k x v (by omega), List.map_cons, runM]
  by_cases h : (machV t w n (pr x).at_).2 = 0
  ·rw [if_neg (by simpa using h), if_neg (by simpa using h)]
   have := addM_len (machV t w n (pr x).at_).1 (pr x).rate tool i v
   exact run_loop emb pr g hf l (k + 1) _ (by omega)
  ·rw [if_pos h, if_pos h]
theorem run_fin {R : Type} {f : Nat → InterpreterReached → List ApiMotion × ApiPos → Option (Ex (Ex R (List ApiMotion × ApiPos)) (List ApiMotion × ApiPos))} {L : List InterpreterReached} {v : List ApiMotion × ApiPos} {k : List ApiMotion × ApiPos → Option R} (t : TableTable) (w n tool i : Int) (g : Int → R) (hL : v.1.length + L.length ≤ 300000)
  (hf : ∀ (j : Nat) x (v : List ApiMotion × ApiPos), v.1.length ≤ 300000 → f j x v = some (if (machV t w n x.at_).2 ≠ 0 then .ret (.ret (g (machV t w n x.at_).2)) else .go (addM (machV t w n x.at_).1 x.rate tool i v))) :
  bindX (guardO (okIdx L) (rangeX f (fun v => some (.go (v.1, v.2))) L 0 v)) k = match runM t w n tool i L v with | .ret e => some (g e) | .go u => k u := by
 have h := run_loop (t := t) (w := w) (n := n) (tool := tool) (i := i) (f := f) (d := fun v => some (.go (v.1, v.2))) (fun v => v) (fun x => x) (fun e => Ex.ret (g e)) hf L 0 v hL
 rw [okIdx_of (by omega), guardO_t, h, List.map_id']
 cases runM t w n tool i L v <;> rfl
theorem unit_s {β : Type} (f : Unit → Option β) : bindO (some ()) f = f () := rfl
theorem ijqr (hI hQ cy a b : Bool) : (if hI = true then (if a = true then (if b = true then some true else if hQ = true then some (!cy) else some false) else if hQ = true then some (!cy) else some false) else if hQ = true then some (!cy) else some false) = some ((hI && a && b) || (hQ && !cy)) := by
 cases hI <;> cases hQ <;> cases cy <;> cases a <;> cases b <;> rfl
theorem put_feed {s : ModalState} {w : ApiWord} (h : i64P s.Feed) (hw : i64P w.Value) : i64P (putW s w).Feed := by
 unfold putW
 by_cases h1 : w.Letter = 71
 ·rw [if_pos h1]
  by_cases g1 : grp w.Value = 1
  ·rw [if_pos g1]; exact h
  ·rw [if_neg g1]
   by_cases g2 : grp w.Value = 2
   ·rw [if_pos g2]; exact h
   ·rw [if_neg g2]
    by_cases g3 : grp w.Value = 3
    ·rw [if_pos g3]; exact h
    ·rw [if_neg g3]
     by_cases g4 : grp w.Value = 4
     ·rw [if_pos g4]; exact h
     ·rw [if_neg g4]; exact h
 ·rw [if_neg h1]
  by_cases h2 : w.Letter = 70
  ·rw [if_pos h2]; exact hw
  ·rw [if_neg h2]
   by_cases h3 : w.Letter = 84
   ·rw [if_pos h3]; exact h
   ·rw [if_neg h3]
    by_cases h4 : w.Letter = 72
    ·rw [if_pos h4]; exact h
    ·rw [if_neg h4]; exact h
theorem fold_feed : ∀ (l : List ApiWord) (s : ModalState), i64P s.Feed → (∀ w ∈ l, i64P w.Value) → i64P (l.foldl putW s).Feed
 | [], _, h, _ => h
 | w :: l, s, h, hw => fold_feed l _ (put_feed h (hw w (by simp))) (fun x hx => hw x (by simp [hx]))
end Go.Proofs.YtopjpenbieojmaaDoor
