import Derived.Test.YtejknolljjpodaaGreatDoorPq
import Derived.Test.YtejknolljjpodaaGreatDoorBq
import Derived.Test.YtejknolljjpodaaGreatDoorMLEmit
namespace Go.Proofs.YtejknolljjpodaaGreatDoor
open Go.RowKit
set_option linter.unusedVariables false
set_option linter.unusedSimpArgs false
theorem fmt_bad (b : ApiBlock) (h : bk_Valid b = some 1) : bk_Format b = some ([], 1) := by
 unfold bk_Format
 rw [h, bindO_s]; rfl
theorem fmt_bad2 (b : ApiBlock) (h : r41_Valid b = some 1) : r41_Format b = some ([], 1) := by
 unfold r41_Format
 rw [h, bindO_s]; rfl
theorem fmt_len (b : ApiBlock) (h : validP b) : (fmtV b).length ≤ 2000 := by
 have hpl := parts_len h
 have hjl := jn_len 102 _ hpl
 have hwl := h.1
 have hpn : (b.Words.map wt ++ cmT b.Comment).length ≤ 17 := by
  unfold cmT; rw [List.length_append, List.length_map]; split <;> simp <;> omega
 have hjl2 := Nat.mul_le_mul_right (102 + 1) hpn
 unfold fmtV
 rw [List.length_append]
 have : (if b.Skip = true then ([47] : List UInt8) else []).length ≤ 1 := by split <;> simp
 omega
def prtO (l : List ApiBlock) (r : List UInt8 × Int) : Prop := (r = (prt l, 0) ∧ ∀ b ∈ l, validP b) ∨ (r = ([], 1) ∧ ¬ ∀ b ∈ l, validP b)
theorem prt_snoc (l : List ApiBlock) (i : Nat) (x : ApiBlock) (h : l[i]? = some x) : prt (l.take (i + 1)) = (prt (l.take i) ++ fmtV x) ++ [10] := by
 have hlt := getElem_lt h
 rw [List.take_add_one, h]
 simp [prt]
theorem print_tot (l : List ApiBlock) (hl : fewP l 300) : Tot (bk_Print l) (prtO l) := by
 unfold bk_Print
 have h1 := hl.1
 refine Tot.bindX (E := fun v : List UInt8 => v = prt l ∧ ∀ b ∈ l, validP b) (TotX.of (Tot.mono (E := fun x => match x with | .ret e => prtO l e | .go v => v = prt l ∧ ∀ b ∈ l, validP b) ?_ (fun x h => by cases x <;> exact h))) (fun v hv => .ok (.inl ⟨by rw [hv.1], hv.2⟩))
 refine Tot.guard (okIdx_of (by omega)) (Tot.range (fun i v => v = prt (l.take i) ∧ v.length ≤ i * 2001 ∧ ∀ (k : Nat) b, k < i → l[k]? = some b → validP b) _ ⟨by simp [prt], by simp, fun k b q => by omega⟩ (fun i x v hx hr => ?_) (fun v hr => .ok ⟨by rw [hr.1, List.take_length], fun b hb => ?_⟩))
 ·obtain ⟨hv, hvl, hk⟩ := hr
  have hlt := getElem_lt hx
  obtain ⟨hw, hc⟩ := hl.2 x (List.mem_of_getElem? hx)
  obtain ⟨e, he, hval⟩ := bk_Valid_tot x (by omega) (by omega)
  rcases hval with ⟨rfl, hval⟩ | ⟨rfl, hval⟩
  ·have hfl := fmt_len x hval
   have hvl2 : v.length ≤ 300 * 2001 := Nat.le_trans hvl (Nat.mul_le_mul_right _ (by omega))
   rw [bk_Format_ok x hval, bindO_s, if_neg (by simp), okLen_of (by simp only; omega), guardO_t, okLen_of (by simp only [List.length_append]; omega), guardO_t]
   refine .go ⟨by rw [prt_snoc l i x hx, hv], ?_, fun k b hki hkb => ?_⟩
   ·simp only [List.length_append, List.length_cons, List.length_nil, Nat.add_mul]; omega
   ·rcases Nat.lt_or_ge k i with q | q
    ·exact hk k b q hkb
    ·obtain rfl : k = i := by omega
     rw [hx] at hkb; injection hkb with hkb; subst hkb; exact hval
  ·rw [fmt_bad x he, bindO_s]
   exact .ret (.inr ⟨rfl, fun q => hval (q x (List.mem_of_getElem? hx))⟩)
 ·obtain ⟨k, hk⟩ := List.mem_iff_getElem?.1 hb
  exact hr.2.2 k b (getElem_lt hk) hk
theorem print_tot2 (l : List ApiBlock) (hl : fewP l 300) : Tot (r41_Print l) (prtO l) := by
 unfold r41_Print
 have h1 := hl.1
 refine Tot.bindX (E := fun v : List UInt8 => v = prt l ∧ ∀ b ∈ l, validP b) (TotX.of (Tot.mono (E := fun x => match x with | .ret e => prtO l e | .go v => v = prt l ∧ ∀ b ∈ l, validP b) ?_ (fun x h => by cases x <;> exact h))) (fun v hv => .ok (.inl ⟨by rw [hv.1], hv.2⟩))
 refine Tot.guard (okIdx_of (by omega)) (Tot.range (fun i v => v = prt (l.take i) ∧ v.length ≤ i * 2001 ∧ ∀ (k : Nat) b, k < i → l[k]? = some b → validP b) _ ⟨by simp [prt], by simp, fun k b q => by omega⟩ (fun i x v hx hr => ?_) (fun v hr => .ok ⟨by rw [hr.1, List.take_length], fun b hb => ?_⟩))
 ·obtain ⟨hv, hvl, hk⟩ := hr
  have hlt := getElem_lt hx
  obtain ⟨hw, hc⟩ := hl.2 x (List.mem_of_getElem? hx)
  obtain ⟨e, he, hval⟩ := r41_Valid_tot x (by omega) (by omega)
  rcases hval with ⟨rfl, hval⟩ | ⟨rfl, hval⟩
  ·have hfl := fmt_len x hval
   have hvl2 : v.length ≤ 300 * 2001 := Nat.le_trans hvl (Nat.mul_le_mul_right _ (by omega))
   rw [r41_Format_ok x hval, bindO_s, if_neg (by simp), okStr_of (by simp only; omega), guardO_t, okStr_of (by simp only [List.length_append, List.length_cons, List.length_nil]; omega), guardO_t]
   refine .go ⟨by rw [prt_snoc l i x hx, hv], ?_, fun k b hki hkb => ?_⟩
   ·simp only [List.length_append, List.length_cons, List.length_nil, Nat.add_mul]; omega
   ·rcases Nat.lt_or_ge k i with q | q
    ·exact hk k b q hkb
    ·obtain rfl : k = i := by omega
     rw [hx] at hkb; injection hkb with hkb; subst hkb; exact hval
  ·rw [fmt_bad2 x he, bindO_s]
   exact .ret (.inr ⟨rfl, fun q => hval (q x (List.mem_of_getElem? hx))⟩)
 ·obtain ⟨k, hk⟩ := List.mem_iff_getElem?.1 hb
  exact hr.2.2 k b (getElem_lt hk) hk
theorem in_i64 {n : Int} (h : (inInt .i64) n) : i64P n := by
 simp [inInt, Lit.wf, IntKind.min, IntKind.max, IntKind.signed, IntKind.bits] at h
 unfold i64P; omega
theorem in_pos {p : ApiPos} (h : inApiPos p) : okPos p := ⟨in_i64 h.1, in_i64 h.2.1, in_i64 h.2.2⟩
theorem in_move {m : ApiMove} (h : inApiMove m) : okMove m := by
 obtain ⟨a, ⟨b1, b2, b3⟩, ⟨c1, c2⟩, d⟩ := h
 exact ⟨in_i64 a, ⟨in_i64 b1, in_i64 b2, in_i64 b3⟩, in_i64 c1, in_i64 c2, in_i64 d⟩
theorem r46_Few_tot {l : List ApiStage} (hl : l.length ≤ 9223372036854775807) (hm : ∀ s ∈ l, ∀ m ∈ s.Moves, okMove m) : Tot (r46_Few l 30) (fun b => b = true → okStages l) := by
 unfold r46_Few
 refine Tot.ite (fun q => .ok (fun h => by cases h)) (fun q => ?_)
 simp at q
 refine Tot.bindX (E := fun _ => ∀ s ∈ l, s.Moves.length ≤ 30) (TotX.of (Tot.guard (okIdx_of hl) (Tot.range (fun i _ => ∀ j, j < i → ∀ s, l[j]? = some s → s.Moves.length ≤ 30) _ (fun j q => by omega) (fun i s _ hs hr => ?_) (fun _ hr => .ok ?_)))) (fun _ h => .ok (fun _ => ⟨by omega, fun s hs => ⟨h s hs, hm s hs⟩⟩))
 ·refine TotX.ite (fun z => .ret (fun h => by cases h)) (fun z => .go (fun j hj t ht => ?_))
  simp at z
  rcases Nat.lt_or_ge j i with y | y
  ·exact hr j y t ht
  ·obtain rfl : j = i := by omega
   rw [hs] at ht; injection ht with ht; rw [← ht]; omega
 ·intro s hs
  obtain ⟨j, hj⟩ := List.mem_iff_getElem?.1 hs
  exact hr j (getElem_lt hj) s hj
theorem cmp_comment : ∀ (l : List ApiBlock) (s : ModalState), (∀ b ∈ l, b.Comment = []) → ∀ b ∈ cmpV s l, b.Comment = []
 | [], _, _, b, hb => by simp [cmpV] at hb
 | c :: r, s, h, b, hb => by
  rw [cmpV] at hb
  rcases List.mem_append.1 hb with q | q
  ·unfold cmpB at q
   split at q
   ·simp only [List.mem_cons, List.not_mem_nil, or_false] at q
    subst q
    exact h c (by simp)
   ·simp at q
  ·exact cmp_comment r _ (fun x hx => h x (by simp [hx])) b q
theorem foldM_comment {l : List ApiBlock} {n a : Nat} (hf : ∀ b ∈ l, b.Comment = []) : ∀ (f i : Nat), ∀ b ∈ foldM l n a f i, b.Comment = []
 | 0, i, b, hb => by simp [foldM] at hb
 | f + 1, i, b, hb => by
  rw [foldM] at hb
  cases hx : l[i]? with
  | none => rw [hx] at hb; simp at hb
  | some c =>
   rw [hx] at hb
   simp only at hb
   split at hb
   ·rcases List.mem_cons.1 hb with q | q
    ·subst q; rfl
    ·exact foldM_comment hf f _ b q
   ·rcases List.mem_cons.1 hb with q | q
    ·subst q; exact hf _ (List.mem_of_getElem? hx)
    ·exact foldM_comment hf f _ b q
theorem foldJ_comment {l : List ApiBlock} {n : Nat} (hf : ∀ b ∈ l, b.Comment = []) : ∀ b ∈ foldJ l n, b.Comment = [] := by
 unfold foldJ
 cases ha : atV l n with
 | none => exact hf
 | some a =>
  intro b hb
  simp only [List.mem_append, List.mem_cons, List.not_mem_nil, or_false] at hb
  rcases hb with ((q | q) | q) | q
  ·exact foldM_comment hf _ _ b q
  ·subst q; rfl
  ·exact hf b (List.mem_of_mem_drop (List.mem_of_mem_take q))
  ·subst q; rfl
theorem numV_comment (n : Int) : ∀ (l : List ApiBlock) (k : Int), (∀ b ∈ l, b.Comment = []) → ∀ b ∈ numV n k l, b.Comment = []
 | [], _, _, b, hb => by simp [numV] at hb
 | c :: r, k, h, b, hb => by
  rw [numV] at hb
  rcases List.mem_cons.1 hb with q | q
  ·subst q
   have := h c (by simp)
   unfold numB
   split <;> exact this
  ·exact numV_comment n r _ (fun x hx => h x (by simp [hx])) b q
theorem plain_comment {l : List ApiStage} {p : ApiPos} {w : Int} (hl : okStages l) (hp : okPos p) : ∀ b ∈ (plainV l p w).1, b.Comment = [] := by
 unfold plainV
 split
 ·exact fun b hb => by simp at hb
 ·cases hs : stagesV p l with
  | ret e => exact fun b hb => by simp at hb
  | go v =>
   obtain ⟨h1, h2⟩ := stagesV_go l p v hs hp hl.2
   intro b hb
   simp only [List.mem_append] at hb
   rcases hb with (q | q) | q
   ·simp only [headB, List.mem_cons, List.not_mem_nil, or_false] at q
    subst q; rfl
   ·rcases h2 b q with ⟨q1, m1, _, a2, rfl⟩ | ⟨n, a1, a2⟩
    ·unfold movB; split
     ·rfl
     ·split <;> rfl
    ·unfold chgV at a1 a2
     split at a1
     ·omega
     ·rename_i hn
      rw [if_neg hn] at a2
      simp only [chgB, List.mem_cons, List.not_mem_nil, or_false] at a2
      rcases a2 with rfl | rfl <;> rfl
   ·simp only [tailB, List.mem_cons, List.not_mem_nil, or_false] at q
    rcases q with rfl | rfl <;> rfl
theorem blocks_comment {l : List ApiStage} {p : ApiPos} {w n f : Int} {c : Bool} (hl : okStages l) (hp : okPos p) : ∀ b ∈ (blocksV l p w c n f).1, b.Comment = [] := by
 unfold blocksV
 split
 ·exact fun b hb => by simp at hb
 ·split
  ·exact fun b hb => by simp at hb
  ·have hb : ∀ b ∈ bodyV l p w c f, b.Comment = [] := by
    unfold bodyV
    have hc : ∀ b ∈ (if c = true then cmpV newS (plainV l p w).1 else (plainV l p w).1), b.Comment = [] := by
     cases c with
     | true => exact cmp_comment _ _ (plain_comment hl hp)
     | false => exact plain_comment hl hp
    by_cases hf : f = 0
    ·simp only [hf, if_true]; exact hc
    ·simp only [hf, if_false]; exact foldJ_comment hc
   by_cases hn : n = 0
   ·simp only [hn, if_true]; exact hb
   ·simp only [hn, if_false]; exact numV_comment _ _ _ hb
theorem postEmit_plain (w : L46Work) (o : R46Options) (hw : inL46Work w) (ho : inR46Options o) : l46_PostEmit w o = some true := by
 obtain ⟨hs, hp⟩ := hw
 obtain ⟨b, hb, hf⟩ := r46_Few_tot (l := w.Stages) hs.1 (fun s h m hm => in_move ((hs.2 s h).2.2 m hm))
 unfold l46_PostEmit
 simp only [awake46, bindO_s, if_true, hb]
 cases b with
 | false => rfl
 | true =>
  have hok := hf rfl
  have hpp := in_pos hp
  obtain ⟨c, d, e, f⟩ := o
  obtain ⟨h1, h2⟩ := blocks_few (w := c) (c := d) (n := e) (f := f) hok hpp
  have h3 := blocks_comment (w := c) (c := d) (n := e) (f := f) hok hpp
  simp only [Bool.not_true, Bool.false_eq_true, if_false]
  unfold po_Emit r46_Emit
  rw [show ApiPos.mk w.Start.X w.Start.Y w.Start.Z = w.Start from rfl, po_Blocks_eq hok hpp, bindO_s, r46_Blocks_eq hok hpp, bindO_s]
  generalize blocksV w.Stages w.Start c d e f = B at h1 h2 h3
  obtain ⟨l, err⟩ := B
  simp only at h1 h2 h3 ⊢
  by_cases he : err = 0
  ·subst he
   have hfew : fewP l 300 := ⟨by omega, fun x hx => ⟨by have := h2 x hx; omega, by rw [h3 x hx]; simp⟩⟩
   obtain ⟨y, hy, hy2⟩ := print_tot l hfew
   obtain ⟨z, hz, hz2⟩ := print_tot2 l hfew
   simp only [bne_self_eq_false, Bool.false_eq_true, if_false, hy, hz, bindO_s]
   rcases hy2 with ⟨rfl, hv⟩ | ⟨rfl, hv⟩
   ·have : z = (prt l, 0) := by rcases hz2 with h | h; exact h.1; exact absurd hv h.2
    subst this
    by_cases hlen : ((prt l).length : Int) > 65536
    ·simp [hlen]
    ·have hcp := count_prt l hv
     obtain ⟨u, hu, rfl⟩ := bk_Program_tot (prt l) (by omega) (by rw [hcp]; omega)
     have hge : l.length < (prt l).length + 1 := by
      have : ∀ m : List ApiBlock, m.length ≤ (prt m).length := by
       intro m
       induction m with
       | nil => simp
       | cons b m ih =>
        have hp : prt (b :: m) = (fmtV b ++ [10]) ++ prt m := by simp [prt]
        rw [hp, List.length_append, List.length_append, List.length_cons, List.length_cons, List.length_nil]
        omega
      have := this l
      omega
     rw [pgV_prt l _ [] hv hge] at hu
     have hd : decide (((prt l).length : Int) > 65536) = false := decide_eq_false hlen
     simp only [hd, Bool.and_false, Bool.false_eq_true, if_false, bindO_s, beq_self_eq_true, Bool.not_true, bne_self_eq_false, Bool.or_self, hu, if_true, List.nil_append]
     rw [same_refl l (by omega) (fun b hb => by have := h2 b hb; omega)]
     rfl
   ·have : z = ([], 1) := by rcases hz2 with h | h; exact absurd h.2 hv; exact h.1
    subst this
    rfl
  ·simp [he]
end Go.Proofs.YtejknolljjpodaaGreatDoor
