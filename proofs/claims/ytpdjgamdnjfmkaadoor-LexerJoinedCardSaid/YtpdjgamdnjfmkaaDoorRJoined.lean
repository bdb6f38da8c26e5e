import Derived.Test.YtpdjgamdnjfmkaaDoorTy2
import Derived.Test.YtpdjgamdnjfmkaaDoorMLLexerJoined
namespace Go.Proofs.YtpdjgamdnjfmkaaDoor
open Go.RowKit
set_option linter.unusedVariables false
set_option linter.unusedSimpArgs false
theorem jt_app : ∀ (l m : List Tk), jt (l ++ m) = jt l ++ jt m
 | [], m => rfl
 | x :: l, m => by
  show 32 :: (x.text ++ jt (l ++ m)) = 32 :: (x.text ++ jt l) ++ jt m
  rw [jt_app l m]; simp
theorem jt_one (x : Tk) : jt [x] = 32 :: x.text := by
 show 32 :: (x.text ++ []) = _
 rw [List.append_nil]
theorem jt_len : ∀ (f : Nat) (s : List UInt8) (a : Nat), (jt (toks f s a).l).length ≤ 2 * s.length
 | 0, _, _ => Nat.zero_le _
 | f + 1, s, a => by
  cases hs : stepT s with
  | fin => rw [toks_fin hs]; exact Nat.zero_le _
  | bad p e => rw [toks_bad hs]; exact Nat.zero_le _
  | space =>
   obtain ⟨r, rfl⟩ := stepT_space hs
   rw [toks_space hs]
   have := jt_len f r (a + 1)
   simp only [List.drop_succ_cons, List.drop_zero, List.length_cons]
   omega
  | one k n =>
   obtain ⟨_, hn, hn2⟩ := stepT_good hs
   have := jt_len f (s.drop n) (a + n)
   rw [List.length_drop] at this
   rw [toks_one hs]
   split
   ·show (32 :: (s.take n ++ jt (toks f (s.drop n) (a + n)).l)).length ≤ _
    rw [List.length_cons, List.length_append, List.length_take]
    omega
   ·omega
theorem joined_tok {s : List UInt8} (h : (tokL s).e = 0) : (tokL ((jt (tokL s).l).drop 1)).e = 0 ∧ (tokL ((jt (tokL s).l).drop 1)).l.map ktx = (tokL s).l.map ktx := by
 have hj := toks_joined (s.length + 1) s 0 h
 show (tokL ((jt (toks (s.length + 1) s 0).l).drop 1)).e = 0 ∧ (tokL ((jt (toks (s.length + 1) s 0).l).drop 1)).l.map ktx = (toks (s.length + 1) s 0).l.map ktx
 generalize (toks (s.length + 1) s 0).l = l at *
 cases l with
 | nil => exact ⟨rfl, rfl⟩
 | cons x l =>
  have e : jt (x :: l) = 32 :: (x.text ++ jt l) := rfl
  rw [e] at hj ⊢
  have := hj ((x.text ++ jt l).length + 2) 0 (by simp)
  rw [toks_space (space_32 _)] at this
  have h2 := toks_shift ((x.text ++ jt l).length + 1) (x.text ++ jt l) (0 + 1) 0
  exact ⟨h2.1.symm.trans this.1, h2.2.symm.trans this.2⟩
theorem lexerJoined_plain (s : List UInt8) (_ : inStr s) : l21_LexerJoined s = some true := by
 unfold l21_LexerJoined
 rw [awake21, bindO_s, if_pos rfl, bindO_s]
 by_cases h1 : (s.length : Int) > 300
 ·rw [decide_eq_true h1]; rfl
 rw [decide_eq_false h1]
 simp only [Bool.false_eq_true, if_false]
 rw [lx_Tokens_eq (by omega), bindO_s]
 have hll := tokL_len s
 have hjl : (jt (tokL s).l).length ≤ 2 * s.length := jt_len _ _ _
 by_cases h : (tokL s).e = 0
 ·obtain ⟨j1, j2⟩ := joined_tok h
  have hR : resT tkX [] (tokL s) = ((tokL s).l.map tkX, 0, 0) := by unfold resT; rw [if_pos h]; rfl
  rw [hR]
  generalize (tokL s).l = l at *
  apply Tot.get
  refine Tot.ite (fun q => by cases q) (fun _ => ?_)
  refine Tot.bind (E := fun v => v = (jt l).drop 1) (Tot.guard (okIdx_of (by simp; omega)) (Tot.range (fun i (v : List UInt8) => v = (jt (l.take i)).drop 1) _ rfl (fun i e v hx hr => ?_) (fun v hr => .ok ?_))) (fun v hv => ?_)
  ·subst hr
   rw [List.getElem?_map] at hx
   cases hxi : l[i]? with
   | none => rw [hxi] at hx; cases hx
   | some x =>
    rw [hxi] at hx
    injection hx with hx
    subst hx
    have eT : (tkX x).Text = x.text := rfl
    rw [eT]
    have ht : l.take (i + 1) = l.take i ++ [x] := by rw [List.take_add_one, hxi]; rfl
    have hlen : (jt (l.take i)).length + (1 + x.text.length) ≤ 600 := by
     have : (jt l).length = (jt (l.take (i + 1))).length + (jt (l.drop (i + 1))).length := by
      rw [← List.length_append, ← jt_app, List.take_append_drop]
     rw [ht, jt_app, jt_one, List.length_append, List.length_cons] at this
     omega
    have hdl : ((jt (l.take i)).drop 1).length ≤ (jt (l.take i)).length := by rw [List.length_drop]; omega
    rw [ht, jt_app, jt_one]
    by_cases z : (i : Int) > 0
    ·rw [decide_eq_true z, if_pos rfl, okStr_of (by simp; omega), guardO_t, bindO_s]
     refine .guard (okStr_of (by rw [List.length_append]; simp; omega)) (.go ?_)
     have hne : jt (l.take i) ≠ [] := by
      cases l with
      | nil => simp at hxi
      | cons y m =>
       obtain ⟨k, rfl⟩ := Nat.exists_eq_succ_of_ne_zero (show i ≠ 0 by omega)
       rw [List.take_succ_cons]
       simp [jt]
     cases hq : jt (l.take i) with
     | nil => exact absurd hq hne
     | cons d r => simp
    ·rw [decide_eq_false z]
     have hi : i = 0 := by omega
     subst hi
     simp only [Bool.false_eq_true, if_false, bindO_s]
     refine .guard (okStr_of (by simp [jt]; omega)) (.go ?_)
     simp [jt]
  ·rw [hr, List.length_map, List.take_length]
  ·subst hv
   have htl : ((jt l).drop 1).length ≤ 600 := by rw [List.length_drop]; omega
   have hR2 : resT tkX [] (tokL ((jt l).drop 1)) = ((tokL ((jt l).drop 1)).l.map tkX, 0, 0) := by unfold resT; rw [if_pos j1]; rfl
   rw [lx_Tokens_eq (by omega), bindO_s, hR2]
   generalize (tokL ((jt l).drop 1)).l = m at *
   have hml : m.length = l.length := by
    have := congrArg List.length j2
    simpa using this
   refine Tot.ite (fun q => by simp [hml] at q) (fun _ => ?_)
   refine Tot.bindX (E := fun _ => True) (TotX.of (Tot.guard (okIdx_of (by simp; omega)) (Tot.range (fun _ _ => True) _ trivial (fun i e v hx _ => ?_) (fun v _ => .ok trivial)))) (fun _ _ => .ok rfl)
   rw [List.getElem?_map] at hx
   cases hxi : l[i]? with
   | none => rw [hxi] at hx; cases hx
   | some x =>
    rw [hxi] at hx
    injection hx with hx
    subst hx
    have hj : (m.map ktx)[i]? = (l.map ktx)[i]? := by rw [j2]
    rw [List.getElem?_map, List.getElem?_map, hxi] at hj
    cases hyi : m[i]? with
    | none => rw [hyi] at hj; cases hj
    | some y =>
     rw [hyi] at hj
     injection hj with hj
     unfold ktx at hj
     injection hj with e1 e2
     have hg : gt (m.map tkX) (i : Int) = some (tkX y) := gt_k (by rw [List.getElem?_map, hyi]; rfl)
     have f1 : (tkX x).Kind = (tkX y).Kind := by show (x.kind : Int) = (y.kind : Int); rw [e1]
     have f2 : (tkX x).Text = (tkX y).Text := e2.symm
     rw [hg, bindO_s, f1, f2]
     refine TotX.bind (E := fun b => b = false) (Tot.ite (fun q => by simp at q) (fun _ => .ok (by simp))) (fun b hb => ?_)
     subst hb
     exact .go trivial
 ·have hR : resT tkX [] (tokL s) = ([], ((tokL s).pos : Int), ((tokL s).e : Int)) := by unfold resT; rw [if_neg h]
  rw [hR, if_pos (by simpa using h)]
end Go.Proofs.YtpdjgamdnjfmkaaDoor
