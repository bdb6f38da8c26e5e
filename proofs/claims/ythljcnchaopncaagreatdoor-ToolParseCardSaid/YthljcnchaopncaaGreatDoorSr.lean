import Derived.Test.YthljcnchaopncaaGreatDoorSy2
import Derived.MapKept
import Derived.Carry
namespace Go.Proofs.YthljcnchaopncaaGreatDoor
open Go.RowKit
def regW {P : Program} (g : Pg P) (ops : Array Oper) (l : List Oper) (fr : Fr) (s : Sg) (K : Fr → Sg → Prop) : Prop :=
 ∀ (w0 : World) (G0 G : Cx) (a : Act) (w : World) (Q : Exit → Act → World → Prop),(∀ a w,Post g w0 G0 K a w → Q .normal a w) → G0.le G → HR P w0 w G s → FR G fr a → a.defers = [] → wpList P ops Q l a w
def altR {P : Program} (_ : Pg P) (o : Oper) (fr : Fr) (s : Sg) (R : V → Sg → Prop) : Prop :=
 ∀ (w0 w : World) (G : Cx) (a : Act),HR P w0 w G s → FR G fr a → ∃ nx w' y s' G',(execOp a.eval o).run P w = .ok nx w' ∧ ((∃ v,nx = .value v ∧ rel G' y v) ∨ (nx = .skip ∧ y = .undef)) ∧ G.le G' ∧ HR P w0 w' G' s' ∧ R y s'
theorem reg_seq2 {P : Program} {g : Pg P} {w0 : World} {G0 : Cx} {ops : Array Oper} {K : Fr → Sg → Prop} {Q : Exit → Act → World → Prop} (l2 : List Oper) (hQ : ∀ a w,Post g w0 G0 K a w → wpList P ops Q l2 a w) :
  ∀ (l : List Oper) (fr : Fr) (s : Sg) (G : Cx) (a : Act) (w : World),regS g false ops l fr s K → G0.le G → HR P w0 w G s → FR G fr a → a.defers = [] → wpList P ops Q (l ++ l2) a w
 | [],fr,s,G,a,w,h,h0,hH,hfr,hd=>hQ a w ⟨G,fr,s,h0,hH,hfr,hd,h⟩
 | o :: rest,fr,s,G,a,w,h,h0,hH,hfr,hd=>by
  unfold regS at h
  rw [List.cons_append]
  unfold wpList
  cases hw : wantedS ops fr o with
  | none=>rw [hw] at h; exact h.elim
  | some b =>
   rw [hw] at h
   rw [wanted_ok hfr hw]
   simp only at h
   cases b with
   | false =>
    rw [if_neg (by simp)] at h
    rw [if_neg (by simp)]
    exact reg_seq2 l2 hQ rest _ s G _ w h h0 hH (FR_put hfr .skip o.dst) (by rw [put_defers]; exact hd)
   | true =>
    rw [if_pos rfl] at h
    rw [if_pos rfl]
    left
    have step : (∃ y f,stepS g (fun k=>s.obs[k]?) (fun t=>s.lns[t]?) s.obs.length s.lns.length o (evalO fr) = some (y,f) ∧ regS g false ops rest (putF fr o.dst y) (f.sg s) K) → o.wp P a w (wpList P ops Q (rest ++ l2)) Q := by
     rintro ⟨y,f,hs,hrest⟩
     obtain ⟨nx,w',G',r1,r2,r3,r4⟩ := stepS_ok hH (by simp) (by simp) hfr hs
     have hfit := stepS_fits hs
     rw [← sg_obs f s hfit,← sg_lns f s hfit] at r4
     unfold Oper.wp
     rw [r1]
     rcases r2 with ⟨v,rfl,hv⟩ | ⟨rfl,rfl⟩
     ·exact reg_seq2 l2 hQ rest _ _ G' _ w' hrest (h0.trans r3) r4 (FR_put (FR_mono r3 hfr) hv o.dst) (by rw [put_defers]; exact hd)
     ·exact reg_seq2 l2 hQ rest _ _ G' _ w' hrest (h0.trans r3) r4 (FR_put (FR_mono r3 hfr) (.undef _) o.dst) (by rw [put_defers]; exact hd)
    split at h
    ·rename_i f args tys hop
     split at h
     ·rename_i fid xs hc
      rw [if_neg (by simp)] at h
      obtain ⟨he,hcall⟩ := h
      obtain ⟨vs,r1,r2⟩ := exec_call hfr hop hc he w
      unfold Oper.wp
      rw [r1]
      refine (hcall w0 w G vs hH r2).mono ?_
      rintro e w' ⟨v,y,s',G',rfl,q1,q2,q3,q4⟩
      exact reg_seq2 l2 hQ rest _ s' G' _ w' q4 (h0.trans q1) q2 (FR_put (FR_mono q1 hfr) q3 o.dst) (by rw [put_defers]; exact hd)
     ·exact h.elim
    ·split at h
     ·rename_i y f hs
      exact step ⟨y,f,hs,h⟩
     ·exact h.elim
section
variable {P : Program} {g : Pg P} {ops : Array Oper} {fr : Fr} {s : Sg} {K : Fr → Sg → Prop}
theorem regW.of {l : List Oper} (h : regS g false ops l fr s K) : regW g ops l fr s K := by
 intro w0 G0 G a w Q hQ h0 hH hfr hd
 have := reg_seq2 (g := g) (ops := ops) (Q := Q) [] (fun a w q=>by exact hQ a w q) l fr s G a w h h0 hH hfr hd
 rwa [List.append_nil] at this
theorem regW.alt {l : List Oper} (n : Nat) {o : Oper} (ho : l[n]? = some o)
  (h : regS g false ops (l.take n) fr s (fun fr' s'=>wantedS ops fr' o = some true ∧ altR g o fr' s' (fun y s''=>regW g ops (l.drop (n + 1)) (putF fr' o.dst y) s'' K))) : regW g ops l fr s K := by
 intro w0 G0 G a w Q hQ h0 hH hfr hd
 have hl : l = l.take n ++ (o :: l.drop (n + 1)) := by
  have hn := getElem_lt ho
  rw [List.getElem?_eq_getElem hn] at ho
  injection ho with ho
  rw [← ho,← List.drop_eq_getElem_cons hn,List.take_append_drop]
 rw [hl]
 refine reg_seq2 (g := g) (G0 := G0) (w0 := w0) (o :: l.drop (n + 1)) ?_ (l.take n) fr s G a w h h0 hH hfr hd
 rintro a w ⟨G',fr',s',q1,q2,q3,q4,hw,ha⟩
 unfold wpList
 rw [wanted_ok q3 hw,if_pos rfl]
 left
 obtain ⟨nx,w',y,s'',G2,r1,r2,r3,r4,r5⟩ := ha w0 w G' a q2 q3
 unfold Oper.wp
 rw [r1]
 rcases r2 with ⟨v,rfl,hv⟩ | ⟨rfl,rfl⟩
 ·exact r5 w0 G0 G2 _ w' Q hQ (q1.trans r3) r4 (FR_put (FR_mono r3 q3) hv o.dst) (by rw [put_defers]; exact q4)
 ·exact r5 w0 G0 G2 _ w' Q hQ (q1.trans r3) r4 (FR_put (FR_mono r3 q3) (.undef _) o.dst) (by rw [put_defers]; exact q4)
theorem SWs.regionW {id : Nat} {Q : SQ} (h : regW g ops ops.toList fr s (Q .normal)) : SWs g (.region id ops false) Q fr s :=
 fun _ w0 G0 G a w h0 hH hfr hd=>wp_region_list (h w0 G0 G a w (lift g w0 G0 Q) (fun _ _ q=>q) h0 hH hfr hd)
end
section
variable {P : Program} {g : Pg P} {d : Option Tmp} {t ty : TypeId} {p : String} {af : Array Edge} {gd : Option (Nat × Bool)} {fr : Fr} {s : Sg} {R : V → Sg → Prop}
theorem sg_push (s : Sg) (c : List V) : upd (fun k=>s.obs[k]?) s.obs.length c = fun k=>(s.obs ++ [c])[k]? := by
 funext j
 by_cases e : j = s.obs.length
 ·rw [e,upd_same]; simp
 ·rw [upd_ne _ _ e,List.getElem?_append]
  split
  ·rfl
  ·rename_i q
   rw [List.getElem?_eq_none (by omega),List.getElem?_eq_none (by simp; omega)]
theorem sg_set {s : Sg} {k : Nat} {c0 c : List V} (h : s.obs[k]? = some c0) : upd (fun k=>s.obs[k]?) k c = fun j=>(s.obs.set k c)[j]? := by
 funext j
 have hk := getElem_lt h
 by_cases e : j = k
 ·subst e; rw [upd_same]; simp [hk]
 ·rw [upd_ne _ _ e,List.getElem?_set_ne (fun y=>e y.symm)]
end
end Go.Proofs.YthljcnchaopncaaGreatDoor
