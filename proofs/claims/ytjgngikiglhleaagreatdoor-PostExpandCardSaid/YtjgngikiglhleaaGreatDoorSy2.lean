/-
  Sp, Sq in one text.
-/
import Derived.Test.YtjgngikiglhleaaGreatDoorSo
namespace Go.Proofs.YtjgngikiglhleaaGreatDoor
open Go.RowKit
theorem nr {α : Sort _} {a b : α} (h : a = b) : a = b := Eq.trans h (Eq.trans rfl rfl)
section
variable {P : Program} {g : Pg P} {Q : SQ} {fr : Fr} {s : Sg}
theorem regS_nil {dr : Bool} {ops : Array Oper} {K : Fr → Sg → Prop} : regS g dr ops [] fr s K = K fr s := nr rfl
theorem contK_eq {F : Fr → Sg → (Fr → Sg → Prop) → Prop} {K : Fr → Sg → Prop} {dst : Option Tmp} {r : V} : contK F K fr dst r s = F (putF fr dst r) s K := nr rfl
theorem contD_eq {F : Fr → Sg → (Fr → Sg → Prop) → Prop} {K : Fr → Sg → Prop} {dst : Option Tmp} {r : V} : contD F K fr dst s r = F (putF fr dst r) s K := nr rfl
end
def allUnder (n m : Nat) : List (List V) → Bool
 | []=>true
 | cs :: r=>V.unders n m cs && allUnder n m r
theorem SpecS.by {P : Program} {g : Pg P} {f : FuncId} {args : List V} {s : Sg} {R : V → Sg → Prop} {r : V} {args' : List V} (h : Spec g f args' r) (ha : args.map V.clean = args') (hR : R r s) : SpecS g f args s R := Spec.toS (by rw [ha]; exact h) hR
theorem Spec.by {P : Program} {g : Pg P} {f : FuncId} {args : List V} {K : V → Prop} {r : V} {args' : List V} (h : Spec g f args' r) (ha : args.map V.clean = args') (hK : K r) : callD g f args K := ⟨r,Spec.weak (by rw [ha]; exact h),hK⟩
theorem Spec.byF {P : Program} {g : Pg P} {f : FuncId} {args : List V} {K : V → Prop} {r : V} {args' : List V} (h : Spec g f args' r) (ha : args = args') (hK : K r) : callD g f args K := ⟨r,by rw [ha]; exact h,hK⟩
theorem SpecS.byF {P : Program} {g : Pg P} {f : FuncId} {args : List V} {s : Sg} {R : V → Sg → Prop} {r : V} {args' : List V} (h : Spec g f args' r) (ha : args.map V.cleanF = args') (hR : R r s) : SpecS g f args s R := Spec.toSF (by rw [ha]; exact h) hR
theorem SpecS.imp {P : Program} {g : Pg P} {f : FuncId} {args : List V} {s : Sg} {R R' : V → Sg → Prop} (h : SpecS g f args s R) (hi : ∀ y s',R y s' → R' y s') : SpecS g f args s R' := by
 refine ⟨h.1,fun w0 w G vs hH hr=>(h.2 w0 w G vs hH hr).mono ?_⟩
 rintro e w' ⟨v,y,s',G',h1,h2,h3,h4,h5⟩
 exact ⟨v,y,s',G',h1,h2,h3,h4,hi _ _ h5⟩
@[simp] theorem natCast_succ_neg (j : Nat) : ((j : Int) + 1 < 0) = False := by simp; omega
@[simp] theorem natCast_neg (j : Nat) : ((j : Int) < 0) = False := by simp
@[simp] theorem wrap_succ (j : Nat) (h : j < 9223372036854775807) : IntKind.i64.wrap ((j : Int) + 1) = (j : Int) + 1 := IntWalk.i64_in _ (by omega)
end Go.Proofs.YtjgngikiglhleaaGreatDoor
namespace Go.Proofs.YtjgngikiglhleaaGreatDoor
open Go.RowKit
def SWs {P : Program} (g : Pg P) (c : Code) (Q : SQ) (fr : Fr) (s : Sg) : Prop :=
 drawsOk c = true → ∀ (w0 : World) (G0 G : Cx) (a : Act) (w : World),G0.le G → HR P w0 w G s → FR G fr a → a.defers = [] → c.wp P (lift g w0 G0 Q) a w
section
variable {P : Program} {g : Pg P} {Q : SQ} {fr : Fr} {s : Sg}
theorem SWs.of {c : Code} (hs : drawsOkS c = true) (h : SW g c Q fr s) : SWs g c Q fr s := fun _ w0 G0 G a w h0 hH hfr hdf=>SW_ok c hs Q fr s h w0 G0 G a w h0 hH hfr hdf
theorem SWs.mono {c : Code} {Q' : SQ} (h : SWs g c Q fr s) (hq : ∀ e fr s,Q e fr s → Q' e fr s) : SWs g c Q' fr s := by
 intro hd w0 G0 G a w h0 hH hfr hdf
 refine Code.wp_mono ?_ (h hd w0 G0 G a w h0 hH hfr hdf)
 rintro e a w ⟨G',fr',s',q1,q2,q3,q4,q5⟩
 exact ⟨G',fr',s',q1,q2,q3,q4,hq _ _ _ q5⟩
theorem SWs.skip (h : Q .normal fr s) : SWs g .skip Q fr s := SWs.of rfl h
theorem SWs.ret (h : Q .ret fr s) : SWs g .ret Q fr s := SWs.of rfl h
theorem SWs.exit {id : Nat} (h : Q (.exit id) fr s) : SWs g (.exit id) Q fr s := SWs.of rfl h
theorem SWs.region {id : Nat} {ops : Array Oper} (h : regS g false ops ops.toList fr s (Q .normal)) : SWs g (.region id ops false) Q fr s := SWs.of rfl h
theorem SWs.regionD {id : Nat} {ops : Array Oper} {L : List (Tmp × Tmp)} (hL : (drawOk ops,seps ops) = (true,L)) (h : regS g true ops ops.toList fr s (fun fr' s'=>sepL L fr' = true ∧ Q .normal fr' s')) : SWs g (.region id ops true) Q fr s := by
 intro hdr w0 G0 G a w h0 hH hfr hd
 injection hL with h1 h2
 exact region_draw (by rw [h2]; exact h) h1 (fun a w q=>q) h0 hH hfr hd
theorem SWs.seq {x y : Code} (h : SWs g x (seqQ (SWs g y Q) Q) fr s) : SWs g (.seq x y) Q fr s := by
 intro hdr w0 G0 G a w h0 hH hfr hd
 simp only [drawsOk,Bool.and_eq_true] at hdr
 refine wp_seq (Code.wp_mono ?_ (h hdr.1 w0 G0 G a w h0 hH hfr hd))
 intro e a w q
 cases e with
 | normal =>
  obtain ⟨G',fr',s',q1,q2,q3,q4,q5⟩ := q
  exact q5 hdr.2 w0 G0 G' a w q1 q2 q3 q4
 | _=>exact q
theorem SWs.cut {x y : Code} (L : List Nat) (J : Fr → Sg → Prop) (h : SWs g x (seqQ (fun fr' s'=>keptOk L s.obs.length s.lns.length fr' s' = true ∧ J (maskF L fr') (s'.cut s.obs.length s.lns.length)) Q) fr s)
  (h2 : ∀ fr1 s1,J fr1 s1 → SWs g y Q fr1 s1) : SWs g (.seq x y) Q fr s := by
 intro hdr w0 G0 G a w h0 hH hfr hd
 simp only [drawsOk,Bool.and_eq_true] at hdr
 refine wp_seq (Code.wp_mono ?_ (h hdr.1 w0 G G a w (Cx.le.refl G) hH hfr hd))
 rintro e a w ⟨G',fr',s',q1,q2,q3,q4,q5⟩
 cases e with
 | normal =>
  obtain ⟨q6,q7⟩ := q5
  exact h2 _ _ q7 hdr.2 w0 G0 _ a w (h0.trans (le_restr (w' := w) hH q1)) (HR_cut q2 q6) (FR_cut q3 q6) q4
 | _=>exact ⟨G',fr',s',h0.trans q1,q2,q3,q4,q5⟩
theorem SWs.gh {c : Code} (gh : List Gh) {fr0 : Fr} {s0 : Sg} (hgh : ghS gh fr s = some (fr0,s0)) (h : SWs g c Q fr0 s0) : SWs g c Q fr s := by
 intro hdr w0 G0 G a w h0 hH hfr hd
 obtain ⟨G1,g1,g2,g3⟩ := ghS_ok gh fr s G a fr0 s0 hgh hH hfr
 exact h hdr w0 G0 G1 a w (h0.trans g1) g2 g3 hd
theorem SWs.cond {o : Operand} {x y : Code} {b : Bool} (hb : evalO fr o = .d (.bool b)) (hx : b = true → SWs g x Q fr s) (hy : b = false → SWs g y Q fr s) : SWs g (.cond o x y) Q fr s := by
 intro hdr w0 G0 G a w h0 hH hfr hd
 simp only [drawsOk,Bool.and_eq_true] at hdr
 have hr := evalO_rel hfr o
 rw [hb] at hr
 have hv := inv_bool hr
 cases b with
 | true=>exact wp_cond_true hv (hx rfl hdr.1 w0 G0 G a w h0 hH hfr hd)
 | false=>exact wp_cond_false hv (hy rfl hdr.2 w0 G0 G a w h0 hH hfr hd)
theorem SWs.block {id : Nat} {c : Code} (h : SWs g c (blockQ id Q) fr s) : SWs g (.block id c) Q fr s := by
 intro hdr w0 G0 G a w h0 hH hfr hd
 refine wp_block (Code.wp_mono ?_ (h hdr w0 G0 G a w h0 hH hfr hd))
 intro e a w q
 cases e with
 | exit j =>
  obtain ⟨G',fr',s',q1,q2,q3,q4,q5⟩ := q
  simp only [blockQ] at q5
  simp only [Exit.inBlock]
  split
  ·rename_i e; rw [if_pos e] at q5; exact ⟨G',fr',s',q1,q2,q3,q4,q5⟩
  ·rename_i e; rw [if_neg e] at q5; exact ⟨G',fr',s',q1,q2,q3,q4,q5⟩
 | _=>exact q
theorem SWs.loop {c : Code} (L : List Nat) (I : Nat → Fr → Sg → Prop) (n : Nat) (h0 : I n (maskF L fr) s)
  (hr : ∀ m fr1 s1,I m fr1 s1 → s1.obs.length = s.obs.length ∧ s1.lns.length = s.lns.length ∧
   SWs g c (seqQ (fun fr' s'=>keptOk L s.obs.length s.lns.length fr' s' = true ∧ ∃ m',m' < m ∧ I m' (maskF L fr') (s'.cut s.obs.length s.lns.length)) Q) fr1 s1) : SWs g (.loop c) Q fr s := by
 intro hdr w0 G0 G a w hG hH hfr hd
 refine wp_loop_idx (fun m a w=>∃ G' fr1 s1,G.le G' ∧ HR P w0 w G' s1 ∧ FR G' fr1 a ∧ a.defers = [] ∧ I m fr1 s1) (n := n) ⟨G,maskF L fr,s,Cx.le.refl _,hH,FR_mask hfr L,hd,h0⟩ ?_
 rintro m a w ⟨G',fr1,s1,k1,k2,k3,k4,k5⟩
 obtain ⟨l1,l2,hbody⟩ := hr m fr1 s1 k5
 refine Code.wp_mono ?_ (hbody hdr w0 G G' a w k1 k2 k3 k4)
 intro e a w q
 obtain ⟨G2,fr2,s2,q1,q2,q3,q4,q5⟩ := q
 cases e with
 | normal =>
  obtain ⟨q6,m',q7,q8⟩ := q5
  exact ⟨m',q7,G2.restr s.obs.length s.lns.length,_,_,le_restr (w' := w) hH q1,HR_cut q2 q6,FR_cut q3 q6,q4,q8⟩
 | _=>exact ⟨G2,fr2,s2,hG.trans q1,q2,q3,q4,q5⟩
end
theorem specS_by {P : Program} {g : Pg P} {f : FuncId} {fn : Func} {c : Code} (hf : P.funcs[f]? = some fn) (hb : fn.body = some c) (he : enterable P f = true) (hdr : drawsOk c = true) {args : List V} {s : Sg} {R : V → Sg → Prop}
  (h : SWs g c (retQ g fn.results.toList R) (args ++ List.replicate (fn.ntmps - args.length) .undef) s) : SpecS g f args s R := by
 refine ⟨he,fun w0 w G vs hH hr=>?_⟩
 refine calls_of_wp hf hb (Code.wp_mono ?_ (h hdr w0 G G _ w (Cx.le.refl G) hH (init_FR hr fn.ntmps) rfl))
 rintro e a w' ⟨G',fr,s',q1,q2,q3,q4,q5⟩
 cases e with
 | normal =>
  simp only [retQ] at q5
  split at q5
  ·rename_i y hy
   obtain ⟨v,r1,r2⟩ := resV_ok q2 q3 hy
   exact ⟨q4,v,r1,v,y,s',G',rfl,q1,q2,r2,q5⟩
  ·exact q5.elim
 | ret =>
  simp only [retQ] at q5
  split at q5
  ·rename_i y hy
   obtain ⟨v,r1,r2⟩ := resV_ok q2 q3 hy
   exact ⟨q4,v,r1,v,y,s',G',rfl,q1,q2,r2,q5⟩
  ·exact q5.elim
 | _=>exact q5.elim
theorem spec_by {P : Program} {g : Pg P} {f : FuncId} {fn : Func} {c : Code} (hf : P.funcs[f]? = some fn) (hb : fn.body = some c) (he : enterable P f = true) (hdr : drawsOk c = true) {args : List V} {r : V}
  (h : SWs g c (retQ g fn.results.toList (fun y _=>y.clean = r)) (args ++ List.replicate (fn.ntmps - args.length) .undef) ⟨[],[]⟩) : Spec g f args r := by
 refine ⟨he,fun w F vs hF hgl hr=>?_⟩
 have hs := specS_by hf hb he hdr h
 have hH : HR P w w (bareG F) ⟨[],[]⟩ := by
  refine ⟨Kp.refl w,hF,fun b o v q=>.inl q,?_,?_,?_,?_,?_,?_,hgl,fun k b q=>(by cases q),fun k b q=>(by cases q),fun k k' b q=>(by cases q),fun k b q=>(by cases q),fun k L q=>(by cases q),fun k k' L L' b q=>(by cases q),fun b t q=>(by cases q)⟩
  ·intro k b q; cases q
  ·intro k cs q; simp at q
  ·intro k k' b q; cases q
  ·intro t L q; cases q
  ·intro t e n q; simp at q
  ·intro t t' L L' b q; cases q
 refine (hs.2 w w (bareG F) vs hH hr).mono ?_
 rintro e w' ⟨v,y,s',G',rfl,q1,q2,q3,q4⟩
 refine ⟨v,rfl,q2.kp,?_⟩
 subst q4
 refine clean_rel q3 _ (fun b o u q=>?_)
 rcases q2.fb b o u q with z | z
 ·left
  have := q1.base
  rw [this] at z
  exact z
 ·exact .inr ⟨z,(q2.fs b o u q).2⟩
theorem specF_by {P : Program} {g : Pg P} {f : FuncId} {fn : Func} {c : Code} (hf : P.funcs[f]? = some fn) (hb : fn.body = some c) (he : enterable P f = true) (hdr : drawsOk c = true) {args : List V} {r : V}
  (h : SWs g c (retQ g fn.results.toList (fun y _=>y.cleanF = r)) (args ++ List.replicate (fn.ntmps - args.length) .undef) ⟨[],[]⟩) : Spec g f args r := by
 refine ⟨he,fun w F vs hF hgl hr=>?_⟩
 have hs := specS_by hf hb he hdr h
 have hH : HR P w w (bareG F) ⟨[],[]⟩ := by
  refine ⟨Kp.refl w,hF,fun b o v q=>.inl q,?_,?_,?_,?_,?_,?_,hgl,fun k b q=>(by cases q),fun k b q=>(by cases q),fun k k' b q=>(by cases q),fun k b q=>(by cases q),fun k L q=>(by cases q),fun k k' L L' b q=>(by cases q),fun b t q=>(by cases q)⟩
  ·intro k b q; cases q
  ·intro k cs q; simp at q
  ·intro k k' b q; cases q
  ·intro t L q; cases q
  ·intro t e n q; simp at q
  ·intro t t' L L' b q; cases q
 refine (hs.2 w w (bareG F) vs hH hr).mono ?_
 rintro e w' ⟨v,y,s',G',rfl,q1,q2,q3,q4⟩
 refine ⟨v,rfl,q2.kp,?_⟩
 subst q4
 refine cleanF_rel q3 _ (fun b o u q=>?_)
 rcases q2.fb b o u q with z | z
 ·left
  have := q1.base
  rw [this] at z
  exact z
 ·exact .inr ⟨z,(q2.fs b o u q).2⟩
end Go.Proofs.YtjgngikiglhleaaGreatDoor
