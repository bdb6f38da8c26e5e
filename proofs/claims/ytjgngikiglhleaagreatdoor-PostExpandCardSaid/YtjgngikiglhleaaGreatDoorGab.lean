/-
  Ga, Gb in one text.
-/
import Derived.Test.YtjgngikiglhleaaGreatDoorSy2
namespace Go.Proofs.YtjgngikiglhleaaGreatDoor
open Go.RowKit
inductive Ex (ε ν : Type) where
 | ret (e : ε)
 | go (v : ν)
def fuel : Nat := 1000000000000000000000000000000
def gt {α : Type} (l : List α) (i : Int) : Option α := if i < 0 then none else l[i.toNat]?
theorem gt_nn {α : Type} {l : List α} {i : Int} {e : α} (h : gt l i = some e) : (i < 0) = False := by
 unfold gt at h; split at h
 ·cases h
 ·rename_i q; simp [q]
theorem gt_at {α : Type} {l : List α} {i : Int} {e : α} (h : gt l i = some e) : l[i.toNat]? = some e := by
 unfold gt at h; split at h
 ·cases h
 ·exact h
theorem gt_ok {α : Type} {l : List α} {i : Int} {e : α} (h : gt l i = some e) : ((i < 0) = False) ∧ l[i.toNat]? = some e := ⟨gt_nn h,gt_at h⟩
def cutL {α : Type} (l : List α) (a b : Int) : Option (List α) := if a < 0 ∨ b < a ∨ (l.length : Int) < b then none else some ((l.drop a.toNat).take (b.toNat - a.toNat))
theorem cutL_ok {α : Type} {l r : List α} {a b : Int} (h : cutL l a b = some r) : (a < 0) = False ∧ (b < 0) = False ∧ (a.toNat ≤ b.toNat) = True ∧ (b.toNat ≤ l.length) = True ∧ (l.drop a.toNat).take (b.toNat - a.toNat) = r := by
 unfold cutL at h; split at h
 ·cases h
 ·rename_i q
  refine ⟨by simp; omega,by simp; omega,by simp; omega,by simp; omega,Option.some.inj h⟩
def cutF {α : Type} (l : List α) (a : Int) : Option (List α) := if a < 0 ∨ (l.length : Int) < a then none else some (l.drop a.toNat)
theorem cutF_ok {α : Type} {l r : List α} {a : Int} (h : cutF l a = some r) : (a < 0) = False ∧ (a.toNat ≤ l.length) = True ∧ (l.drop a.toNat).take (l.length - a.toNat) = r := by
 unfold cutF at h; split at h
 ·cases h
 ·refine ⟨by simp; omega,by simp; omega,?_⟩
  rw [List.take_of_length_le (by simp)]; exact Option.some.inj h
def cutT {α : Type} (l : List α) (b : Int) : Option (List α) := if b < 0 ∨ (l.length : Int) < b then none else some (l.take b.toNat)
theorem cutT_ok {α : Type} {l r : List α} {b : Int} (h : cutT l b = some r) : (b < 0) = False ∧ (b.toNat ≤ l.length) = True ∧ (0 ≤ b.toNat) = True ∧ l.take b.toNat = r ∧ b.toNat - 0 = b.toNat := by
 unfold cutT at h; split at h
 ·cases h
 ·exact ⟨by simp; omega,by simp; omega,by simp,Option.some.inj h,rfl⟩
def bindO {α β : Type} (e : Option α) (f : α → Option β) : Option β := match e with | none=>none | some x=>f x
theorem bindO_some {α β : Type} {e : Option α} {f : α → Option β} {y : β} (h : bindO e f = some y) : ∃ x,e = some x ∧ f x = some y := by
 cases e with
 | none=>cases h
 | some x=>exact ⟨x,rfl,h⟩
def guardO {β : Type} (c : Bool) (e : Option β) : Option β := match c with | true=>e | false=>none
theorem guardO_some {β : Type} {c : Bool} {e : Option β} {y : β} (h : guardO c e = some y) : c = true ∧ e = some y := by
 cases c with
 | false=>cases h
 | true=>exact ⟨rfl,h⟩
def bindX {ε ν : Type} (e : Option (Ex ε ν)) (f : ν → Option ε) : Option ε := match e with | none=>none | some (.ret r)=>some r | some (.go v)=>f v
def loopX {ε ν : Type} (f : ν → Option (Ex ε ν)) : Nat → ν → Option ε
 | 0,_=>none
 | n + 1,v=>match f v with | none=>none | some (.ret e)=>some e | some (.go v')=>loopX f n v'
def V.noMap : V → Bool
 | .mapc _ _=>false
 | .rowc _ _ _=>false
 | _=>true
inductive V.le : V → V → Prop
 | refl (x : V) : V.le x x
 | undef (x : V) (h : x.noMap = true) : V.le x .undef
 | nil : V.le .nil (.d (.list []))
 | own (t : Nat) (es : List (List D)) : V.le (.own t es) (.d (.list es))
 | full (es : List (List D)) : V.le (.full es) (.d (.list es))
 | agg (cs ds : List V) (hl : cs.length = ds.length) (h : ∀ (i : Nat) (x y : V),cs[i]? = some x → ds[i]? = some y → V.le x y) : V.le (.agg cs) (.agg ds)
theorem V.le.rel {x y : V} (h : V.le x y) : ∀ {G : Cx} {v : Value},rel G x v → rel G y v := by
 induction h with
 | refl x=>exact id
 | undef x _=>intro G v _; exact .undef v
 | nil=>intro G v r; cases r; exact .d (.nil _ _)
 | own t es=>intro G v r; cases r with | own _ _ _ q=>exact .d q
 | full es=>intro G v r; cases r with | full _ _ q=>exact .d q
 | agg cs ds hl _ ih =>
  intro G v r
  cases r with
  | agg _ vs hl2 hr =>
   refine .agg ds vs (hl ▸ hl2) fun i y u h1 h2=>?_
   have hi : i < cs.length := by rw [hl]; exact getElem_lt h1
   exact ih i cs[i] y (List.getElem?_eq_getElem hi) h1 (hr i cs[i] u (List.getElem?_eq_getElem hi) h2)
def leL : List V → List V → Prop
 | [],[]=>True
 | x :: xs,y :: ys=>V.le x y ∧ leL xs ys
 | _,_=>False
theorem leL_len : ∀ {xs ys : List V},leL xs ys → xs.length = ys.length
 | [],[],_=>rfl
 | _ :: xs,_ :: ys,h=>by simp [leL_len h.2]
theorem leL_at : ∀ {xs ys : List V} {i : Nat} {x y : V},leL xs ys → xs[i]? = some x → ys[i]? = some y → V.le x y
 | [],[],i,x,y,_,h,_=>by simp at h
 | a :: xs,b :: ys,i,x,y,h,h1,h2=>by
  cases i with
  | zero=>simp at h1 h2; subst h1; subst h2; exact h.1
  | succ i=>simp at h1 h2; exact leL_at h.2 h1 h2
theorem leL_rels {G : Cx} {xs ys : List V} {vs : List Value} (h : leL xs ys) (r : rels G xs vs) : rels G ys vs := by
 refine ⟨by rw [← leL_len h]; exact r.1,fun i y v h1 h2=>?_⟩
 have hi : i < xs.length := by rw [leL_len h]; exact getElem_lt h1
 exact (leL_at h (List.getElem?_eq_getElem hi) h1).rel (r.2 i xs[i] v (List.getElem?_eq_getElem hi) h2)
theorem leL_refl : ∀ xs : List V,leL xs xs
 | []=>trivial
 | x :: xs=>⟨.refl x,leL_refl xs⟩
def leO : List (List V) → List (List V) → Prop
 | _,[]=>True
 | x :: xs,y :: ys=>leL x y ∧ leO xs ys
 | [],_ :: _=>False
theorem leO_at : ∀ {xs ys : List (List V)} {i : Nat} {y : List V},leO xs ys → ys[i]? = some y → ∃ x,xs[i]? = some x ∧ leL x y
 | [],[],i,y,_,h=>by simp at h
 | _ :: _,[],i,y,_,h=>by simp at h
 | a :: xs,b :: ys,i,y,h,h2=>by
  cases i with
  | zero=>simp at h2; subst h2; exact ⟨a,by simp,h.1⟩
  | succ i=>simp at h2; obtain ⟨x,h3,h4⟩ := leO_at h.2 h2; exact ⟨x,by simpa using h3,h4⟩
theorem leL_mapc {ik : IntKind} {kvs : List (Int × D)} {ys : List V} (h : leL [.mapc ik kvs] ys) : ys = [.mapc ik kvs] := by
 match ys,h with
 | [y],h =>
  have h1 := h.1
  cases h1 with
  | refl=>rfl
  | undef _ q=>cases q
theorem leL_rowc {e : TypeId} {ver : Nat} {es : List (List D)} {ys : List V} (h : leL [.rowc e ver es] ys) : ys = [.rowc e ver es] := by
 match ys,h with
 | [y],h =>
  have h1 := h.1
  cases h1 with
  | refl=>rfl
  | undef _ q=>cases q
def leS (s t : Sg) : Prop := leO s.obs t.obs ∧ t.lns = s.lns.take t.lns.length
def okF (s0 : Sg) (fr : Fr) (s : Sg) : Bool := V.unders s.obs.length s.lns.length fr && allUnder s.obs.length s.lns.length s.obs && decide (s0.obs.length ≤ s.obs.length) && decide (s0.lns.length ≤ s.lns.length)
theorem allUnder_at {n m : Nat} : ∀ {l : List (List V)} {k : Nat} {cs : List V},allUnder n m l = true → l[k]? = some cs → V.unders n m cs = true
 | [],k,cs,_,h=>by simp at h
 | c :: l,k,cs,ha,h=>by
  simp only [allUnder,Bool.and_eq_true] at ha
  cases k with
  | zero=>simp at h; subst h; exact ha.1
  | succ k=>simp at h; exact allUnder_at ha.2 h
theorem FR_le {G : Cx} {fr F : Fr} {a : Act} (h : FR G fr a) (hl : leL fr F) : FR G F a := by
 refine ⟨by rw [← leL_len hl]; exact h.1,fun t=>?_⟩
 have h2 := h.2 t
 rw [List.getD_eq_getElem?_getD] at h2 ⊢
 cases hF : F[t]? with
 | none=>exact .undef _
 | some y =>
  have hi : t < fr.length := by rw [leL_len hl]; exact getElem_lt hF
  rw [List.getElem?_eq_getElem hi] at h2
  exact (leL_at hl (List.getElem?_eq_getElem hi) hF).rel h2
theorem FR_unders {G : Cx} {fr : Fr} {a : Act} {n m : Nat} (h : FR G fr a) (hu : V.unders n m fr = true) : FR (G.restr n m) fr a := by
 refine ⟨h.1,fun t=>rel_restr (h.2 t) ?_⟩
 rw [List.getD_eq_getElem?_getD]
 cases hx : fr[t]? with
 | none=>rfl
 | some x=>exact unders_at hu hx
theorem HR_le {P : Program} {w0 w : World} {G : Cx} {s S : Sg} (h : HR P w0 w G s) (hl : leS s S) (hu : allUnder S.obs.length S.lns.length S.obs = true) : HR P w0 w (G.restr S.obs.length S.lns.length) S := by
 have ho : ∀ k b,(G.restr S.obs.length S.lns.length).ob k = some b → k < S.obs.length ∧ G.ob k = some b := by
  intro k b q
  simp only [Cx.restr] at q
  split at q
  ·exact ⟨‹_›,q⟩
  ·cases q
 have hv : ∀ t L',(G.restr S.obs.length S.lns.length).lv t = some L' → t < S.lns.length ∧ G.lv t = some L' := by
  intro k b q
  simp only [Cx.restr] at q
  split at q
  ·exact ⟨‹_›,q⟩
  ·cases q
 have hm : ∀ k b,(G.restr S.obs.length S.lns.length).mp k = some b → k < S.obs.length ∧ G.mp k = some b := by
  intro k b q
  simp only [Cx.restr] at q
  split at q
  ·exact ⟨‹_›,q⟩
  ·cases q
 have hrv : ∀ k L',(G.restr S.obs.length S.lns.length).rv k = some L' → k < S.obs.length ∧ G.rv k = some L' := by
  intro k b q
  simp only [Cx.restr] at q
  split at q
  ·exact ⟨‹_›,q⟩
  ·cases q
 refine ⟨h.kp,h.fs,h.fb,?_,?_,?_,?_,?_,?_,h.gb,fun k b q=>?_,fun k b q=>?_,fun k k' b q q'=>h.mpi k k' b (hm k b q).2 (hm k' b q').2,fun k b q=>?_,fun k L q=>?_,fun k k' L L' b q q'=>h.rvi k k' L L' b (hrv k L q).2 (hrv k' L' q').2,h.tgs⟩
 ·intro k b q
  obtain ⟨q1,q2⟩ := ho k b q
  rw [List.getElem?_eq_getElem q1]; simp
 ·intro k cs q hmk hrk
  have q' : S.obs[k]? = some cs := q
  have hkn : k < S.obs.length := getElem_lt q'
  obtain ⟨cs0,hx,hle⟩ := leO_at hl.1 q'
  obtain ⟨b,vs,t,h1,h2,h3,h4,h5⟩ := h.obl k cs0 hx (by simpa [Cx.restr,hkn] using hmk) (by simpa [Cx.restr,hkn] using hrk)
  have h4' := leL_rels hle h4
  refine ⟨b,vs,t,by simp [Cx.restr,hkn,h1],h2,h3,⟨h4'.1,fun i x v a1 a2=>rel_restr (h4'.2 i x v a1 a2) (unders_at (allUnder_at hu q') a1)⟩,h5⟩
 ·intro k k' b q q'
  exact h.obi k k' b (ho k b q).2 (ho k' b q').2
 ·intro t L' q
  obtain ⟨q1,q2⟩ := hv t L' q
  rw [List.getElem?_eq_getElem q1]; simp
 ·intro t e n' q
  have q' : S.lns[t]? = some (e,n') := q
  have htm : t < S.lns.length := getElem_lt q'
  rw [hl.2,List.getElem?_take,if_pos htm] at q'
  obtain ⟨v,xs,h1,h2,h3⟩ := h.lvl t e n' q'
  exact ⟨v,xs,by simp [Cx.restr,htm,h1],h2,fun b hb=>⟨fun k q=>(h3 b hb).1 k (ho k b q).2,(h3 b hb).2⟩⟩
 ·intro t t' L1 L2 b q q' h1 h2
  exact h.lvi t t' L1 L2 b (hv t L1 q).2 (hv t' L2 q').2 h1 h2
 ·obtain ⟨q1,q2⟩ := ho k b q
  simp [Cx.restr,h.obm k b q2]
 ·obtain ⟨q1,q2⟩ := hm k b q
  obtain ⟨h1,es,c,ik,kvs,h2,h3,h4⟩ := h.mpl k b q2
  obtain ⟨cs0,hx,hle⟩ := leO_at hl.1 (List.getElem?_eq_getElem q1)
  have h2' : s.obs[k]? = some [.mapc ik kvs] := h2
  rw [hx] at h2'; injection h2' with h2'; subst h2'
  refine ⟨h1,es,c,ik,kvs,?_,h3,h4⟩
  show S.obs[k]? = _
  rw [List.getElem?_eq_getElem q1]
  exact congrArg some (leL_mapc hle)
 ·obtain ⟨q1,q2⟩ := ho k b q
  simp [Cx.restr,h.obr k b q2]
 ·obtain ⟨q1,q2⟩ := hrv k L q
  obtain ⟨e,es,xs,h1,h2,h3,h4,h5,h6⟩ := h.rvl k L q2
  obtain ⟨cs0,hx,hle⟩ := leO_at hl.1 (List.getElem?_eq_getElem q1)
  have h1' : s.obs[k]? = some [.rowc e L.n es] := h1
  rw [hx] at h1'; injection h1' with h1'; subst h1'
  refine ⟨e,es,xs,?_,h2,h3,h4,h5,fun b hb=>⟨fun j q=>(h6 b hb).1 j (ho j b q).2,(h6 b hb).2.1,fun t L' q=>(h6 b hb).2.2 t L' (hv t L' q).2⟩⟩
  show S.obs[k]? = _
  rw [List.getElem?_eq_getElem q1]
  exact congrArg some (leL_rowc hle)
theorem le_restr2 {P : Program} {w0 w : World} {G G' : Cx} {s : Sg} {n m : Nat} (h : HR P w0 w G s) (hle : G.le G') (hn : s.obs.length ≤ n) (hm : s.lns.length ≤ m) : G.le (G'.restr n m) := by
 refine ⟨hle.base,hle.F,fun k b q=>?_,fun t L q=>?_,fun k b q=>?_,fun k L q=>?_,hle.tg⟩
 ·have := h.obd k b q
  have hk : k < n := by
   rcases Nat.lt_or_ge k s.obs.length with z | z
   ·omega
   ·exact absurd (List.getElem?_eq_none z) this
  simp only [Cx.restr,if_pos hk]
  exact hle.ob k b q
 ·have := h.lvd t L q
  have hk : t < m := by
   rcases Nat.lt_or_ge t s.lns.length with z | z
   ·omega
   ·exact absurd (List.getElem?_eq_none z) this
  simp only [Cx.restr,if_pos hk]
  exact hle.lv t L q
 ·obtain ⟨_,es,c,ik,kvs,h2,_⟩ := h.mpl k b q
  have hk : k < n := Nat.lt_of_lt_of_le (getElem_lt h2) hn
  simp only [Cx.restr,if_pos hk]
  exact hle.mp k b q
 ·obtain ⟨e,es,xs,h2,_⟩ := h.rvl k L q
  have hk : k < n := Nat.lt_of_lt_of_le (getElem_lt h2) hn
  simp only [Cx.restr,if_pos hk]
  exact hle.rv k L q
theorem okF_ok {s0 : Sg} {fr : Fr} {s : Sg} (h : okF s0 fr s = true) : V.unders s.obs.length s.lns.length fr = true ∧ allUnder s.obs.length s.lns.length s.obs = true ∧ s0.obs.length ≤ s.obs.length ∧ s0.lns.length ≤ s.lns.length := by
 simp only [okF,Bool.and_eq_true,decide_eq_true_eq] at h
 exact ⟨h.1.1.1,h.1.1.2,h.1.2,h.2⟩
section
variable {P : Program} {g : Pg P} {Q : SQ} {fr : Fr} {s : Sg}
theorem SWs.weak {x : Code} (h : SWs g x (fun e fr' s'=>match e with | .normal=>∃ F S,okF s F S = true ∧ leL fr' F ∧ leS s' S ∧ Q .normal F S | e=>Q e fr' s') fr s) : SWs g x Q fr s := by
 intro hdr w0 G0 G a w h0 hH hfr hd
 refine Code.wp_mono ?_ (h hdr w0 G G a w (Cx.le.refl G) hH hfr hd)
 rintro e a w ⟨G',fr',s',q1,q2,q3,q4,q5⟩
 cases e with
 | normal =>
  obtain ⟨F,S,ho,q6,q7,q8⟩ := q5
  obtain ⟨o1,o2,o3,o4⟩ := okF_ok ho
  exact ⟨_,F,S,h0.trans (le_restr2 hH q1 o3 o4),HR_le q2 q7 o2,FR_unders (FR_le q3 q6) o1,q4,q8⟩
 | _=>exact ⟨G',fr',s',h0.trans q1,q2,q3,q4,q5⟩
def SWr {P : Program} (g : Pg P) (c : Code) (Q : SQ) : Nat → Fr → Sg → Prop
 | 0,_,_=>False
 | n + 1,fr,s=>SWs g c (seqQ (SWr g c Q n) Q) fr s
theorem SWs.rounds {c : Code} (n : Nat) (h : SWr g c Q n fr s) : SWs g (.loop c) Q fr s := by
 intro hdr w0 G0 G a w hG hH hfr hd
 refine wp_loop_idx (fun m a w=>∃ G' fr1 s1,G0.le G' ∧ HR P w0 w G' s1 ∧ FR G' fr1 a ∧ a.defers = [] ∧ SWr g c Q m fr1 s1) (n := n) ⟨G,fr,s,hG,hH,hfr,hd,h⟩ ?_
 rintro m a w ⟨G',fr1,s1,k1,k2,k3,k4,k5⟩
 cases m with
 | zero=>exact k5.elim
 | succ m =>
  refine Code.wp_mono ?_ (k5 hdr w0 G0 G' a w k1 k2 k3 k4)
  intro e a w q
  obtain ⟨G2,fr2,s2,q1,q2,q3,q4,q5⟩ := q
  cases e with
  | normal=>exact ⟨m,Nat.lt_succ_self m,G2,fr2,s2,q1,q2,q3,q4,q5⟩
  | _=>exact ⟨G2,fr2,s2,q1,q2,q3,q4,q5⟩
theorem SWs.loop2 {c : Code} (I : Nat → Fr → Sg → Prop) (n : Nat) (hI : ∀ m fr1 s1,I m fr1 s1 → okF s fr1 s1 = true) (h0 : ∃ F S,okF s F S = true ∧ leL fr F ∧ leS s S ∧ I n F S)
  (hr : ∀ m fr1 s1,I m fr1 s1 → SWs g c (seqQ (fun fr' s'=>∃ m' F S,m' < m ∧ leL fr' F ∧ leS s' S ∧ I m' F S) Q) fr1 s1) : SWs g (.loop c) Q fr s := by
 intro hdr w0 G0 G a w hG hH hfr hd
 obtain ⟨F,S,ho,hf,hs,hi⟩ := h0
 obtain ⟨o1,o2,o3,o4⟩ := okF_ok ho
 refine wp_loop_idx (fun m a w=>∃ G' fr1 s1,G.le G' ∧ HR P w0 w G' s1 ∧ FR G' fr1 a ∧ a.defers = [] ∧ I m fr1 s1) (n := n) ⟨_,F,S,le_restr2 hH (Cx.le.refl G) o3 o4,HR_le hH hs o2,FR_unders (FR_le hfr hf) o1,hd,hi⟩ ?_
 rintro m a w ⟨G',fr1,s1,k1,k2,k3,k4,k5⟩
 refine Code.wp_mono ?_ (hr m fr1 s1 k5 hdr w0 G G' a w k1 k2 k3 k4)
 intro e a w q
 obtain ⟨G2,fr2,s2,q1,q2,q3,q4,q5⟩ := q
 cases e with
 | normal =>
  obtain ⟨m',F',S',q6,q7,q8,q9⟩ := q5
  obtain ⟨p1,p2,p3,p4⟩ := okF_ok (hI _ _ _ q9)
  exact ⟨m',q6,G2.restr S'.obs.length S'.lns.length,F',S',le_restr2 hH q1 p3 p4,HR_le q2 q8 p2,FR_unders (FR_le q3 q7) p1,q4,q9⟩
 | _=>exact ⟨G2,fr2,s2,hG.trans q1,q2,q3,q4,q5⟩
end
abbrev U : V := .undef
section
variable {P : Program} {g : Pg P} {fr : Fr} {s : Sg} {ε ν : Type} {Φ : ε → SQ} {m : Option ε}
def Mir {P : Program} (g : Pg P) (c : Code) (fr : Fr) (s : Sg) {ε : Type} (m : Option ε) (Φ : ε → SQ) : Prop := ∀ e,m = some e → SWs g c (Φ e) fr s
theorem Mir.use {c : Code} {e : ε} (h : Mir g c fr s m Φ) (hm : m = some e) : SWs g c (Φ e) fr s := h e hm
theorem Mir.bind {α : Type} {c : Code} {x : Option α} {f : α → Option ε} (h : ∀ y,x = some y → Mir g c fr s (f y) Φ) : Mir g c fr s (bindO x f) Φ := by
 intro e he
 obtain ⟨y,h1,h2⟩ := bindO_some he
 exact h y h1 e h2
theorem Mir.guard {c : Code} {b : Bool} (h : b = true → Mir g c fr s m Φ) : Mir g c fr s (guardO b m) Φ := by
 intro e he
 obtain ⟨h1,h2⟩ := guardO_some he
 exact h h1 e h2
theorem Mir.ite {c : Code} {b : Bool} {m1 m2 : Option ε} (h1 : b = true → Mir g c fr s m1 Φ) (h2 : b = false → Mir g c fr s m2 Φ) : Mir g c fr s (if b = true then m1 else m2) Φ := by
 cases b with
 | true=>exact h1 rfl
 | false=>exact h2 rfl
theorem Mir.skip (h : ∀ e,m = some e → Φ e .normal fr s) : Mir g .skip fr s m Φ := fun e he=>SWs.skip (h e he)
theorem Mir.ret (h : ∀ e,m = some e → Φ e .ret fr s) : Mir g .ret fr s m Φ := fun e he=>SWs.ret (h e he)
theorem Mir.exit {id : Nat} (h : ∀ e,m = some e → Φ e (.exit id) fr s) : Mir g (.exit id) fr s m Φ := fun e he=>SWs.exit (h e he)
theorem Mir.region {id : Nat} {ops : Array Oper} (h : ∀ e,m = some e → regS g false ops ops.toList fr s (Φ e .normal)) : Mir g (.region id ops false) fr s m Φ := fun e he=>SWs.region (h e he)
theorem Mir.regionD {id : Nat} {ops : Array Oper} (L : List (Tmp × Tmp)) (hL : (drawOk ops,seps ops) = (true,L)) (h : ∀ e,m = some e → regS g true ops ops.toList fr s (fun fr' s'=>sepL L fr' = true ∧ Φ e .normal fr' s')) : Mir g (.region id ops true) fr s m Φ := fun e he=>SWs.regionD hL (h e he)
theorem sepL_nil {fr : Fr} : sepL [] fr = true := rfl
theorem sepL_cons {a b : Tmp} {r : List (Tmp × Tmp)} {fr : Fr} : sepL ((a,b) :: r) fr = (sepV (fr.getD a .undef) (fr.getD b .undef) && sepL r fr) := nr rfl
theorem sepV_ne {k k' o o' : Nat} (h : (k == k') = false) : sepV (.ptr k o) (.ptr k' o') = true := by simp at h; simp [sepV,h]
theorem sepV_d {d : D} {y : V} : sepV (.d d) y = true := nr rfl
theorem sepV_i {cs : List D} {o : Nat} {y : V} : sepV (.iptr cs o) y = true := nr rfl
def kQ {P : Program} (g : Pg P) (y : Code) (Φ : ε → SQ) (e : ε) : SQ := seqQ (SWs g y (Φ e)) (Φ e)
def bQ (id : Nat) (Φ : ε → SQ) (e : ε) : SQ := blockQ id (Φ e)
theorem Mir.seqK {x y : Code} (h : Mir g x fr s m (kQ g y Φ)) : Mir g (.seq x y) fr s m Φ := fun e he=>SWs.seq (h e he)
theorem Mir.block {id : Nat} {c : Code} (h : Mir g c fr s m (bQ id Φ)) : Mir g (.block id c) fr s m Φ := fun e he=>SWs.block (h e he)
theorem Mir.cond {o : Operand} {x y : Code} {b : Bool} {m1 m2 : Option ε} (hb : evalO fr o = .d (.bool b)) (hx : b = true → Mir g x fr s m1 Φ) (hy : b = false → Mir g y fr s m2 Φ) : Mir g (.cond o x y) fr s (if b = true then m1 else m2) Φ := by
 intro e he
 refine SWs.cond hb (fun h=>?_) (fun h=>?_)
 ·rw [if_pos h] at he; exact hx h e he
 ·rw [if_neg (by rw [h]; exact Bool.false_ne_true)] at he; exact hy h e he
theorem Mir.condT {o : Operand} {x y : Code} (hb : evalO fr o = .d (.bool true)) (hx : Mir g x fr s m Φ) : Mir g (.cond o x y) fr s m Φ :=
 fun e he=>SWs.cond hb (fun _=>hx e he) (fun h=>by cases h)
theorem Mir.condF {o : Operand} {x y : Code} (hb : evalO fr o = .d (.bool false)) (hy : Mir g y fr s m Φ) : Mir g (.cond o x y) fr s m Φ :=
 fun e he=>SWs.cond hb (fun h=>by cases h) (fun _=>hy e he)
theorem Mir.gh {c : Code} (gh : List Gh) {fr0 : Fr} {s0 : Sg} (hgh : ghS gh fr s = some (fr0,s0)) (h : Mir g c fr0 s0 m Φ) : Mir g c fr s m Φ := fun e he=>SWs.gh gh hgh (h e he)
def JQ (F : ν → Fr) (S : ν → Sg) (Φ : ε → SQ) : Ex ε ν → SQ
 | .ret e=>seqQ (fun _ _=>False) (Φ e)
 | .go v=>fun x fr s=>x = .normal ∧ leL fr (F v) ∧ leS s (S v)
def JO (F : ν → Fr) (S : ν → Sg) (v : ν) : SQ := fun x fr s=>x = .normal ∧ leL fr (F v) ∧ leS s (S v)
theorem Mir.join {x : Code} (F : ν → Fr) (S : ν → Sg) {m1 : Option (Ex ε ν)} {f : ν → Option ε} (ho : ∀ v,okF s (F v) (S v) = true)
  (hx : Mir g x fr s m1 (JQ F S Φ)) (hy : ∀ v e,f v = some e → Φ e .normal (F v) (S v)) : Mir g x fr s (bindX m1 f) Φ := by
 intro e he
 cases m1 with
 | none=>cases he
 | some z =>
  cases z with
  | ret r =>
   have : r = e := Option.some.inj he
   subst this
   refine (hx _ rfl).mono ?_
   intro x fr s q
   cases x with
   | normal=>exact q.elim
   | _=>exact q
  | go v =>
   refine SWs.weak ((hx _ rfl).mono ?_)
   rintro x fr s ⟨rfl,q1,q2⟩
   exact ⟨F v,S v,ho v,q1,q2,hy v e he⟩
theorem Mir.joinO {x : Code} (F : ν → Fr) (S : ν → Sg) {m1 : Option ν} {f : ν → Option ε} (ho : ∀ v,okF s (F v) (S v) = true)
  (hx : Mir g x fr s m1 (JO F S)) (hy : ∀ v e,f v = some e → Φ e .normal (F v) (S v)) : Mir g x fr s (bindO m1 f) Φ := by
 intro e he
 obtain ⟨v,h1,h2⟩ := bindO_some he
 refine SWs.weak ((hx _ h1).mono ?_)
 rintro x fr s ⟨rfl,q1,q2⟩
 exact ⟨F v,S v,ho v,q1,q2,hy v e h2⟩
theorem Mir.joinV {x : Code} (F : Fr) (S : Sg) (ho : okF s F S = true) (hx : SWs g x (fun e fr s=>e = .normal ∧ leL fr F ∧ leS s S) fr s) (hy : ∀ e,m = some e → Φ e .normal F S) : Mir g x fr s m Φ := by
 intro e he
 refine SWs.weak (hx.mono ?_)
 rintro x fr s ⟨rfl,q1,q2⟩
 exact ⟨F,S,ho,q1,q2,hy e he⟩
def nQ {P : Program} (g : Pg P) (c : Code) (n : Nat) (Φ : ε → SQ) (e : ε) : SQ := seqQ (SWr g c (Φ e) n) (Φ e)
theorem Mir.loopR {c : Code} (n : Nat) (h : Mir g c fr s m (nQ g c n Φ)) : Mir g (.loop c) fr s m Φ := fun e he=>SWs.rounds (n + 1) (h e he)
theorem Mir.useN {c : Code} {n : Nat} {e : ε} (h : Mir g c fr s m (nQ g c n Φ)) (he : m = some e) : nQ g c (n + 1) Φ e .normal fr s := h e he
def rangeX {α ε ν : Type} (f : Nat → α → ν → Option (Ex ε ν)) (d : ν → Option ε) : List α → Nat → ν → Option ε
 | [],_,v=>d v
 | x :: l,i,v=>match f i x v with | none=>none | some (.ret e)=>some e | some (.go v')=>rangeX f d l (i + 1) v'
def okIdx {α : Type} (l : List α) : Bool := Nat.ble l.length 9223372036854775807
def DQ (Φ : ε → SQ) (e : ε) : SQ := seqQ (fun _ _=>False) (Φ e)
theorem wrap_next {n : Nat} (h : n < 9223372036854775807) : IntKind.i64.wrap ((n : Int) + 1) = ((n + 1 : Nat) : Int) := by
 rw [wrap_succ n h]; omega
theorem Mir.range {α : Type} {c : Code} {l : List α} (F : Nat → ν → Fr) (S : Nat → ν → Sg) {f : Nat → α → ν → Option (Ex ε ν)} {d : ν → Option ε} {v0 : ν} (hl : okIdx l = true) (ho : ∀ i v,okF s (F i v) (S i v) = true) (h0 : leL fr (F 0 v0)) (h1 : leS s (S 0 v0))
  (hc : ∀ (i : Nat) (x : α) (v : ν),(l[i]? = some x ∧ decide ((i : Int) < (l.length : Int)) = true ∧ IntKind.i64.wrap ((i : Int) + 1) = ((i + 1 : Nat) : Int) ∧ ((i : Int) < 0) = False ∧ (i : Int).toNat = i) → Mir g c (F i v) (S i v) (f i x v) (JQ (F (i + 1)) (S (i + 1)) Φ))
  (hd : ∀ v,decide ((l.length : Int) < (l.length : Int)) = false → Mir g c (F l.length v) (S l.length v) (d v) (DQ Φ)) : Mir g (.loop c) fr s (rangeX f d l 0 v0) Φ := by
 intro e he
 have hl' : l.length ≤ 9223372036854775807 := Nat.le_of_ble_eq_true hl
 refine SWs.loop2 (fun k fr s=>∃ i v,(k + i = l.length + 1 ∧ i ≤ l.length) ∧ fr = F i v ∧ s = S i v ∧ rangeX f d (l.drop i) i v = some e) (l.length + 1) ?_ ⟨F 0 v0,S 0 v0,ho 0 v0,h0,h1,0,v0,⟨rfl,Nat.zero_le _⟩,rfl,rfl,he⟩ ?_
 ·rintro k fr1 s1 ⟨i,v,_,rfl,rfl,_⟩
  exact ho i v
 rintro k fr1 s1 ⟨i,v,hk,rfl,rfl,hv⟩
 rcases Nat.lt_or_ge i l.length with hi | hi
 ·have hx := List.getElem?_eq_getElem hi
  rw [List.drop_eq_getElem_cons hi] at hv
  simp only [rangeX] at hv
  have hcc := hc i l[i] v ⟨hx,decide_eq_true (by omega),wrap_next (by omega),eq_false (by omega),by simp⟩
  cases hf : f i l[i] v with
  | none=>rw [hf] at hv; cases hv
  | some z =>
   refine (hcc z hf).mono ?_
   rw [hf] at hv
   cases z with
   | ret r =>
    have : r = e := Option.some.inj hv
    subst this
    intro x fr s q
    cases x with
    | normal=>exact q.elim
    | _=>exact q
   | go v' =>
    rintro x fr s ⟨rfl,q2,q3⟩
    exact ⟨k - 1,F (i + 1) v',S (i + 1) v',by omega,q2,q3,i + 1,v',by omega,rfl,rfl,hv⟩
 ·have : i = l.length := by omega
  subst this
  rw [List.drop_length] at hv
  simp only [rangeX] at hv
  refine (hd v (decide_eq_false (by omega)) e hv).mono ?_
  intro x fr s q
  cases x with
  | normal=>exact q.elim
  | _=>exact q
theorem Mir.loop {c : Code} (F : ν → Fr) (S : ν → Sg) {f : ν → Option (Ex ε ν)} {n : Nat} {v0 : ν} (ho : ∀ v,okF s (F v) (S v) = true) (h0 : leL fr (F v0)) (h1 : leS s (S v0))
  (hc : ∀ v,Mir g c (F v) (S v) (f v) (JQ F S Φ)) : Mir g (.loop c) fr s (loopX f n v0) Φ := by
 intro e he
 refine SWs.loop2 (fun k fr s=>∃ v,fr = F v ∧ s = S v ∧ loopX f k v = some e) n ?_ ⟨F v0,S v0,ho v0,h0,h1,v0,rfl,rfl,he⟩ ?_
 ·rintro k fr1 s1 ⟨v,rfl,rfl,_⟩
  exact ho v
 rintro k fr1 s1 ⟨v,rfl,rfl,hv⟩
 cases k with
 | zero=>cases hv
 | succ k =>
  cases hf : f v with
  | none=>rw [loopX,hf] at hv; cases hv
  | some z =>
   refine (hc v z hf).mono ?_
   rw [loopX,hf] at hv
   cases z with
   | ret r =>
    have : r = e := Option.some.inj hv
    subst this
    intro x fr s q
    cases x with
    | normal=>exact q.elim
    | _=>exact q
   | go v' =>
    rintro x fr s ⟨rfl,q2,q3⟩
    exact ⟨k,F v',S v',Nat.lt_succ_self k,q2,q3,v',rfl,rfl,hv⟩
def inQ {P : Program} (g : Pg P) (rs : List ResultVar) (Y : ν → V) (S : ν → Sg) (v : ν) : SQ := retQ g rs (fun y s'=>V.le y (Y v) ∧ leS s' (S v))
theorem SpecS.inl {f : FuncId} {fn : Func} {c : Code} (hf : P.funcs[f]? = some fn) (hb : fn.body = some c) (he : enterable P f = true) (hdr : drawsOk c = true) {args : List V} {R : V → Sg → Prop} (Y : ν → V) (S : ν → Sg) {m1 : Option ν} {v : ν}
  (hm : m1 = some v) (ho : okF s [Y v] (S v) = true) (h : Mir g c (args ++ List.replicate (fn.ntmps - args.length) .undef) s m1 (inQ g fn.results.toList Y S)) (hR : R (Y v) (S v)) : SpecS g f args s R := by
 have hs := specS_by hf hb he hdr (h v hm)
 obtain ⟨o1,o2,o3,o4⟩ := okF_ok ho
 simp only [V.unders,Bool.and_eq_true] at o1
 refine ⟨he,fun w0 w G vs hH hr=>(hs.2 w0 w G vs hH hr).mono ?_⟩
 rintro e w' ⟨u,y,s',G',q1,q2,q3,q4,q5,q6⟩
 exact ⟨u,Y v,S v,_,q1,le_restr2 hH q2 o3 o4,HR_le q3 q6 o2,rel_restr (q5.rel q4) o1.1,hR⟩
theorem Mir.toK {y : Code} (h : Mir g y fr s m Φ) : ∀ e,m = some e → kQ g y Φ e .normal fr s := h
theorem Mir.toB {id : Nat} (h : ∀ e,m = some e → Φ e .normal fr s) : ∀ e,m = some e → bQ id Φ e .normal fr s := h
def fnQ {P : Program} (g : Pg P) (rs : List ResultVar) {ρ : Type} (en : ρ → V) (r : ρ) : SQ := retQ g rs (fun y _=>y.clean = en r)
theorem spec_mir {f : FuncId} {fn : Func} {c : Code} (hf : P.funcs[f]? = some fn) (hb : fn.body = some c) (he : enterable P f = true) (hdr : drawsOk c = true) {args : List V} {ρ : Type} (en : ρ → V) {m : Option ρ}
  (h : Mir g c (args ++ List.replicate (fn.ntmps - args.length) .undef) ⟨[],[]⟩ m (fnQ g fn.results.toList en)) {y : ρ} (hy : m = some y) : Spec g f args (en y) := spec_by hf hb he hdr (h y hy)
def fnF {P : Program} (g : Pg P) (rs : List ResultVar) {ρ : Type} (en : ρ → V) (r : ρ) : SQ := retQ g rs (fun y _=>y.cleanF = en r)
theorem specF_mir {f : FuncId} {fn : Func} {c : Code} (hf : P.funcs[f]? = some fn) (hb : fn.body = some c) (he : enterable P f = true) (hdr : drawsOk c = true) {args : List V} {ρ : Type} (en : ρ → V) {m : Option ρ}
  (h : Mir g c (args ++ List.replicate (fn.ntmps - args.length) .undef) ⟨[],[]⟩ m (fnF g fn.results.toList en)) {y : ρ} (hy : m = some y) : Spec g f args (en y) := specF_by hf hb he hdr (h y hy)
end
end Go.Proofs.YtjgngikiglhleaaGreatDoor
namespace Go.Proofs.YtjgngikiglhleaaGreatDoor
open Go.RowKit
set_option linter.unusedVariables false
def optK {α : Type} (x : Option α) (f : α → Prop) : Prop := match x with | some v=>f v | none=>False
def contV (F : Fr → Sg → (Fr → Sg → Prop) → Prop) (K : Fr → Sg → Prop) (fr : Fr) (dst : Option Tmp) (s : Sg) (v : V) : Prop := F (putF fr dst v) s K
def contE (F : Fr → Sg → (Fr → Sg → Prop) → Prop) (K : Fr → Sg → Prop) (fr : Fr) (dst : Option Tmp) (s : Sg) (p : V × Ef) : Prop := F (putF fr dst p.1) (p.2.sg s) K
def kS {P : Program} (g : Pg P) (s : Sg) (R : V → Sg → Prop) (fid : FuncId) (xs : List V) : Prop := SpecS g fid xs s R
def kD {P : Program} (g : Pg P) (R : V → Prop) (fid : FuncId) (xs : List V) : Prop := callD g fid (xs.map V.cleanF) R
def callF (f : V) (xs : List V) (c : FuncId → List V → Prop) : Prop := match f with | .fn fid caps=>c fid (xs ++ caps) | _=>False
def pickV (c a b : V) : Option V := match c with | .d (.bool t)=>some (if t then a else b) | _=>none
def nilV (x : V) : Option V := match x with | .ptr k off=>some (.ptr k off) | .iptr cs off=>some (.iptr cs off) | _=>none
def allocV (z : Option V) (k : Nat) : Option (V × Ef) := match z with | some z=>(match z.cells? with | some cs=>some (.ptr k 0,.alloc cs) | none=>none) | none=>none
def loadV (P : Program) (s : Sg) (ty : TypeId) (a : V) : Option V := match a with
  | .ptr j off=>match s.obs[j]? with | some cs=>partV P ty cs off | none=>none
  | .iptr cs off=>partV P ty (dcells cs) off
  | .d (.other (.pointer (some ⟨b,off,none⟩)))=>match glT b with | some cs=>partV P ty (dcells cs) off | none=>none
  | _=>none
def storeV (P : Program) (s : Sg) (ty : TypeId) (a x : V) : Option (V × Ef) := match a with
  | .ptr j off=>match s.obs[j]?,x.cells?,sizeT P ty with
   | some cs,some xs,some n=>if xs.length = n ∧ off + n ≤ cs.length ∧ xs.all V.one = true then some (.undef,.store j (splice cs off xs)) else none
   | _,_,_=>none
  | _=>none
def aggEq (k : Option (List SK)) (x y : Option (List D)) (eq : Bool) : Option V := match k,x,y with
  | some ks,some ds,some es=>if ds.map D.kind? = ks.map some ∧ es.map D.kind? = ks.map some then some (.d (.bool (if eq then eqAll ds es else !(eqAll ds es)))) else none
  | _,_,_=>none
def convB (b : Bool) (x : Option V) : Option V := if b = true then x else none
def binW {P : Program} (g : Pg P) (op : BinOp) (t : TypeId) (x y : V) : Option V :=
 match (if sliceT P t = true then
   match y,op with
   | .nil,.eql=>match nilB x with | some b=>some (.d (.bool b)) | none=>none
   | .nil,.neq=>match nilB x with | some b=>some (.d (.bool (!b))) | none=>none
   | _,_=>none
  else none) with
 | some z=>some z
 | none=>binV g op t x y
def binX {P : Program} (g : Pg P) (op : BinOp) (t : TypeId) (yo : Operand) (x y : V) : Option V :=
 match (if sliceT P t = true then
   match y,op with
   | .nil,.eql=>match nilB x with | some b=>some (.d (.bool b)) | none=>none
   | .nil,.neq=>match nilB x with | some b=>some (.d (.bool (!b))) | none=>none
   | _,_=>none
  else if ifaceT P t = true ∧ isNilC yo = true then binN op x else none) with
 | some z=>some z
 | none=>binV g op t x y
def convW (P : Program) (a b : TypeId) (x : V) : Option V :=
 match (match x with
  | .d (.str s)=>if bytesT P b = true ∧ (P.underlying a).isSome = true then some (.d (.list (s.map fun b=>[.int .u8 b.toNat]))) else none
  | .d (.int _ n)=>if strT P b = true ∧ (P.underlying a).isSome = true then some (.d (.str (Utf8.encode n).data.toList)) else none
  | _=>none) with
 | some z=>some z
 | none=>convB (P.underlying a).isSome (convV P b x)
def toE (x : Option V) : Option (V × Ef) := match x with | some y=>some (y,.none) | none=>none
section
variable {P : Program} {g : Pg P} {dr : Bool} {ops : Array Oper} {rest : List Oper} {fr : Fr} {s : Sg} {K : Fr → Sg → Prop} {d : Option Tmp} {ty : TypeId} {p : String} {af : Array Edge}
theorem optK_toE {F : Fr → Sg → (Fr → Sg → Prop) → Prop} (x : Option V) : (match toE x with | some (y,f)=>F (putF fr d y) (f.sg s) K | none=>False) = optK x (contV F K fr d s) := by cases x <;> rfl
theorem optK_E {F : Fr → Sg → (Fr → Sg → Prop) → Prop} (x : Option (V × Ef)) : (match x with | some (y,f)=>F (putF fr d y) (f.sg s) K | none=>False) = optK x (contE F K fr d s) := by rcases x with _ | ⟨y,f⟩ <;> rfl
theorem optK_W {F : Fr → Sg → (Fr → Sg → Prop) → Prop} (e z : Option V) : (match (match e with | some y=>some (y,Ef.none) | none=>toE z) with | some (y,f)=>F (putF fr d y) (f.sg s) K | none=>False) = optK (match e with | some y=>some y | none=>z) (contV F K fr d s) := by cases e <;> cases z <;> rfl
theorem r_move {x : Operand} : regS g dr ops (⟨d,.move x,ty,p,af,none⟩ :: rest) fr s K = regS g dr ops rest (putF fr d (evalO fr x)) s K := nr rfl
theorem r_assign {x : Operand} : regS g dr ops (⟨d,.assign x,ty,p,af,none⟩ :: rest) fr s K = regS g dr ops rest (putF fr d (evalO fr x)) s K := nr rfl
theorem r_pick {c a b : Operand} : regS g dr ops (⟨d,.pick c a b,ty,p,af,none⟩ :: rest) fr s K = optK (pickV (evalO fr c) (evalO fr a) (evalO fr b)) (contV (regS g dr ops rest) K fr d s) := optK_toE _
theorem r_build {t : TypeId} {parts : Array (Nat × Operand)} : regS g dr ops (⟨d,.build t parts,ty,p,af,none⟩ :: rest) fr s K = optK (buildV P t (parts.toList.map fun q=>(q.1,evalO fr q.2))) (contV (regS g dr ops rest) K fr d s) := optK_toE _
theorem r_nilCheck {x : Operand} : regS g dr ops (⟨d,.nilCheck x,ty,p,af,none⟩ :: rest) fr s K = optK (nilV (evalO fr x)) (contV (regS g dr ops rest) K fr d s) := optK_toE _
theorem r_binOp {o : BinOp} {t t' : TypeId} {x y : Operand} : regS g dr ops (⟨d,.binOp o t x y t',ty,p,af,none⟩ :: rest) fr s K = optK (binX g o t y (evalO fr x) (evalO fr y)) (contV (regS g dr ops rest) K fr d s) := optK_W _ _
theorem r_unOp {o : UnOp} {t : TypeId} {x : Operand} : regS g dr ops (⟨d,.unOp o t x,ty,p,af,none⟩ :: rest) fr s K = optK (unV o (evalO fr x)) (contV (regS g dr ops rest) K fr d s) := optK_toE _
theorem r_convert {a b : TypeId} {x : Operand} : regS g dr ops (⟨d,.convert a b x,ty,p,af,none⟩ :: rest) fr s K = optK (convW P a b (evalO fr x)) (contV (regS g dr ops rest) K fr d s) := optK_W _ _
theorem r_makeFunc {f : FuncId} {cap : Array Operand} : regS g dr ops (⟨d,.makeFunc (.func f) #[] cap,ty,p,af,none⟩ :: rest) fr s K = regS g dr ops rest (putF fr d (.fn f (cap.toList.map (evalO fr)))) s K := nr rfl
theorem r_slice {t : TypeId} {x : Operand} {lo hi mx : Option Operand} : regS g dr ops (⟨d,.slice t x lo hi mx,ty,p,af,none⟩ :: rest) fr s K = optK (sliceV P t (evalO fr x) (lo.map (evalO fr)) (hi.map (evalO fr)) (mx.map (evalO fr))) (contV (regS g dr ops rest) K fr d s) := optK_toE _
theorem r_fieldAddr {t : TypeId} {x : Operand} {f : Nat} : regS g dr ops (⟨d,.fieldAddr t x f,ty,p,af,none⟩ :: rest) fr s K = optK (fieldAddrV P t (evalO fr x) f) (contV (regS g dr ops rest) K fr d s) := optK_toE _
theorem r_field {t : TypeId} {x : Operand} {f : Nat} : regS g dr ops (⟨d,.field t x f,ty,p,af,none⟩ :: rest) fr s K = optK (fieldV P t (evalO fr x) f) (contV (regS g dr ops rest) K fr d s) := optK_toE _
theorem r_indexAddr {t : TypeId} {x i : Operand} : regS g dr ops (⟨d,.indexAddr t x i,ty,p,af,none⟩ :: rest) fr s K = optK (indexAddrV P t (evalO fr x) (evalO fr i)) (contV (regS g dr ops rest) K fr d s) := optK_toE _
theorem r_index {t : TypeId} {x i : Operand} : regS g dr ops (⟨d,.index t x i,ty,p,af,none⟩ :: rest) fr s K = optK (indexV P t (evalO fr x) (evalO fr i)) (contV (regS g dr ops rest) K fr d s) := optK_toE _
theorem r_extract {x : Operand} {i : Nat} : regS g dr ops (⟨d,.extract x i,ty,p,af,none⟩ :: rest) fr s K = optK (extractV (evalO fr x) i) (contV (regS g dr ops rest) K fr d s) := optK_toE _
theorem r_alloc {e : TypeId} : regS g dr ops (⟨d,.alloc e,ty,p,af,none⟩ :: rest) fr s K = optK (allocV (zeroV P e) s.obs.length) (contE (regS g dr ops rest) K fr d s) := optK_E _
theorem r_box {e : TypeId} {x : Operand} : regS g dr ops (⟨d,.box e x,ty,p,af,none⟩ :: rest) fr s K = optK (allocV (some (evalO fr x)) s.obs.length) (contE (regS g dr ops rest) K fr d s) := optK_E _
theorem step_load {t : TypeId} {a : Operand} : stepS g (fun k=>s.obs[k]?) (fun t=>s.lns[t]?) s.obs.length s.lns.length ⟨d,.load t a,ty,p,af,none⟩ (evalO fr) = toE (loadV P s t (evalO fr a)) := by
 simp only [stepS,extS,stepS0,loadV]
 generalize evalO fr a = z
 split
 ·rename_i j off
  dsimp only
  cases s.obs[j]? with
  | none=>rfl
  | some cs=>rfl
 ·rfl
 ·rename_i b off
  dsimp only
  cases glT b with
  | none=>rfl
  | some cs=>rfl
 ·split <;> simp_all [toE]
theorem r_load {t : TypeId} {a : Operand} : regS g dr ops (⟨d,.load t a,ty,p,af,none⟩ :: rest) fr s K = optK (loadV P s t (evalO fr a)) (contV (regS g dr ops rest) K fr d s) := by
 refine Eq.trans ?_ (optK_toE _)
 rw [← step_load (g := g) (d := d) (ty := ty) (p := p) (af := af)]
 rfl
theorem r_store {t : TypeId} {a x : Operand} : regS g dr ops (⟨d,.store t a x,ty,p,af,none⟩ :: rest) fr s K = optK (storeV P s t (evalO fr a) (evalO fr x)) (contE (regS g dr ops rest) K fr d s) := optK_E _
theorem r_buildSlice {t : TypeId} {n : Nat} {parts : Array (Nat × Operand)} : regS g dr ops (⟨d,.buildSlice t n parts,ty,p,af,none⟩ :: rest) fr s K = optK (rowV P t n s.obs.length (parts.toList.map fun q=>(q.1,evalO fr q.2))) (contE (regS g dr ops rest) K fr d s) := optK_E _
theorem r_append {x y : Operand} {t : TypeId} : regS g dr ops (⟨d,.call ⟨.builtin .append,#[x,y],#[t,t]⟩,ty,p,af,none⟩ :: rest) fr s K = optK (match extA P [t,t] [evalO fr x,evalO fr y] with | some v=>some (v,Ef.none) | none=>appV P (fun t=>s.lns[t]?) s.lns.length t (evalO fr x) (evalO fr y)) (contE (regS g dr ops rest) K fr d s) := by
 refine Eq.trans ?_ (optK_E _)
 show (match (match extA P [t,t] [evalO fr x,evalO fr y] with | some v=>some (v,Ef.none) | none=>if t = t then appV P (fun t=>s.lns[t]?) s.lns.length t (evalO fr x) (evalO fr y) else none) with | some (y,f)=>_ | none=>False) = _
 rw [if_pos rfl]
theorem r_len {x : Operand} {t : TypeId} : regS g dr ops (⟨d,.call ⟨.builtin .len,#[x],#[t]⟩,ty,p,af,none⟩ :: rest) fr s K = optK (lenV P t (evalO fr x)) (contV (regS g dr ops rest) K fr d s) := optK_toE _
theorem r_max {args : Array Operand} {tys : Array TypeId} : regS g dr ops (⟨d,.call ⟨.builtin .max,args,tys⟩,ty,p,af,none⟩ :: rest) fr s K = optK (mmV true (args.toList.map (evalO fr))) (contV (regS g dr ops rest) K fr d s) := by
 refine Eq.trans ?_ ((optK_W (F := regS g dr ops rest) (mmV true (args.toList.map (evalO fr))) none).trans (by cases mmV true (args.toList.map (evalO fr)) <;> rfl))
 rfl
theorem r_min {args : Array Operand} {tys : Array TypeId} : regS g dr ops (⟨d,.call ⟨.builtin .min,args,tys⟩,ty,p,af,none⟩ :: rest) fr s K = optK (mmV false (args.toList.map (evalO fr))) (contV (regS g dr ops rest) K fr d s) := by
 refine Eq.trans ?_ ((optK_W (F := regS g dr ops rest) (mmV false (args.toList.map (evalO fr))) none).trans (by cases mmV false (args.toList.map (evalO fr)) <;> rfl))
 rfl
theorem r_call {f : Operand} {args : Array Operand} {tys : Array TypeId} : regS g false ops (⟨d,.call ⟨.value f,args,tys⟩,ty,p,af,none⟩ :: rest) fr s K = callF (evalO fr f) (args.toList.map (evalO fr)) (kS g s (contK (regS g false ops rest) K fr d)) := by
 show (match callS fr ⟨.value f,args,tys⟩ with | some (fid,xs)=>_ | none=>False) = _
 simp only [callS,callF,kS]
 cases evalO fr f <;> rfl
theorem r_callD {f : Operand} {args : Array Operand} {tys : Array TypeId} : regS g true ops (⟨d,.call ⟨.value f,args,tys⟩,ty,p,af,none⟩ :: rest) fr s K = callF (evalO fr f) (args.toList.map (evalO fr)) (kD g (contD (regS g true ops rest) K fr d s)) := by
 show (match callS fr ⟨.value f,args,tys⟩ with | some (fid,xs)=>_ | none=>False) = _
 simp only [callS,callF,kD]
 cases evalO fr f <;> rfl
theorem r_guard {o : Op} {j : Nat} {w : Bool} : regS g dr ops (⟨d,o,ty,p,af,some (j,w)⟩ :: rest) fr s K =
  (if wantedS ops fr ⟨d,o,ty,p,af,some (j,w)⟩ = some true then regS g dr ops (⟨d,o,ty,p,af,none⟩ :: rest) fr s K else if wantedS ops fr ⟨d,o,ty,p,af,some (j,w)⟩ = some false then regS g dr ops rest (putF fr d .skip) s K else False) := by
 simp only [regS]
 generalize wantedS ops fr ⟨d,o,ty,p,af,some (j,w)⟩ = z
 rcases z with _ | _ | _
 ·simp
 ·simp
 ·simp [wantedS]; rfl
theorem w_guard {o : Op} {j : Nat} {w : Bool} : wantedS ops fr ⟨d,o,ty,p,af,some (j,w)⟩ = (match (ops.toList[j]?).bind (·.dst) with | some t=>(match fr.getD t .undef with | .d (.bool b)=>some (b == w) | .skip=>some false | _=>none) | none=>some false) := by
 simp only [wantedS,Array.getElem?_toList]
 rfl
end
end Go.Proofs.YtjgngikiglhleaaGreatDoor
