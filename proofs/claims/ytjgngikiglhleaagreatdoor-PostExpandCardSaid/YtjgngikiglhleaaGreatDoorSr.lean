import Derived.Test.YtjgngikiglhleaaGreatDoorSy2
import Derived.MapKept
import Derived.Carry
namespace Go.Proofs.YtjgngikiglhleaaGreatDoor
open Go.RowKit
def regW {P : Program} (g : Pg P) (ops : Array Oper) (l : List Oper) (fr : Fr) (s : Sg) (K : Fr → Sg → Prop) : Prop :=
 ∀ (w0 : World) (G0 G : Cx) (a : Act) (w : World) (Q : Exit → Act → World → Prop),(∀ a w,Post g w0 G0 K a w → Q .normal a w) → G0.le G → HR P w0 w G s → FR G fr a → a.defers = [] → wpList P ops Q l a w
def altR {P : Program} (_ : Pg P) (o : Oper) (fr : Fr) (s : Sg) (R : V → Sg → Prop) : Prop :=
 ∀ (w0 w : World) (G : Cx) (a : Act),HR P w0 w G s → FR G fr a → ∃ nx w' y s' G',(execOp a.eval o).run P w = .ok nx w' ∧ ((∃ v,nx = .value v ∧ rel G' y v) ∨ (nx = .skip ∧ y = .undef)) ∧ G.le G' ∧ HR P w0 w' G' s' ∧ R y s'
theorem reg_seq2 {P : Program} {g : Pg P} {w0 : World} {G0 : Cx} {ops : Array Oper} {K : Fr → Sg → Prop} {Q : Exit → Act → World → Prop} (l2 : List Oper) (hQ : ∀ a w,Post g w0 G0 K a w → wpList P ops Q l2 a w) :
  ∀ (l : List Oper) (fr : Fr) (s : Sg) (G : Cx) (a : Act) (w : World),regS g false ops l fr s K → G0.le G → HR P w0 w G s → FR G fr a → a.defers = [] → wpList P ops Q (l ++ l2) a w
 | [],fr,s,G,a,w,h,h0,hH,hfr,hd=>hQ a w ⟨G,fr,s,h0,hH,hfr,hd,h⟩
 | o :: rest,fr,s,G,a,w,h,h0,hH,hfr,hd=>by
  unfold regS at h
  rw [List.cons_append]
  unfold wpList
  cases hw : wantedS ops fr o with
  | none=>rw [hw] at h; exact h.elim
  | some b =>
   rw [hw] at h
   rw [wanted_ok hfr hw]
   simp only at h
   cases b with
   | false =>
    rw [if_neg (by simp)] at h
    rw [if_neg (by simp)]
    exact reg_seq2 l2 hQ rest _ s G _ w h h0 hH (FR_put hfr .skip o.dst) (by rw [put_defers]; exact hd)
   | true =>
    rw [if_pos rfl] at h
    rw [if_pos rfl]
    left
    have step : (∃ y f,stepS g (fun k=>s.obs[k]?) (fun t=>s.lns[t]?) s.obs.length s.lns.length o (evalO fr) = some (y,f) ∧ regS g false ops rest (putF fr o.dst y) (f.sg s) K) → o.wp P a w (wpList P ops Q (rest ++ l2)) Q := by
     rintro ⟨y,f,hs,hrest⟩
     obtain ⟨nx,w',G',r1,r2,r3,r4⟩ := stepS_ok hH (by simp) (by simp) hfr hs
     have hfit := stepS_fits hs
     rw [← sg_obs f s hfit,← sg_lns f s hfit] at r4
     unfold Oper.wp
     rw [r1]
     rcases r2 with ⟨v,rfl,hv⟩ | ⟨rfl,rfl⟩
     ·exact reg_seq2 l2 hQ rest _ _ G' _ w' hrest (h0.trans r3) r4 (FR_put (FR_mono r3 hfr) hv o.dst) (by rw [put_defers]; exact hd)
     ·exact reg_seq2 l2 hQ rest _ _ G' _ w' hrest (h0.trans r3) r4 (FR_put (FR_mono r3 hfr) (.undef _) o.dst) (by rw [put_defers]; exact hd)
    split at h
    ·rename_i f args tys hop
     split at h
     ·rename_i fid xs hc
      rw [if_neg (by simp)] at h
      obtain ⟨he,hcall⟩ := h
      obtain ⟨vs,r1,r2⟩ := exec_call hfr hop hc he w
      unfold Oper.wp
      rw [r1]
      refine (hcall w0 w G vs hH r2).mono ?_
      rintro e w' ⟨v,y,s',G',rfl,q1,q2,q3,q4⟩
      exact reg_seq2 l2 hQ rest _ s' G' _ w' q4 (h0.trans q1) q2 (FR_put (FR_mono q1 hfr) q3 o.dst) (by rw [put_defers]; exact hd)
     ·exact h.elim
    ·split at h
     ·rename_i y f hs
      exact step ⟨y,f,hs,h⟩
     ·exact h.elim
section
variable {P : Program} {g : Pg P} {ops : Array Oper} {fr : Fr} {s : Sg} {K : Fr → Sg → Prop}
theorem regW.of {l : List Oper} (h : regS g false ops l fr s K) : regW g ops l fr s K := by
 intro w0 G0 G a w Q hQ h0 hH hfr hd
 have := reg_seq2 (g := g) (ops := ops) (Q := Q) [] (fun a w q=>by exact hQ a w q) l fr s G a w h h0 hH hfr hd
 rwa [List.append_nil] at this
theorem regW.alt {l : List Oper} (n : Nat) {o : Oper} (ho : l[n]? = some o)
  (h : regS g false ops (l.take n) fr s (fun fr' s'=>wantedS ops fr' o = some true ∧ altR g o fr' s' (fun y s''=>regW g ops (l.drop (n + 1)) (putF fr' o.dst y) s'' K))) : regW g ops l fr s K := by
 intro w0 G0 G a w Q hQ h0 hH hfr hd
 have hl : l = l.take n ++ (o :: l.drop (n + 1)) := by
  have hn := getElem_lt ho
  rw [List.getElem?_eq_getElem hn] at ho
  injection ho with ho
  rw [← ho,← List.drop_eq_getElem_cons hn,List.take_append_drop]
 rw [hl]
 refine reg_seq2 (g := g) (G0 := G0) (w0 := w0) (o :: l.drop (n + 1)) ?_ (l.take n) fr s G a w h h0 hH hfr hd
 rintro a w ⟨G',fr',s',q1,q2,q3,q4,hw,ha⟩
 unfold wpList
 rw [wanted_ok q3 hw,if_pos rfl]
 left
 obtain ⟨nx,w',y,s'',G2,r1,r2,r3,r4,r5⟩ := ha w0 w G' a q2 q3
 unfold Oper.wp
 rw [r1]
 rcases r2 with ⟨v,rfl,hv⟩ | ⟨rfl,rfl⟩
 ·exact r5 w0 G0 G2 _ w' Q hQ (q1.trans r3) r4 (FR_put (FR_mono r3 q3) hv o.dst) (by rw [put_defers]; exact q4)
 ·exact r5 w0 G0 G2 _ w' Q hQ (q1.trans r3) r4 (FR_put (FR_mono r3 q3) (.undef _) o.dst) (by rw [put_defers]; exact q4)
theorem SWs.regionW {id : Nat} {Q : SQ} (h : regW g ops ops.toList fr s (Q .normal)) : SWs g (.region id ops false) Q fr s :=
 fun _ w0 G0 G a w h0 hH hfr hd=>wp_region_list (h w0 G0 G a w (lift g w0 G0 Q) (fun _ _ q=>q) h0 hH hfr hd)
end
def mapGet : List (Int × D) → Int → Option D
 | [],_=>none
 | (k,v) :: r,n=>if n == k then some v else mapGet r n
def mapPut : List (Int × D) → Int → D → List (Int × D)
 | [],n,v=>[(n,v)]
 | (k,u) :: r,n,v=>if n == k then (k,v) :: r else (k,u) :: mapPut r n v
theorem relM_cons {F : Nat → Nat → Value → Prop} {ik : IntKind} {p : Int × D} {kvs : List (Int × D)} {es : List MapEntry} (h : relM F ik (p :: kvs) es) : ∃ e r,es = e :: r ∧ e.key = .int ik p.1 ∧ relD F p.2 e.val ∧ relM F ik kvs r := by
 cases es with
 | nil=>have := h.1; simp at this
 | cons e r =>
  have h0 := h.2 0 p e rfl rfl
  exact ⟨e,r,rfl,h0.1,h0.2,by have := h.1; simpa using this,fun i q f a b=>h.2 (i + 1) q f (by simpa using a) (by simpa using b)⟩
theorem relM_cons' {F : Nat → Nat → Value → Prop} {ik : IntKind} {p : Int × D} {kvs : List (Int × D)} {e : MapEntry} {r : List MapEntry} (h1 : e.key = .int ik p.1) (h2 : relD F p.2 e.val) (h : relM F ik kvs r) : relM F ik (p :: kvs) (e :: r) := by
 refine ⟨by simp [h.1],fun i q f a b=>?_⟩
 cases i with
 | zero=>simp at a b; subst a; subst b; exact ⟨h1,h2⟩
 | succ i=>simp at a b; exact h.2 i q f a b
theorem find_rel {F : Nat → Nat → Value → Prop} {ik ik' : IntKind} (n : Int) : ∀ (kvs : List (Int × D)) (es : List MapEntry) (i : Nat),relM F ik kvs es →
  (mapGet kvs n = none ∧ Instr.findNow (.int ik') (.int ik n) es i = some none ∧ ∀ (v : D) (e : MapEntry),e.key = .int ik n → relD F v e.val → relM F ik (mapPut kvs n v) (es ++ [e])) ∨
  (∃ d j e0,mapGet kvs n = some d ∧ Instr.findNow (.int ik') (.int ik n) es i = some (some (i + j,e0.val)) ∧ es[j]? = some e0 ∧ e0.key = .int ik n ∧ relD F d e0.val ∧ ∀ (v : D) (e : MapEntry),e.key = .int ik n → relD F v e.val → relM F ik (mapPut kvs n v) (es.set j e))
 | [],es,i,h=>by
  have : es = [] := List.eq_nil_of_length_eq_zero h.1.symm
  subst this
  exact .inl ⟨rfl,rfl,fun v e h1 h2=>relM_cons' h1 h2 ⟨rfl,fun i p e a=>by simp at a⟩⟩
 | (k,u) :: kvs,es,i,h=>by
  obtain ⟨e,r,rfl,h1,h2,h3⟩ := relM_cons h
  by_cases hk : n = k
  ·subst hk
   refine .inr ⟨u,0,e,by simp [mapGet],?_,rfl,h1,h2,fun v e' q1 q2=>?_⟩
   ·simp [Instr.findNow,Instr.sameNow,h1]
   ·simp only [mapPut,beq_self_eq_true,if_true,List.set_cons_zero]
    exact relM_cons' q1 q2 h3
  ·have hne : (n == k) = false := by simp [hk]
   rcases find_rel (ik' := ik') n kvs r (i + 1) h3 with ⟨a1,a2,a3⟩ | ⟨d,j,e0,a1,a2,a3,a4,a5,a6⟩
   ·refine .inl ⟨by simp [mapGet,hne,a1],?_,fun v e' q1 q2=>?_⟩
    ·simp [Instr.findNow,Instr.sameNow,h1,hne,a2]
    ·simp only [mapPut,hne,List.cons_append]
     exact relM_cons' h1 h2 (a3 v e' q1 q2)
   ·refine .inr ⟨d,j + 1,e0,by simp [mapGet,hne,a1],?_,by simpa using a3,a4,a5,fun v e' q1 q2=>?_⟩
    ·simp [Instr.findNow,Instr.sameNow,h1,hne,a2]; omega
    ·simp only [mapPut,hne,List.set_cons_succ]
     exact relM_cons' h1 h2 (a6 v e' q1 q2)
theorem HRp.newMap {P : Program} {w0 w : World} {G : Cx} {obs : Nat → Option (List V)} {lns : Nat → Option (TypeId × Nat)} (h : HRp P w0 w G obs lns) (k : Nat) (hk : obs k = none) (ik : IntKind) :
  let G' : Cx := { G with mp := upd G.mp k w.heap.size }
  G.le G' ∧ HRp P w0 (w.alloc (.map #[] 0)) G' (upd obs k [.mapc ik []]) lns := by
 intro G'
 have hnone : G.mp k = none := by
  cases hq : G.mp k with
  | none=>rfl
  | some b=>obtain ⟨_,_,_,_,_,h2,_⟩ := h.mpl k b hq; rw [hk] at h2; cases h2
 have hno : G.ob k = none := by
  cases hq : G.ob k with
  | none=>rfl
  | some b=>exact absurd hk (h.obd k b hq)
 have hle : G.le G' := by
  refine ⟨rfl,fun _ _ _ q=>q,fun _ _ q=>q,fun _ L q=>⟨L,q,rfl,.inl rfl⟩,fun j b q=>?_,fun _ L q=>⟨L,q,rfl,.inl rfl⟩,fun _ _ q=>q⟩
  show upd G.mp k w.heap.size j = some b
  rw [upd_ne _ _ (fun e=>by rw [e,hnone] at q; cases q)]; exact q
 have hkp : Kp w (w.alloc (.map #[] 0)) := (Kp.refl w).alloc _
 have hmp : ∀ j b,G'.mp j = some b → (j = k ∧ b = w.heap.size) ∨ (j ≠ k ∧ G.mp j = some b) := by
  intro j b q
  have q' : upd G.mp k w.heap.size j = some b := q
  by_cases e : j = k
  ·subst e; rw [upd_same] at q'; injection q' with q'; exact .inl ⟨rfl,q'.symm⟩
  ·rw [upd_ne _ _ e] at q'; exact .inr ⟨e,q'⟩
 have hlt : ∀ j b,G.mp j = some b → b < w.heap.size := fun j b q=>by
  obtain ⟨_,_,_,_,_,_,h3,_⟩ := h.mpl j b q; exact heap_lt' h3
 refine ⟨hle,h.kp.trans hkp,?_,h.fb,?_,?_,h.obi,h.lvd,?_,h.lvi,h.gb,?_,?_,?_,h.obr,?_,h.rvi,fun b t q=>tk_kp hkp _ _ (h.tgs b t q)⟩
 ·intro b o v q
  have := h.fs b o v q
  exact ⟨Nat.lt_of_lt_of_le this.1 hkp.size,(hkp.see.1 b o this.1).trans this.2⟩
 ·intro j b q
  by_cases e : j = k
  ·rw [e,upd_same]; simp
  ·rw [upd_ne _ _ e]; exact h.obd j b q
 ·intro j cs' q hm hrv
  have e : j ≠ k := fun e=>by
   have : upd G.mp k w.heap.size j = none := hm
   rw [e,upd_same] at this; cases this
  rw [upd_ne _ _ e] at q
  have hm' : G.mp j = none := by
   have : upd G.mp k w.heap.size j = none := hm
   rwa [upd_ne _ _ e] at this
  obtain ⟨b,vs',t',h1,h2,h3,h4,h5⟩ := h.obl j cs' q hm' hrv
  exact ⟨b,vs',t',h1,h2,(hkp.below.block b (heap_lt' h3)).trans h3,rels_mono hle h4,h5⟩
 ·intro t' e n q
  obtain ⟨v,xs,h1,h2,h3⟩ := h.lvl t' e n q
  exact ⟨v,xs,h1,holds_kp h2 hkp,h3⟩
 ·intro j b q
  have e : j ≠ k := fun e=>by rw [e,hno] at q; cases q
  show upd G.mp k w.heap.size j = none
  rw [upd_ne _ _ e]; exact h.obm j b q
 ·intro j b q
  rcases hmp j b q with ⟨rfl,rfl⟩ | ⟨e,q⟩
  ·exact ⟨h.kp.size,[],0,ik,[],upd_same _ _ _,(MapKept.heap_alloc w _).1,rfl,fun i p e a=>by simp at a⟩
  ·obtain ⟨h1,es,n,ik',kvs,h2,h3,h4⟩ := h.mpl j b q
   exact ⟨h1,es,n,ik',kvs,by rw [upd_ne _ _ e]; exact h2,(hkp.below.block b (heap_lt' h3)).trans h3,h4⟩
 ·intro j j' b q q'
  rcases hmp j b q with ⟨e1,e2⟩ | ⟨e1,q1⟩ <;> rcases hmp j' b q' with ⟨e3,e4⟩ | ⟨e3,q2⟩
  ·rw [e1,e3]
  ·exact absurd (hlt _ _ q2) (by omega)
  ·exact absurd (hlt _ _ q1) (by omega)
  ·exact h.mpi j j' b q1 q2
 ·intro j L q
  obtain ⟨e,es,xs,h1,h2,h3,h4,h5,h6⟩ := h.rvl j L q
  have hj : j ≠ k := fun e=>by rw [e] at h1; rw [hk] at h1; cases h1
  exact ⟨e,es,xs,by rw [upd_ne _ _ hj]; exact h1,h2,h3,own_kp h4 hkp,h5,h6⟩
theorem HRp.putMap {P : Program} {w0 w : World} {G : Cx} {obs : Nat → Option (List V)} {lns : Nat → Option (TypeId × Nat)} (h : HRp P w0 w G obs lns) {k b : Nat} (hk : G.mp k = some b) {es : List MapEntry} {n : Nat} {ik : IntKind} {kvs : List (Int × D)} (hr : relM G.F ik kvs es) :
  HRp P w0 { w with heap := w.heap.setIfInBounds b (.map ⟨es⟩ n) } G (upd obs k [.mapc ik kvs]) lns := by
 obtain ⟨g1,es0,n0,ik0,kvs0,g2,g3,g4⟩ := h.mpl k b hk
 obtain ⟨s1,s2⟩ := MapKept.heap_set (o' := .map ⟨es⟩ n) g3
 have hg : w.grownBy { w with heap := w.heap.setIfInBounds b (.map ⟨es⟩ n) } (some b) := ⟨rfl,rfl,rfl,by simp,fun j _ hj=>s2 j (fun e=>hj (by rw [e]))⟩
 have hcell : ∀ b' o,b' ≠ b → ({ w with heap := w.heap.setIfInBounds b (.map ⟨es⟩ n) } : World).cell? ⟨b',o,none⟩ = w.cell? ⟨b',o,none⟩ := fun b' o hne=>World.cell?_of_block (a := ⟨b',o,none⟩) (s2 b' hne)
 have hnF : ∀ o v,¬ G.F b o v := fun o v q=>by
  have := (h.fs b o v q).2
  simp [World.cell?,g3] at this
 refine ⟨h.kp.grown hg (fun j hj=>by injection hj with hj; subst hj; exact g1),?_,h.fb,?_,?_,h.obi,h.lvd,?_,h.lvi,h.gb,h.obm,?_,h.mpi,h.obr,?_,h.rvi,fun b' t q=>tk_grown hg (fun t' q'=>by unfold tagOf at q'; rw [g3] at q'; cases q') _ _ (h.tgs b' t q)⟩
 ·intro b' o v q
  have q1 := h.fs b' o v q
  have hne : b' ≠ b := fun e=>by subst e; exact hnF o v q
  exact ⟨by simpa using q1.1,(hcell b' o hne).trans q1.2⟩
 ·intro j b' q
  have e : j ≠ k := fun e=>by rw [e] at q; rw [h.obm k b' q] at hk; cases hk
  rw [upd_ne _ _ e]; exact h.obd j b' q
 ·intro j cs' q hm hrv
  have e : j ≠ k := fun e=>by rw [e,hk] at hm; cases hm
  rw [upd_ne _ _ e] at q
  obtain ⟨b',vs',t',h1,h2,h3,h4,h5⟩ := h.obl j cs' q hm hrv
  have hne : b' ≠ b := fun e=>by rw [e,g3] at h3; cases h3
  exact ⟨b',vs',t',h1,h2,(s2 b' hne).trans h3,h4,h5⟩
 ·intro t' e n q
  obtain ⟨v,xs,h1,h2,h3⟩ := h.lvl t' e n q
  refine ⟨v,xs,h1,holds_kept h2 hg (.inr fun hv=>?_),h3⟩
  have h2 : w.ownsRow w0.heap.size e (P.cellsOf e) v n xs := h2.resolve_left (by rintro rfl; cases hv)
  rcases h2.2 with ⟨rfl,_⟩ | ⟨g',cap',cur,rfl,_,hgc,_⟩
  ·cases hv
  ·have : g' = b := by injection hv
   subst this
   rw [hgc] at g3; cases g3
 ·intro j b' q
  by_cases e : j = k
  ·subst e
   rw [hk] at q; injection q with q; subst q
   exact ⟨g1,es,n,ik,kvs,upd_same _ _ _,s1,hr⟩
  ·obtain ⟨h1,es',n',ik',kvs',h2,h3,h4⟩ := h.mpl j b' q
   have hne : b' ≠ b := fun e'=>e (h.mpi j k b (e' ▸ q) hk)
   exact ⟨h1,es',n',ik',kvs',by rw [upd_ne _ _ e]; exact h2,(s2 b' hne).trans h3,h4⟩
 ·intro j L q
  obtain ⟨e,es',xs,h1,h2,h3,h4,h5,h6⟩ := h.rvl j L q
  have hj : j ≠ k := fun e=>by rw [e,g2] at h1; cases h1
  refine ⟨e,es',xs,by rw [upd_ne _ _ hj]; exact h1,h2,h3,h4.kept hg (.inr fun hv=>?_),h5,h6⟩
  rcases h4.2 with ⟨hz,_⟩ | ⟨g',cap',cur,hz,_,hgc,_⟩
  ·rw [hz] at hv; cases hv
  ·rw [hz] at hv
   have : g' = b := by injection hv
   subst this
   rw [hgc] at g3; cases g3
def mapT (P : Program) (t : TypeId) : Option (IntKind × TypeId) := match P.underlying t with
 | some (.map kt et)=>(match P.underlying kt with | some (.int k)=>some (k,et) | _=>none)
 | _=>none
theorem mapT_ok {P : Program} {t et : TypeId} {k : IntKind} (h : mapT P t = some (k,et)) : ∃ kt,P.underlying t = some (.map kt et) ∧ P.underlying kt = some (.int k) := by
 unfold mapT at h
 split at h
 ·rename_i kt et' h1
  split at h
  ·rename_i k' h2
   injection h with h; injection h with e1 e2; subst e1; subst e2
   exact ⟨kt,h1,h2⟩
  ·cases h
 ·cases h
section
variable {P : Program} {g : Pg P} {d : Option Tmp} {t ty : TypeId} {p : String} {af : Array Edge} {gd : Option (Nat × Bool)} {fr : Fr} {s : Sg} {R : V → Sg → Prop}
theorem sg_push (s : Sg) (c : List V) : upd (fun k=>s.obs[k]?) s.obs.length c = fun k=>(s.obs ++ [c])[k]? := by
 funext j
 by_cases e : j = s.obs.length
 ·rw [e,upd_same]; simp
 ·rw [upd_ne _ _ e,List.getElem?_append]
  split
  ·rfl
  ·rename_i q
   rw [List.getElem?_eq_none (by omega),List.getElem?_eq_none (by simp; omega)]
theorem sg_set {s : Sg} {k : Nat} {c0 c : List V} (h : s.obs[k]? = some c0) : upd (fun k=>s.obs[k]?) k c = fun j=>(s.obs.set k c)[j]? := by
 funext j
 have hk := getElem_lt h
 by_cases e : j = k
 ·subst e; rw [upd_same]; simp [hk]
 ·rw [upd_ne _ _ e,List.getElem?_set_ne (fun y=>e y.symm)]
theorem alt_makeMap (ik : IntKind) (h : R (.mp s.obs.length) ⟨s.obs ++ [[.mapc ik []]],s.lns⟩) : altR g ⟨d,.makeMap t none,ty,p,af,gd⟩ fr s R := by
 intro w0 w G a hH hfr
 obtain ⟨hle,hN⟩ := HRp.newMap hH s.obs.length (by simp) ik
 rw [sg_push] at hN
 have hN' : HR P w0 (w.alloc (.map #[] 0)) { G with mp := upd G.mp s.obs.length w.heap.size } ⟨s.obs ++ [[.mapc ik []]],s.lns⟩ := hN
 refine ⟨.value (.map (some w.heap.size)),w.alloc (.map #[] 0),.mp s.obs.length,⟨s.obs ++ [[.mapc ik []]],s.lns⟩,_,?_,.inl ⟨_,rfl,.mp _ _ (upd_same _ _ _)⟩,hle,hN',h⟩
 simp only [execOp,Option.map_none,Sem.run_bind,run_makeMap,Result.andThen_ok,Sem.run_pure]
theorem inv_mp {G : Cx} {k : Nat} {v : Value} (r : rel G (.mp k) v) : ∃ b,G.mp k = some b ∧ v = .map (some b) := by cases r with | mp _ b h=>exact ⟨b,h,rfl⟩
theorem alt_lookup {x i : Operand} {k : Nat} {ik : IntKind} {kvs : List (Int × D)} {n : Int} {et : TypeId} {z : V} {zd : D} (hx : evalO fr x = .mp k) (ho : s.obs[k]? = some [.mapc ik kvs]) (hi : evalO fr i = .d (.int ik n)) (ht : mapT P t = some (ik,et)) (hz : zeroV P et = some z) (hzd : z.data? = some zd)
  (h : R (.d ((mapGet kvs n).getD zd)) s) : altR g ⟨d,.lookup t x i false,ty,p,af,gd⟩ fr s R := by
 intro w0 w G a hH hfr
 obtain ⟨b,hb,hv⟩ := inv_mp (hx ▸ evalO_rel hfr x)
 have hiv := inv_int (hi ▸ evalO_rel hfr i)
 obtain ⟨_,es,c,ik',kvs',h2,h3,h4⟩ := hH.mpl k b hb
 have h2' : s.obs[k]? = some [.mapc ik' kvs'] := h2
 rw [ho] at h2'; injection h2' with h2'; injection h2' with h2' _; injection h2' with e1 e2; subst e1; subst e2
 obtain ⟨kt,t1,t2⟩ := mapT_ok ht
 obtain ⟨zv,z1,z2,_⟩ := zeroV_ok hz G w
 have hkey : MapKept.IsKey (.int ik) (.int ik n) := by simp [MapKept.IsKey]
 rcases find_rel (ik' := ik) n kvs es 0 h4 with ⟨a1,a2,a3⟩ | ⟨dd,j,e0,a1,a2,a3,a4,a5,a6⟩
 ·refine ⟨.value zv,w,.d ((mapGet kvs n).getD zd),s,G,?_,.inl ⟨_,rfl,?_⟩,Cx.le.refl G,hH,h⟩
  ·simp [execOp,hv,hiv,Instr.lookup,run_underlying t1,MapKept.run_getObj_map h3,MapKept.run_checkKey t2 hkey,MapKept.run_findKey t2 a2,z1]
  ·rw [a1]; exact .d (data_rel z2 hzd)
 ·refine ⟨.value e0.val,w,.d ((mapGet kvs n).getD zd),s,G,?_,.inl ⟨_,rfl,?_⟩,Cx.le.refl G,hH,h⟩
  ·simp [execOp,hv,hiv,Instr.lookup,run_underlying t1,MapKept.run_getObj_map h3,MapKept.run_checkKey t2 hkey,MapKept.run_findKey t2 a2]
  ·rw [a1]; exact .d a5
theorem alt_mapUpdate {x i v : Operand} {k : Nat} {ik : IntKind} {kvs : List (Int × D)} {n : Int} {et : TypeId} {vd : D} (hx : evalO fr x = .mp k) (ho : s.obs[k]? = some [.mapc ik kvs]) (hi : evalO fr i = .d (.int ik n)) (hv : (evalO fr v).data? = some vd) (ht : mapT P t = some (ik,et))
  (h : R .undef ⟨s.obs.set k [.mapc ik (mapPut kvs n vd)],s.lns⟩) : altR g ⟨d,.mapUpdate t x i v,ty,p,af,gd⟩ fr s R := by
 intro w0 w G a hH hfr
 obtain ⟨b,hb,hxv⟩ := inv_mp (hx ▸ evalO_rel hfr x)
 have hiv := inv_int (hi ▸ evalO_rel hfr i)
 have hvr := data_rel (evalO_rel hfr v) hv
 obtain ⟨_,es,c,ik',kvs',h2,h3,h4⟩ := hH.mpl k b hb
 have h2' : s.obs[k]? = some [.mapc ik' kvs'] := h2
 rw [ho] at h2'; injection h2' with h2'; injection h2' with h2' _; injection h2' with e1 e2; subst e1; subst e2
 obtain ⟨kt,t1,t2⟩ := mapT_ok ht
 have hkey : MapKept.IsKey (.int ik) (.int ik n) := by simp [MapKept.IsKey]
 rcases find_rel (ik' := ik) n kvs es 0 h4 with ⟨a1,a2,a3⟩ | ⟨dd,j,e0,a1,a2,a3,a4,a5,a6⟩
 ·have hP := HRp.putMap hH hb (n := c + 1) (a3 vd ⟨.int ik n,a.eval v,c⟩ rfl hvr)
  rw [sg_set ho] at hP
  refine ⟨.skip,_,.undef,⟨s.obs.set k [.mapc ik (mapPut kvs n vd)],s.lns⟩,G,?_,.inr ⟨rfl,rfl⟩,Cx.le.refl G,hP,h⟩
  simp [execOp,hxv,hiv,Instr.mapUpdate,run_underlying t1,MapKept.run_getObj_map h3,MapKept.run_checkKey t2 hkey,MapKept.run_findKey t2 a2,MapKept.run_setObj_map _ h3]
 ·have hj := getElem_lt a3
  have hP := HRp.putMap hH hb (n := c) (a6 vd { e0 with key := .int ik n,val := a.eval v } rfl hvr)
  rw [sg_set ho] at hP
  refine ⟨.skip,_,.undef,⟨s.obs.set k [.mapc ik (mapPut kvs n vd)],s.lns⟩,G,?_,.inr ⟨rfl,rfl⟩,Cx.le.refl G,hP,h⟩
  have hmod : es.modify j (fun e=>{ key := .int ik n,val := a.eval v,born := e.born }) = es.set j { key := .int ik n,val := a.eval v,born := e0.born } := by
   have he : es[j] = e0 := by rw [List.getElem?_eq_getElem hj] at a3; injection a3
   rw [List.modify_eq_set]
   simp [hj,he]
  simp [execOp,hxv,hiv,Instr.mapUpdate,run_underlying t1,MapKept.run_getObj_map h3,MapKept.run_checkKey t2 hkey,MapKept.run_findKey t2 a2,a3,a4,MapKept.run_keyThatStays hkey,MapKept.run_setObj_map _ h3,hmod]
end
end Go.Proofs.YtjgngikiglhleaaGreatDoor
