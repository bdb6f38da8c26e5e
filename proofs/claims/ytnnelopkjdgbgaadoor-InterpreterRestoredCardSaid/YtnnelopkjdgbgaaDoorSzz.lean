/-
  Szb, Szc, Szd, Sze, Szh in one text.
-/
import Derived.Test.YtnnelopkjdgbgaaDoorSx
import Derived.Test.YtnnelopkjdgbgaaDoorGx
import Derived.Test.YtnnelopkjdgbgaaDoorSvw
import Derived.Still
import Derived.Test.YtnnelopkjdgbgaaDoorSy
namespace Go.Proofs.YtnnelopkjdgbgaaDoor
open Go.RowKit
set_option linter.unusedVariables false
set_option linter.unusedSimpArgs false
section
variable {P : Program}
end
section
variable {P : Program} {g : Pg P} {d : Option Tmp} {t ty : TypeId} {p : String} {af : Array Edge} {gd : Option (Nat × Bool)} {fr : Fr} {s : Sg} {R : V → Sg → Prop}
end
section
variable {P : Program} {g : Pg P} {d : Option Tmp} {t ty : TypeId} {p : String} {af : Array Edge} {gd : Option (Nat × Bool)} {fr : Fr} {s : Sg} {R : V → Sg → Prop}
end
section
variable {P : Program}
theorem HRp.beginRowP {w0 w w' : World} {G : Cx} {obs : Nat → Option (List V)} {lns : Nat → Option (TypeId × Nat)} (h : HRp P w0 w G obs lns) (hk : Kp w w') (t : Nat) (ht : lns t = none) (e : TypeId) {v : Value} {n0 : Nat} {xs0 : List Value} (ho : w'.ownsRow w.heap.size e (P.cellsOf e) v n0 xs0) :
  let G' : Cx := { G with F := fun b o u=>G.F b o u ∨ (fresh w w' b o u ∧ (v.ownBlock = some b → o < n0 * P.cellsOf e)),lv := upd G.lv t ⟨n0,P.cellsOf e,v⟩ }
  G.le G' ∧ HRp P w0 w' G' obs (upd lns t (e,n0)) := by
 intro G'
 have h' := h.kept hk
 have hnone : G.lv t = none := by
  cases hq : G.lv t with
  | none=>rfl
  | some b=>exact absurd ht (h.lvd t b hq)
 have hlv : ∀ j L,G'.lv j = some L → (j = t ∧ L = ⟨n0,P.cellsOf e,v⟩) ∨ (j ≠ t ∧ G.lv j = some L) := by
  intro j L q
  have q' : upd G.lv t ⟨n0,P.cellsOf e,v⟩ j = some L := q
  by_cases e : j = t
  ·subst e; rw [upd_same] at q'; injection q' with q'; exact .inl ⟨rfl,q'.symm⟩
  ·rw [upd_ne _ _ e] at q'; exact .inr ⟨e,q'⟩
 have hnew : ∀ b,v.ownBlock = some b → w.heap.size ≤ b := fun b hb=>(ho.lt b hb).1
 have hle : G.le G' := by
  refine ⟨rfl,fun _ _ _ q=>.inl q,fun _ _ q=>q,fun j L q=>⟨L,?_,rfl,.inl rfl⟩,fun _ _ q=>q,fun _ L q=>⟨L,q,rfl,.inl rfl⟩,fun _ _ q=>q⟩
  show upd G.lv t _ j = some L
  rw [upd_ne _ _ (fun e=>by rw [e,hnone] at q; cases q)]; exact q
 have hlvl : ∀ j L b,G.lv j = some L → L.v.ownBlock = some b → b < w.heap.size := by
  intro j L b q hb
  cases hq : lns j with
  | none=>exact absurd hq (h.lvd j L q)
  | some en =>
   obtain ⟨v',xs',h1,h2,_⟩ := h.lvl j en.1 en.2 hq
   rw [q] at h1; injection h1 with h1; subst h1
   exact (holds_lt h2 b hb).2
 have hobl : ∀ k b,G.ob k = some b → b < w.heap.size := by
  intro k b q
  cases hq : obs k with
  | none=>exact absurd hq (h.obd k b q)
  | some cs =>
   obtain ⟨b',_,_,h1,_,h3,_⟩ := h.obl k cs hq (h.obm k b q) (h.obr k b q)
   rw [q] at h1; injection h1 with h1; subst h1
   exact heap_lt' h3
 have hrvl : ∀ k L b,G.rv k = some L → L.v.ownBlock = some b → b < w.heap.size := by
  intro k L b q hb
  obtain ⟨_,_,_,_,_,_,g4,_⟩ := h.rvl k L q
  exact (g4.lt b hb).2
 refine ⟨hle,h'.kp,?_,?_,h'.obd,?_,h'.obi,?_,?_,?_,h'.gb.mono fun _ _ _ q=>.inl q,h'.obm,?_,h'.mpi,h'.obr,fun k L q=>?_,h'.rvi,h'.tgs⟩
 ·rintro b o u (q | ⟨q,_⟩)
  ·exact h'.fs b o u q
  ·exact ⟨cell_lt q.2,q.2⟩
 ·rintro b o u (q | ⟨q,_⟩)
  ·exact h'.fb b o u q
  ·exact .inr (Nat.le_trans h.kp.size q.1)
 ·intro k cs q hm hrv
  obtain ⟨b,vs,t',h1,h2,h3,h4,h5⟩ := h'.obl k cs q hm hrv
  refine ⟨b,vs,t',h1,h2,h3,rels_mono hle h4,?_⟩
  rintro o u (q | ⟨q,_⟩)
  ·exact h5 o u q
  ·have := q.1; have := hobl k b h1; omega
 ·intro j L q
  rcases hlv j L q with ⟨rfl,_⟩ | ⟨e,q⟩
  ·rw [upd_same]; simp
  ·rw [upd_ne _ _ e]; exact h.lvd j L q
 ·intro j e' n q
  by_cases ej : j = t
  ·subst ej
   rw [upd_same] at q; injection q with q; injection q with q1 q2; subst q1; subst q2
   refine ⟨v,xs0,upd_same _ _ _,.inr (own_mono ho h.kp.size),fun b hb=>⟨fun k q=>?_,fun o u q=>?_⟩⟩
   ·have := hnew b hb; have := hobl k b q; omega
   ·rcases q with q | q
    ·have := (h.fs b o u q).1; have := hnew b hb; omega
    ·exact q.2 hb
  ·rw [upd_ne _ _ ej] at q
   obtain ⟨v',xs,h1,h2,h3⟩ := h'.lvl j e' n q
   refine ⟨v',xs,(by show upd G.lv t _ j = _; rw [upd_ne _ _ ej]; exact h1),h2,fun b hb=>⟨(h3 b hb).1,fun o u q=>?_⟩⟩
   rcases q with q | ⟨q,_⟩
   ·exact (h3 b hb).2 o u q
   ·have := q.1; have := hlvl j _ b h1 hb; omega
 ·intro j j' L L' b q q' h1 h2
  rcases hlv j L q with ⟨e1,r1⟩ | ⟨e1,q1⟩ <;> rcases hlv j' L' q' with ⟨e2,r2⟩ | ⟨e2,q2⟩
  ·rw [e1,e2]
  ·subst r1; have := hlvl j' L' b q2 h2; have := hnew b h1; omega
  ·subst r2; have := hlvl j L b q1 h1; have := hnew b h2; omega
  ·exact h.lvi j j' L L' b q1 q2 h1 h2
 ·intro j b q
  obtain ⟨h1,es',n',ik',kvs',h2,h3,h4⟩ := h'.mpl j b q
  exact ⟨h1,es',n',ik',kvs',h2,h3,relM_mono (fun _ _ _ q=>.inl q) h4⟩
 ·obtain ⟨e',es,xs,h1,h2,h3,h4,h5,h6⟩ := h'.rvl k L q
  refine ⟨e',es,xs,h1,h2,h3,h4,relRow_mono (fun _ _ _ q=>.inl q) h5,fun b hb=>⟨(h6 b hb).1,?_,fun j L' q'=>?_⟩⟩
  ·rintro o u (q' | ⟨q',_⟩)
   ·exact (h6 b hb).2.1 o u q'
   ·have := q'.1; have := hrvl k L b q hb; omega
  ·rcases hlv j L' q' with ⟨_,rfl⟩ | ⟨_,q'⟩
   ·intro hb2
    have := hrvl k L b q hb; have := hnew b hb2; omega
   ·exact (h6 b hb).2.2 j L' q'
end
def SpecO {P : Program} (_ : Pg P) (f : FuncId) (args : List V) (e : TypeId) (es : List (List D)) : Prop :=
 enterable P f = true ∧ ∀ (w : World) (F : Nat → Nat → Value → Prop) (vs : List Value),(∀ b o v,F b o v → b < w.heap.size ∧ w.cell? ⟨b,o,none⟩ = some v) → GlobOk w F → rels (bareG F) args vs →
  Calls P f ⟨vs⟩ w fun en w'=>∃ v xs F2,en = .returned v ∧ Kp w w' ∧ w'.ownsRow w.heap.size e (P.cellsOf e) v es.length xs ∧ (∀ (i : Nat) (c : List D),es[i]? = some c → c.length = P.cellsOf e) ∧ relD F2 (.list es) v ∧ ∀ b o u,F2 b o u → F b o u ∨ (fresh w w' b o u ∧ (v.ownBlock = some b → o < es.length * P.cellsOf e))
section
variable {P : Program} {g : Pg P} {s : Sg} {R : V → Sg → Prop}
theorem SpecO.toS {f : FuncId} {args args' : List V} {e : TypeId} {es : List (List D)} (h : SpecO g f args' e es) (ha : args.map V.clean = args') (hR : R (.own s.lns.length es) ⟨s.obs,s.lns ++ [(e,es.length)]⟩) : SpecS g f args s R := by
 subst ha
 refine ⟨h.1,fun w0 w G vs hH hr=>?_⟩
 refine (h.2 w G.F vs hH.fs (hH.gb.kp hH.kp) ?_).mono ?_
 ·refine ⟨by simp [hr.1],fun i x v h1 h2=>?_⟩
  rw [List.getElem?_map] at h1
  cases hq : args[i]? with
  | none=>rw [hq] at h1; cases h1
  | some y=>rw [hq] at h1; simp at h1; subst h1; exact clean_rel (hr.2 i y v hq h2) G.F (fun _ _ _ q=>q)
 ·rintro en w' ⟨v,xs,F2,rfl,hk,ho,hel,hx,hF⟩
  obtain ⟨hle,hN⟩ := HRp.beginRowP hH hk s.lns.length (by simp) e ho
  rw [lns_push] at hN
  exact ⟨v,.own s.lns.length es,⟨s.obs,s.lns ++ [(e,es.length)]⟩,_,rfl,hle,hN,.own _ es v (relD_mono hF hx) ⟨es.length,P.cellsOf e,v⟩ (upd_same _ _ _) hel (.inl ⟨rfl,rfl⟩),hR⟩
theorem SpecO.nilcase {f : FuncId} {e : TypeId} {es : List (List D)} (h : ∀ A c,SpecO g f [.d (.other (.slice A 0 c))] e es) : SpecO g f [.d (.list [])] e es := by
 refine ⟨(h none 0).1,fun w F vs hF hg hr=>?_⟩
 match vs,hr with
 | [v],hr =>
  have r := (rels_cons_inv hr).1
  cases r with
  | d q=>cases q with
   | nil A c=>exact (h A c).2 w F _ hF hg (rels_cons (.d (.other _ rfl)) (rels_nil _))
   | list _ b o c sz f h1=>exact absurd h1 (by simp)
 | [],hr=>have := hr.1; simp at this
 | _ :: _ :: _,hr=>have := hr.1; simp at this
end
end Go.Proofs.YtnnelopkjdgbgaaDoor
namespace Go.Proofs.YtnnelopkjdgbgaaDoor
open Go.RowKit
set_option linter.unusedVariables false
set_option linter.unusedSimpArgs false
section
variable {P : Program} {g : Pg P} {d : Option Tmp} {t ty : TypeId} {p : String} {af : Array Edge} {gd : Option (Nat × Bool)} {fr : Fr} {s : Sg} {R : V → Sg → Prop}
end
end Go.Proofs.YtnnelopkjdgbgaaDoor
namespace Go.Proofs.YtnnelopkjdgbgaaDoor
open Go.RowKit
set_option linter.unusedVariables false
set_option linter.unusedSimpArgs false
def readOp (P : Program) (o : Oper) : Bool := match o.op with
 | .move _ | .assign _ | .pick _ _ _ | .build _ _ | .nilCheck _ | .unOp _ _ _ | .fieldAddr _ _ _ | .field _ _ _ | .indexAddr _ _ _ | .index _ _ _ | .extract _ _ | .load _ _ | .slice _ _ _ _ _=>true
 | .binOp _ t _ z _=>!sliceT P t && !isNilC z
 | .convert _ d _=>match P.underlying d with | some (.int _)=>true | _=>false
 | .call ⟨.builtin .len,_,_⟩=>true
 | _=>false
def stW {P : Program} (g : Pg P) (ops : Array Oper) (l : List Oper) (fr : Fr) (s : Sg) (K : Fr → Sg → Prop) : Prop :=
 ∀ (w0 : World) (G0 G : Cx) (a : Act) (w : World) (Q : Act → Prop),(∀ a,Post g w0 G0 K a w → Q a) → G0.le G → HR P w0 w G s → FR G fr a → a.defers = [] → wpStill P ops w Q l a
def stR {P : Program} (_ : Pg P) (o : Oper) (fr : Fr) (s : Sg) (R : V → Prop) : Prop :=
 ∃ y,R y ∧ ∀ (w0 w : World) (G : Cx) (a : Act),HR P w0 w G s → FR G fr a → ∃ v,(execOp a.eval o).run P w = .ok (.value v) w ∧ rel G y v
section
variable {P : Program} {g : Pg P}
theorem read_ok {w0 w : World} {G : Cx} {s : Sg} {o : Oper} {fr : Fr} {a : Act} {y : V} {f : Ef} (hr : readOp P o = true) (hH : HR P w0 w G s) (hfr : FR G fr a) (hs : stepS g (fun k => s.obs[k]?) (fun t => s.lns[t]?) s.obs.length s.lns.length o (evalO fr) = some (y, f)) :
    f.sg s = s ∧ ∃ v,(execOp a.eval o).run P w = .ok (.value v) w ∧ rel G y v := by
  have hF := fun b o v q=>(hH.fs b o v q).2
  have ev := fun x=>evalO_rel hfr x
  have pure : ∀ z,pureS g o (evalO fr) = some z → y = z → f = .none → f.sg s = s ∧ ∃ v,(execOp a.eval o).run P w = .ok (.value v) w ∧ rel G y v := by
    rintro z hz rfl rfl
    exact ⟨rfl,pureS_ok hF hfr hz⟩
  obtain ⟨dst,op,ty,p,af,gd⟩ := o
  cases op
  case load t x =>
    simp only [stepS,extS,stepS0] at hs
    split at hs
    · rename_i j off hx
      split at hs
      · rename_i cs hcs
        split at hs
        · rename_i z hz
          injection hs with hs; injection hs with e1 e2; subst e1; subst e2
          obtain ⟨b,q,hv⟩ := inv_ptr (hx ▸ ev x)
          obtain ⟨b',vs,tt,h1,h2,h3,h4,h5⟩ := hH.obl j cs hcs (hH.obm j b q) (hH.obr j b q)
          rw [q] at h1; injection h1 with h1; subst h1
          obtain ⟨v,r1,r2⟩ := loadF_ok (P := P) (b := b) (o := 0) (w := w) hz h4 (fun i v hi=>by
            rw [cell_of_row w b _ _ _ _ h3]; simpa using hi)
          refine ⟨rfl,v,?_,r2⟩
          rw [Nat.zero_add] at r1
          simp only [execOp,Instr.loadAt,hv,Instr.sureAddr,Sem.run_bind,Sem.run_pure,Result.andThen_ok,r1]
        · cases hs
      · cases hs
    · rename_i cs off hx
      split at hs
      · rename_i z hz
        injection hs with hs; injection hs with e1 e2
        exact pure z (by simp only [pureS,hx]; exact hz) e1.symm e2.symm
      · cases hs
    · rename_i b off hx
      split at hs
      · rename_i cs hg
        split at hs
        · rename_i z hz
          injection hs with hs; injection hs with e1 e2; subst e1; subst e2
          have hr := ev x
          rw [hx] at hr
          have hv : a.eval x = .pointer (some ⟨b,off,none⟩) := by
            generalize a.eval x = q at hr
            cases hr with | d q=>cases q; rfl
          obtain ⟨u,hu⟩ := (hH.gb.1 b cs hg)
          obtain ⟨v,r1,r2⟩ := loadF_ok (P := P) (b := b) (o := 0) (w := w) hz (iptr_cells (G := G) (u := u) (fun j x hx=>(hu j x hx).2)) (fun j v hj=>by
            rw [List.getElem?_map] at hj
            cases hc : cs[j]? with
            | none =>
              rw [List.getElem?_eq_none (by rw [List.length_range]; exact List.getElem?_eq_none_iff.1 hc)] at hj
              cases hj
            | some y =>
              rw [List.getElem?_range (getElem_lt hc)] at hj
              simp at hj; subst hj
              rw [Nat.zero_add]
              exact hF _ _ _ (hu j y hc).1)
          refine ⟨rfl,v,?_,r2⟩
          rw [Nat.zero_add] at r1
          simp only [execOp,Instr.loadAt,hv,Instr.sureAddr,Sem.run_bind,Sem.run_pure,Result.andThen_ok,r1]
        · cases hs
      · cases hs
    · cases hs
  case call c =>
    obtain ⟨cal,args,tys⟩ := c
    cases cal
    case builtin b =>
      cases b <;> simp [readOp] at hr
      simp only [stepS,extS,stepS0] at hs
      split at hs
      · rename_i h1 _ _; cases h1
      · rename_i x t h1 h2 h3
        split at hs
        · rename_i z hz
          injection hs with hs; injection hs with e1 e2
          exact pure z (by simp only [pureS,h2,h3]; exact hz) e1.symm e2.symm
        · cases hs
      · cases hs
    all_goals simp [readOp] at hr
  case convert sr d x =>
    have hn : extS P ⟨dst,.convert sr d x,ty,p,af,gd⟩ (evalO fr) = none := by
      simp only [readOp] at hr
      simp only [extS]
      split at hr
      · rename_i k hu
        split
        · rw [if_neg (by simp [bytesT,hu])]
        · rw [if_neg (by simp [strT,hu])]
        · rfl
      · cases hr
    simp only [stepS,hn,stepS0] at hs
    split at hs
    · rename_i z hz
      injection hs with hs; injection hs with e1 e2
      exact pure z hz e1.symm e2.symm
    · cases hs
  case binOp op t x z t' =>
    have hn : extS P ⟨dst,.binOp op t x z t',ty,p,af,gd⟩ (evalO fr) = none := by
      simp only [readOp,Bool.and_eq_true,Bool.not_eq_true'] at hr
      simp [extS,hr.1,hr.2]
    simp only [stepS,hn,stepS0] at hs
    split at hs
    · rename_i z hz
      injection hs with hs; injection hs with e1 e2
      exact pure z hz e1.symm e2.symm
    · cases hs
  all_goals first
    | (simp [readOp] at hr; done)
    | (simp only [stepS, extS, stepS0] at hs
       split at hs
       · rename_i z hz
         injection hs with hs; injection hs with e1 e2
         exact pure z hz e1.symm e2.symm
       · cases hs)
variable {ops : Array Oper} {fr : Fr} {s : Sg} {K : Fr → Sg → Prop}
theorem st_seq {w0 : World} {G0 G : Cx} {w : World} {Q : Act → Prop} (h0 : G0.le G) (hH : HR P w0 w G s) (l2 : List Oper) (hQ : ∀ a,Post g w0 G0 K a w → (∃ fr',FR G fr' a ∧ a.defers = [] ∧ K fr' s) → wpStill P ops w Q l2 a) :
  ∀ (l : List Oper) (fr : Fr) (a : Act),(l.all (readOp P)) = true → regS g true ops l fr s K → FR G fr a → a.defers = [] → wpStill P ops w Q (l ++ l2) a
 | [],fr,a,_,h,hfr,hd=>hQ a ⟨G,fr,s,h0,hH,hfr,hd,h⟩ ⟨fr,hfr,hd,h⟩
 | o :: rest,fr,a,hr,h,hfr,hd=>by
  simp only [List.all_cons,Bool.and_eq_true] at hr
  unfold regS at h
  rw [List.cons_append]
  unfold wpStill
  cases hw : wantedS ops fr o with
  | none=>rw [hw] at h; exact h.elim
  | some b =>
   rw [hw] at h
   simp only at h
   rw [wanted_ok hfr hw]
   cases b with
   | false =>
    rw [if_neg (by simp)] at h
    rw [if_neg (by simp)]
    exact st_seq h0 hH l2 hQ rest _ _ hr.2 h (FR_put hfr .skip o.dst) (by rw [put_defers]; exact hd)
   | true =>
    rw [if_pos rfl] at h
    rw [if_pos rfl]
    split at h
    ·rename_i f args tys hop
     rw [readOp,hop] at hr
     exact absurd hr.1 (by simp)
    ·split at h
     ·rename_i y f hs
      obtain ⟨e1,v,h1,h2⟩ := read_ok hr.1 hH hfr hs
      rw [e1] at h
      unfold Oper.still
      rw [h1,Oper.stillUpon_value]
      exact st_seq h0 hH l2 hQ rest _ _ hr.2 h (FR_put hfr h2 o.dst) (by rw [put_defers]; exact hd)
     ·exact h.elim
theorem stW.of {l : List Oper} (hr : l.all (readOp P) = true) (h : regS g true ops l fr s K) : stW g ops l fr s K := by
 intro w0 G0 G a w Q hQ h0 hH hfr hd
 have := st_seq (Q := Q) h0 hH [] (fun a q _=>by exact hQ a q) l fr a hr h hfr hd
 rwa [List.append_nil] at this
theorem stW.alt {l : List Oper} (n : Nat) {o : Oper} (ho : l[n]? = some o) (hr : (l.take n).all (readOp P) = true)
  (h : regS g true ops (l.take n) fr s (fun fr' s'=>wantedS ops fr' o = some true ∧ stR g o fr' s' (fun y=>stW g ops (l.drop (n + 1)) (putF fr' o.dst y) s' K))) : stW g ops l fr s K := by
 intro w0 G0 G a w Q hQ h0 hH hfr hd
 have hl : l = l.take n ++ (o :: l.drop (n + 1)) := by
  have hn := getElem_lt ho
  rw [List.getElem?_eq_getElem hn] at ho
  injection ho with ho
  rw [← ho,← List.drop_eq_getElem_cons hn,List.take_append_drop]
 rw [hl]
 refine st_seq (Q := Q) h0 hH (o :: l.drop (n + 1)) ?_ (l.take n) fr a hr h hfr hd
 rintro a _ ⟨fr',q3,q4,hw,y,hy,hx⟩
 unfold wpStill
 rw [wanted_ok q3 hw,if_pos rfl]
 obtain ⟨v,h1,h2⟩ := hx w0 w G a hH q3
 unfold Oper.still
 rw [h1,Oper.stillUpon_value]
 exact hy w0 G0 G _ w Q hQ h0 hH (FR_put q3 h2 o.dst) (by rw [put_defers]; exact q4)
end
section
variable {P : Program} {g : Pg P} {d : Option Tmp} {t ty : TypeId} {p : String} {af : Array Edge} {gd : Option (Nat × Bool)} {fr : Fr} {s : Sg} {R : V → Prop}
end
end Go.Proofs.YtnnelopkjdgbgaaDoor
namespace Go.Proofs.YtnnelopkjdgbgaaDoor
open Go.RowKit
set_option linter.unusedVariables false
set_option linter.unusedSimpArgs false
theorem wpAny_normal {P : Program} {ops : Array Oper} {Q : Exit → Act → World → Prop} : ∀ (f : Nat) (L : Array Bool) (a : Act) (w : World),wpAny P .any ops (fun e a w=>e = .normal ∧ Q .normal a w) f L a w → wpAny P .any ops Q f L a w
 | 0,L,a,w,h=>⟨h.1,h.2.2⟩
 | f + 1,L,a,w,h=>by
  refine ⟨fun q=>(h.1 q).2,fun i hi=>?_⟩
  have h2 := h.2 i hi
  unfold wpOp at h2 ⊢
  cases ho : ops[i]? with
  | none=>rw [ho] at h2; exact wpAny_normal f _ a w h2
  | some o =>
   rw [ho] at h2
   simp only at h2 ⊢
   split
   ·rename_i hw
    rw [if_pos hw] at h2
    exact wpOp_of (fun e a w he q=>he q.1) (fun a w q=>wpAny_normal f _ a w q) h2
   ·rename_i hw
    rw [if_neg hw] at h2
    exact wpAny_normal f _ _ w h2
def pureKind (P : Program) (o : Oper) : Bool := match o.op with
 | .move _ | .assign _ | .pick _ _ _ | .unOp _ _ _ | .extract _ _=>true
 | .binOp _ t _ z _=>!sliceT P t && !isNilC z
 | .convert _ d _=>match P.underlying d with | some (.int _)=>true | _=>false
 | _=>false
theorem pure_of {P : Program} {g : Pg P} {obs : Nat → Option (List V)} {lns : Nat → Option (TypeId × Nat)} {k t : Nat} {o : Oper} {ρ : Operand → V} {y : V} {f : Ef} (hk : pureKind P o = true) (hs : stepS g obs lns k t o ρ = some (y,f)) : pureS g o ρ = some y ∧ f = .none := by
  have fin : ∀ z,pureS g o ρ = some z → some (z,Ef.none) = some (y,f) → pureS g o ρ = some y ∧ f = .none := by
    intro z hz h
    injection h with h; injection h with e1 e2
    subst e1
    exact ⟨hz,e2.symm⟩
  obtain ⟨dst,op,ty,p,af,gd⟩ := o
  cases op
  case convert sr d x =>
    have hn : extS P ⟨dst,.convert sr d x,ty,p,af,gd⟩ ρ = none := by
      simp only [pureKind] at hk
      simp only [extS]
      split at hk
      · rename_i k hu
        split
        · rw [if_neg (by simp [bytesT,hu])]
        · rw [if_neg (by simp [strT,hu])]
        · rfl
      · cases hk
    simp only [stepS,hn,stepS0] at hs
    split at hs
    · rename_i z hz
      exact fin z hz hs
    · cases hs
  case binOp op t x z t' =>
    have hn : extS P ⟨dst,.binOp op t x z t',ty,p,af,gd⟩ ρ = none := by
      simp only [pureKind,Bool.and_eq_true,Bool.not_eq_true'] at hk
      simp [extS,hk.1,hk.2]
    simp only [stepS,hn,stepS0] at hs
    split at hs
    · rename_i z hz
      exact fin z hz hs
    · cases hs
  all_goals first
    | (simp [pureKind] at hk; done)
    | (simp only [stepS, extS, stepS0] at hs
       split at hs
       · rename_i z hz
         exact fin z hz hs
       · cases hs)
theorem plainD_det {F F' : Nat → Nat → Value → Prop} {x : D} {v v' : Value} (h : x.scal = true) (r : relD F x v) (r' : relD F' x v') : v = v' := by
 cases r with
 | int k n=>cases r'; rfl
 | bool b=>cases r'; rfl
 | str s=>cases r'; rfl
 | nil A c=>simp [D.scal,D.kind?] at h
 | list=>simp [D.scal,D.kind?] at h
 | other v h1=>simp [D.scal,D.kind?] at h
theorem plain_det {G G' : Cx} {x : V} {v v' : Value} (h : x.plainR = true) (r : rel G x v) (r' : rel G' x v') : v = v' := by
 cases r with
 | d q =>
  cases r' with
  | d q'=>exact plainD_det h q q'
 | agg cs vs hl hr =>
  cases r' with
  | agg _ vs' hl' hr' =>
   simp only [V.plainR,List.all_eq_true] at h
   congr 1
   have : vs = vs' := by
    apply List.ext_getElem?
    intro i
    rcases Nat.lt_or_ge i cs.length with q | q
    ·have hc := List.getElem?_eq_getElem q
     have h1 : vs[i]? = some vs[i] := List.getElem?_eq_getElem (by omega)
     have h2 : vs'[i]? = some vs'[i] := List.getElem?_eq_getElem (by omega)
     have hp := h _ (List.mem_of_getElem? hc)
     have r1 := hr i _ _ hc h1
     have r2 := hr' i _ _ hc h2
     generalize cs[i] = y at hp r1 r2
     rw [h1,h2]
     cases y with
     | d z =>
      cases r1 with
      | d q1=>cases r2 with | d q2=>rw [plainD_det hp q1 q2]
     | _=>simp at hp
    ·rw [List.getElem?_eq_none (by omega),List.getElem?_eq_none (by omega)]
   rw [this]
 | _=>simp [V.plainR] at h
theorem yields_plain {P : Program} {g : Pg P} {G : Cx} {fr : Fr} {a : Act} {o : Oper} {y : V} (hfr : FR G fr a) (hp : ∀ x ∈ o.op.operands,(evalO fr x).plainR = true) (h : pureS g o (evalO fr) = some y) (hy : y.plainR = true) : ∃ v,(∀ w,(execOp a.eval o).run P w = .ok (.value v) w) ∧ rel G y v := by
 let fr0 : Fr := fr.map fun x=>if x.plainR = true then x else .undef
 have hget : ∀ t,fr0.getD t .undef = if (fr.getD t .undef).plainR = true then fr.getD t .undef else .undef := by
  intro t
  simp only [fr0,List.getD_eq_getElem?_getD,List.getElem?_map]
  cases fr[t]? with
  | none=>simp [V.plainR]
  | some x=>simp
 have hF0 : FR (bareG fun _ _ _=>False) fr0 a := by
  refine ⟨by simpa [fr0] using hfr.1,fun t=>?_⟩
  rw [hget]
  split
  ·rename_i q; exact plain_any q (hfr.2 t)
  ·exact .undef _
 have hρ : ∀ x ∈ o.op.operands,evalO fr x = evalO fr0 x := by
  intro x hx
  have hpx := hp x hx
  cases x with
  | tmp t =>
   show fr.getD t .undef = fr0.getD t .undef
   have hpx' : (fr.getD t .undef).plainR = true := hpx
   rw [hget,if_pos hpx']
  | _=>rfl
 rw [pureS_congr g o _ _ hρ] at h
 have key : ∀ w,∃ v,(execOp a.eval o).run P w = .ok (.value v) w ∧ rel (bareG fun _ _ _=>False) y v := fun w=>pureS_ok (fun b o v q=>q.elim) hF0 h
 obtain ⟨v,h1,h2⟩ := key default
 refine ⟨v,fun w=>?_,plain_any hy h2⟩
 obtain ⟨v',h3,h4⟩ := key w
 rw [h3,plain_det hy h4 h2]
section
variable {P : Program} {g : Pg P} {ops : Array Oper} {K : Fr → Sg → Prop} {L : Array Bool} {fr : Fr} {s : Sg}
theorem regA.pure {j : Nat} {o : Oper} {d : Tmp} (hr : ((Region.ready .any ops L).contains j,Region.free .any ops L j,Region.noSelect ops) = (true,true,true)) (ho : ops.toList[j]? = some o) (hd : o.dst = some d) (hk : pureKind P o = true) (hw : wantedS ops fr o = some true) (hp : ∀ x ∈ o.op.operands,(evalO fr x).plainR = true)
  (hdl : d < fr.length) (h : regS g false ops [o] fr s (fun fr' s'=>(fr'.getD d .undef).plainR = true ∧ regA g ops K (L.setIfInBounds j true) fr' s')) : regA g ops K L fr s := by
 intro hL f hf w0 G0 G a w Q hQ h0 hH hfr hdf
 injection hr with hr1 hr2
 injection hr2 with hr2 hr3
 have hj : j ∈ Region.ready .any ops L := by simpa using hr1
 obtain ⟨h1,o',ho',_⟩ := mem_ready.1 hj
 have hlt : j < L.size := by have := ops_lt ho'; omega
 have hun : L.getD j false = false := by
  rw [Array.getD_eq_getD_getElem?,Array.getElem?_eq_getElem hlt] at h1 ⊢
  exact h1
 have ho2 : ops[j]? = some o := by simpa using ho
 have hcnt := (cnt_set L j hlt hun ops.size).1 (by omega)
 obtain ⟨f,rfl⟩ : ∃ q,f = q + 1 := ⟨f - 1,by omega⟩
 unfold regS at h
 rw [hw] at h
 simp only [if_true] at h
 have hnc : ∀ fn args tys,o.op ≠ .call ⟨.value fn,args,tys⟩ := fun fn args tys q=>by rw [pureKind,q] at hk; cases hk
 split at h
 ·rename_i fn args tys hop; exact absurd hop (hnc fn args tys)
 ·split at h
  ·rename_i y fz hs
   obtain ⟨hps,rfl⟩ := pure_of hk hs
   unfold regS at h
   obtain ⟨hy,hA⟩ := h
   have hyp : y.plainR = true := by
    rw [hd] at hy
    simpa [putF,hdl,List.getD_eq_getElem?_getD] using hy
   obtain ⟨v,hv,hrel⟩ := yields_plain (g := g) hfr hp hps hyp
   have hY : Yields P ops o v a := .inl ⟨wanted_ok hfr hw,hv⟩
   refine wpAny_normal _ _ _ _ (wpAny_first (Q := fun e a w=>e = .normal ∧ Q .normal a w) ho2 (Region.noSelect_spec hr3) (fun c a w q=>by cases q.1) f L a w (Region.free_spec ho2 hr2) hj hY ?_)
   exact hA (by simpa using hL) f (by omega) w0 G0 G _ w _ (fun a w q=>⟨rfl,hQ a w q⟩) h0 hH (FR_put hfr hrel o.dst) (by rw [put_defers]; exact hdf)
  ·exact h.elim
end
end Go.Proofs.YtnnelopkjdgbgaaDoor
namespace Go.Proofs.YtnnelopkjdgbgaaDoor
open Go.RowKit
set_option linter.unusedVariables false
set_option linter.unusedSimpArgs false
section
variable {P : Program} {g : Pg P} {ops : Array Oper} {K : Fr → Sg → Prop} {L : Array Bool} {fr : Fr} {s : Sg}
theorem regA.firstV {j : Nat} {o : Oper} {d : Tmp} {y : V} (hr : ((Region.ready .any ops L).contains j,Region.free .any ops L j,Region.noSelect ops) = (true,true,true)) (ho : ops.toList[j]? = some o) (hw : wantedS ops fr o = some true)
  (hst : ∀ G a,FR G fr a → ∃ v,(∀ w,(execOp a.eval o).run P w = .ok (.value v) w) ∧ rel G y v) (h : regA g ops K (L.setIfInBounds j true) (putF fr o.dst y) s) : regA g ops K L fr s := by
 intro hL f hf w0 G0 G a w Q hQ h0 hH hfr hdf
 injection hr with hr1 hr2
 injection hr2 with hr2 hr3
 have hj : j ∈ Region.ready .any ops L := by simpa using hr1
 obtain ⟨h1,o',ho',_⟩ := mem_ready.1 hj
 have hlt : j < L.size := by have := ops_lt ho'; omega
 have hun : L.getD j false = false := by
  rw [Array.getD_eq_getD_getElem?,Array.getElem?_eq_getElem hlt] at h1 ⊢
  exact h1
 have ho2 : ops[j]? = some o := by simpa using ho
 have hcnt := (cnt_set L j hlt hun ops.size).1 (by omega)
 obtain ⟨f,rfl⟩ : ∃ q,f = q + 1 := ⟨f - 1,by omega⟩
 obtain ⟨v,hv,hrel⟩ := hst G a hfr
 have hY : Yields P ops o v a := .inl ⟨wanted_ok hfr hw,hv⟩
 refine wpAny_normal _ _ _ _ (wpAny_first (Q := fun e a w=>e = .normal ∧ Q .normal a w) ho2 (Region.noSelect_spec hr3) (fun c a w q=>by cases q.1) f L a w (Region.free_spec ho2 hr2) hj hY ?_)
 exact h (by simpa using hL) f (by omega) w0 G0 G _ w _ (fun a w q=>⟨rfl,hQ a w q⟩) h0 hH (FR_put hfr hrel o.dst) (by rw [put_defers]; exact hdf)
theorem regA.moveB {j : Nat} {d : Tmp} {x : Operand} {ty : TypeId} {p : String} {af : Array Edge} {gd : Option (Nat × Bool)} (hr : ((Region.ready .any ops L).contains j,Region.free .any ops L j,Region.noSelect ops) = (true,true,true)) (ho : ops.toList[j]? = some ⟨some d,.move x,ty,p,af,gd⟩) (hw : wantedS ops fr ⟨some d,.move x,ty,p,af,gd⟩ = some true)
  (h : regA g ops K (L.setIfInBounds j true) (putF fr (some d) (evalO fr x)) s) : regA g ops K L fr s :=
 regA.firstV (d := d) hr ho hw (fun G a hfr=>⟨a.eval x,fun w=>by simp [execOp],evalO_rel hfr x⟩) h
end
end Go.Proofs.YtnnelopkjdgbgaaDoor
