/-
  Srt, Sy, Svx in one text.
-/
import Derived.Test.YtjemmjpdmbenkaaGreatDoorS3
import Derived.MapKept
import Derived.Carry
import Derived.Laws.MakeOwn
import Derived.Laws.OwnMore
import Derived.Lib.AppendStr
import Derived.Lib.UnsafeStr
open Nat renaming mul_le_mul_right → zA,lt_or_ge → zB,zero_le → zE,le_refl → zJ,add_mul → zK,one_mul → zL,lt_of_lt_of_le → zM
open List renaming all_eq_true → zD,range → zG,eq_nil_of_length_eq_zero → zH,mem_range → zI,drop_eq_getElem_cons → zN,any_eq_true → zP,contains_iff_mem → zQ,getElem_of_mem → zR,cons_append → zU
open Bool renaming and_eq_true → zF,false_eq_true → zT,or_eq_true → zV
open Option renaming getD_some → zO
namespace Go.Proofs.YtjemmjpdmbenkaaGreatDoor
open Go.RowKit
def regW{P:Program}(g:Pg P)(ops:Array Oper)(l:List Oper)(fr:Fr)(s:Sg)(K:Fr→Sg→Prop):Prop :=
 ∀(w0:World) (G0 G:Cx) (a:Act) (w:World) (Q:Exit→Act→World→Prop),(∀a w,Post g w0 G0 K a w→Q .normal a w)→G0.le G→HR P w0 w G s→FR G fr a→a.defers=[]→wpList P ops Q l a w
def altR{P:Program}(_:Pg P)(o:Oper)(fr:Fr)(s:Sg)(R:V→Sg→Prop):Prop :=
 ∀(w0 w:World) (G:Cx) (a:Act),HR P w0 w G s→FR G fr a→∃nx w' y s' G',(execOp a.eval o).run P w=.ok nx w'∧((∃v,nx=.value v∧rel G' y v)∨(nx=.skip∧y=.undef))∧G.le G'∧HR P w0 w' G' s'∧R y s'
theorem mn{P:Program}{g:Pg P}{w0:World}{G0:Cx}{ops:Array Oper}{K:Fr→Sg→Prop}{Q:Exit→Act→World→Prop}(l2:List Oper)(hQ:∀a w,Post g w0 G0 K a w→wpList P ops Q l2 a w) :
  ∀(l:List Oper) (fr:Fr) (s:Sg) (G:Cx) (a:Act) (w:World),regS g false ops l fr s K→G0.le G→HR P w0 w G s→FR G fr a→a.defers=[]→wpList P ops Q (l++l2) a w
 | [],fr,s,G,a,w,h,h0,hH,hfr,hd=>hQ a w ⟨G,fr,s,h0,hH,hfr,hd,h⟩
 | o::rest,fr,s,G,a,w,h,h0,hH,hfr,hd=>by
  unfold regS at h
  rw[zU]
  unfold wpList
  cases hw:bf ops fr o with
  | none=>rw[hw]at h;exact h.elim
  | some b =>
   rw[hw]at h
   rw[du hfr hw]
   simp only at h
   cases b with
   | false =>
    rw[oc (by simp)]at h
    rw[oc (by simp)]
    exact mn l2 hQ rest _ s G _ w h h0 hH (eG hfr .skip o.dst) (by rw[bu];exact hd)
   | true =>
    rw[od rfl]at h
    rw[od rfl]
    left
    have step:(∃y f,eu g (λk=>s.obs[k]?) (λt=>s.lns[t]?) s.obs.length s.lns.length o (aR fr)=some (y,f)∧regS g false ops rest (putF fr o.dst y) (f.sg s) K)→o.wp P a w (wpList P ops Q (rest++l2)) Q:=by
     rintro⟨y,f,hs,hrest⟩
     obtain⟨nx,w',G',r1,r2,r3,r4⟩:=stepS_ok hH (by simp) (by simp) hfr hs
     have hfit:=mg hs
     rw[←sg_obs f s hfit,←sg_lns f s hfit]at r4
     unfold Oper.wp
     rw[r1]
     rcases r2 with⟨v,rfl,hv⟩|⟨rfl,rfl⟩
     ·exact mn l2 hQ rest _ _ G' _ w' hrest (h0.trans r3) r4 (eG (gf r3 hfr) hv o.dst) (by rw[bu];exact hd)
     ·exact mn l2 hQ rest _ _ G' _ w' hrest (h0.trans r3) r4 (eG (gf r3 hfr) (.undef _) o.dst) (by rw[bu];exact hd)
    split at h
    ·rename_i f args tys hop
     split at h
     ·rename_i fid xs hc
      rw[oc (by simp)]at h
      obtain⟨he,hcall⟩:=h
      obtain⟨vs,r1,r2⟩:=exec_call hfr hop hc he w
      unfold Oper.wp
      rw[r1]
      refine (hcall w0 w G vs hH r2).mono ?_
      rintro e w' ⟨v,y,s',G',rfl,q1,q2,q3,q4⟩
      exact mn l2 hQ rest _ s' G' _ w' q4 (h0.trans q1) q2 (eG (gf q1 hfr) q3 o.dst) (by rw[bu];exact hd)
     ·exact h.elim
    ·split at h
     ·rename_i y f hs
      exact step ⟨y,f,hs,h⟩
     ·exact h.elim
section
variable {P : Program} {g : Pg P} {ops : Array Oper} {fr : Fr} {s : Sg} {K : Fr → Sg → Prop}
theorem regW.of{l:List Oper}(h:regS g false ops l fr s K):regW g ops l fr s K:=by
 intro w0 G0 G a w Q hQ h0 hH hfr hd
 have:=mn (g:=g) (ops:=ops) (Q:=Q) [] (λa w q=>by exact hQ a w q) l fr s G a w h h0 hH hfr hd
 rwa [List.append_nil]at this
theorem regW.alt{l:List Oper}(n:Nat){o:Oper}(ho:l[n]? = some o)
  (h:regS g false ops (l.take n) fr s (λfr' s'=>bf ops fr' o=some true∧altR g o fr' s' (λy s''=>regW g ops (l.drop (n+1)) (putF fr' o.dst y) s'' K))):regW g ops l fr s K:=by
 intro w0 G0 G a w Q hQ h0 hH hfr hd
 have hl:l=l.take n++(o::l.drop (n+1)):=by
  have hn:=ak ho
  rw[List.getElem?_eq_getElem hn]at ho
  injection ho with ho
  rw[←ho,←zN hn,List.take_append_drop]
 rw[hl]
 refine mn (g:=g) (G0:=G0) (w0:=w0) (o::l.drop (n+1)) ?_ (l.take n) fr s G a w h h0 hH hfr hd
 rintro a w ⟨G',fr',s',q1,q2,q3,q4,hw,ha⟩
 unfold wpList
 rw[du q3 hw,od rfl]
 left
 obtain⟨nx,w',y,s'',G2,r1,r2,r3,r4,r5⟩:=ha w0 w G' a q2 q3
 unfold Oper.wp
 rw[r1]
 rcases r2 with⟨v,rfl,hv⟩|⟨rfl,rfl⟩
 ·exact r5 w0 G0 G2 _ w' Q hQ (q1.trans r3) r4 (eG (gf r3 q3) hv o.dst) (by rw[bu];exact q4)
 ·exact r5 w0 G0 G2 _ w' Q hQ (q1.trans r3) r4 (eG (gf r3 q3) (.undef _) o.dst) (by rw[bu];exact q4)
theorem SWs.regionW{id:Nat}{Q:SQ}(h:regW g ops ops.toList fr s (Q .normal)):SWs g (.region id ops false) Q fr s :=
 λ_ w0 G0 G a w h0 hH hfr hd=>wp_region_list (h w0 G0 G a w (lift g w0 G0 Q) (λ_ _ q=>q) h0 hH hfr hd)
end
variable {P:Program}{R:V→Sg→Prop}{e:TypeId}{fr:Fr}{g:Pg P}{s:Sg}
theorem kZ{d:Option Tmp}{ty:TypeId}{x:Operand}{p:String}{af:Array Edge}{gd:Option (Nat×Bool)}(ds:List D)(cs:List V)(hc:(aR fr x).cells? = some cs)(hd:dz cs=some ds)(h:R (.iptr ds 0) s):altR g ⟨d,.box e x,ty,p,af,gd⟩ fr s R:=by
  intro w0 w G a hH hfr
  have hr:=eB (aV hfr x) hc
  obtain⟨d1,d2⟩:=gN hr hd
  have hk:Kp w (w.alloc (.cells ⟨(a.eval x).cells.toList⟩ e)):=(Kp.refl w).alloc _
  refine⟨.value (.pointer (some ⟨w.heap.size,0,none⟩)),w.alloc (.cells ⟨(a.eval x).cells.toList⟩ e),.iptr ds 0,s,G.withF (ga w (w.alloc (.cells ⟨(a.eval x).cells.toList⟩ e))),?_,.inl ⟨_,rfl,?_⟩,G.le_withF _,hH.grow hk,h⟩
  · simp only[execOp,Instr.box,Sem.run_bind,Result.andThen_ok,newVar,nw,Sem.run_pure]
  · have hcell : ∀ (j : Nat) (v : Value), (a.eval x).cells.toList[j]? = some v → (w.alloc (.cells ⟨(a.eval x).cells.toList⟩ e)).cell? ⟨w.heap.size, j, none⟩ = some v := by
      intro j v hj
      rw[cell_of_row (w.alloc (.cells ⟨(a.eval x).cells.toList⟩ e)) w.heap.size j ⟨(a.eval x).cells.toList⟩ e (0,0) (heap_alloc_new w _)]
      simpa using hj
    have hg:∀j,j<ds.length→∃v,(a.eval x).cells.toList[j]? = some v:=λj hj=>⟨_,List.getElem?_eq_getElem (by rw[←d1];exact hj)⟩
    exact .iptr ds 0 w.heap.size 0 (λj=>((a.eval x).cells.toList[j]?).getD Go.undef) (λj y hj=>by
      obtain⟨v,hv⟩:=hg j (ak hj)
      rw[hv,Nat.zero_add]
      exact .inr ⟨zJ _,hcell j v hv⟩) (λj y hj=>by
      obtain⟨v,hv⟩:=hg j (ak hj)
      rw[hv]
      exact bx (λ_ _ _ q=>.inl q) (d2 j y v hj hv))
def gJ:List (Int×D)→Int→Option D
 | [],_=>none
 | (k,v)::r,n=>if n==k then some v else gJ r n
def gI:List (Int×D)→Int→D→List (Int×D)
 | [],n,v=>[(n,v)]
 | (k,u)::r,n,v=>if n==k then (k,v)::r else (k,u)::gI r n v
variable {F:Nat→Nat→Value→Prop}{ik:IntKind}{kvs:List (Int×D)}
theorem relM_cons{p:Int×D}{es:List MapEntry}(h:relM F ik (p::kvs) es):∃e r,es=e::r∧e.key=.int ik p.1∧relD F p.2 e.val∧relM F ik kvs r:=by
 cases es with
 | nil=>have:=h.1;simp at this
 | cons e r =>
  have h0:=h.2 0 p e rfl rfl
  exact⟨e,r,rfl,h0.1,h0.2,by have:=h.1;simpa using this,λi q f a b=>h.2 (i+1) q f (by simpa using a) (by simpa using b)⟩
theorem relM_cons'{p:Int×D}{e:MapEntry}{r:List MapEntry}(h1:e.key=.int ik p.1)(h2:relD F p.2 e.val)(h:relM F ik kvs r):relM F ik (p::kvs) (e::r):=by
 refine⟨by simp[h.1],λi q f a b=>?_⟩
 cases i with
 | zero=>simp at a b;subst a;subst b;exact⟨h1,h2⟩
 | succ i=>simp at a b;exact h.2 i q f a b
theorem find_rel{F:Nat→Nat→Value→Prop}{ik ik':IntKind}(n:Int):∀(kvs:List (Int×D)) (es:List MapEntry) (i:Nat),relM F ik kvs es →
  (gJ kvs n=none∧Instr.findNow (.int ik') (.int ik n) es i=some none∧∀(v:D) (e:MapEntry),e.key=.int ik n→relD F v e.val→relM F ik (gI kvs n v) (es++[e])) ∨
  (∃d j e0,gJ kvs n=some d∧Instr.findNow (.int ik') (.int ik n) es i=some (some (i+j,e0.val))∧es[j]? = some e0∧e0.key=.int ik n∧relD F d e0.val∧∀(v:D) (e:MapEntry),e.key=.int ik n→relD F v e.val→relM F ik (gI kvs n v) (es.set j e))
 | [],es,i,h=>by
  have:es=[]:=zH h.1.symm
  subst this
  exact .inl ⟨rfl,rfl,λv e h1 h2=>relM_cons' h1 h2 ⟨rfl,λi p e a=>by simp at a⟩⟩
 | (k,u)::kvs,es,i,h=>by
  obtain⟨e,r,rfl,h1,h2,h3⟩:=relM_cons h
  by_cases hk:n=k
  ·subst hk
   refine .inr ⟨u,0,e,by simp[gJ],?_,rfl,h1,h2,λv e' q1 q2=>?_⟩
   ·simp[Instr.findNow,Instr.sameNow,h1]
   ·simp only[gI,beq_self_eq_true,og,List.set_cons_zero]
    exact relM_cons' q1 q2 h3
  ·have hne:(n==k)=false:=by simp[hk]
   rcases find_rel (ik':=ik') n kvs r (i+1) h3 with⟨a1,a2,a3⟩|⟨d,j,e0,a1,a2,a3,a4,a5,a6⟩
   ·refine .inl ⟨by simp[gJ,hne,a1],?_,λv e' q1 q2=>?_⟩
    ·simp[Instr.findNow,Instr.sameNow,h1,hne,a2]
    ·simp only[gI,hne,zU]
     exact relM_cons' h1 h2 (a3 v e' q1 q2)
   ·refine .inr ⟨d,j+1,e0,by simp[gJ,hne,a1],?_,by simpa using a3,a4,a5,λv e' q1 q2=>?_⟩
    ·simp[Instr.findNow,Instr.sameNow,h1,hne,a2];omega
    ·simp only[gI,hne,List.set_cons_succ]
     exact relM_cons' h1 h2 (a6 v e' q1 q2)
variable {G:Cx}{lns:Nat→Option (TypeId×Nat)}{obs:Nat→Option (List V)}{w w0:World}
theorem HRp.newMap(h:HRp P w0 w G obs lns)(k:Nat)(hk:obs k=none)(ik:IntKind) :
  let G':Cx:={ G with mp:=upd G.mp k w.heap.size }
  G.le G'∧HRp P w0 (w.alloc (.map #[] 0)) G' (upd obs k [.mapc ik []]) lns:=by
 intro G'
 have hnone:G.mp k=none:=by
  cases hq:G.mp k with
  | none=>rfl
  | some b=>obtain⟨_,_,_,_,_,h2,_⟩:=h.mpl k b hq;rw[hk]at h2;cases h2
 have hno:G.ob k=none:=by
  cases hq:G.ob k with
  | none=>rfl
  | some b=>exact absurd hk (h.obd k b hq)
 have hle:G.le G':=by
  refine⟨rfl,λ_ _ _ q=>q,λ_ _ q=>q,λ_ L q=>⟨L,q,rfl,.inl rfl⟩,λj b q=>?_,λ_ L q=>⟨L,q,rfl,.inl rfl⟩,λ_ _ q=>q⟩
  show upd G.mp k w.heap.size j=some b
  rw[aP _ _ (λe=>by rw[e,hnone]at q;cases q)];exact q
 have hkp:Kp w (w.alloc (.map #[] 0)):=(Kp.refl w).alloc _
 have hmp:∀j b,G'.mp j=some b→(j=k∧b=w.heap.size)∨(j≠k∧G.mp j=some b):=by
  intro j b q
  have q':upd G.mp k w.heap.size j=some b:=q
  by_cases e:j=k
  ·subst e;rw[aG]at q';injection q' with q';exact .inl ⟨rfl,q'.symm⟩
  ·rw[aP _ _ e]at q';exact .inr ⟨e,q'⟩
 have hlt:∀j b,G.mp j=some b→b<w.heap.size:=λj b q=>by
  obtain⟨_,_,_,_,_,_,h3,_⟩:=h.mpl j b q;exact heap_lt' h3
 refine⟨hle,h.kp.trans hkp,?_,h.fb,?_,?_,h.obi,h.lvd,?_,h.lvi,h.gb,?_,?_,?_,h.obr,?_,h.rvi,λb t q=>tk_kp hkp _ _ (h.tgs b t q)⟩
 ·intro b o v q
  have:=h.fs b o v q
  exact⟨zM this.1 hkp.size,(hkp.see.1 b o this.1).trans this.2⟩
 ·intro j b q
  by_cases e:j=k
  ·rw[e,aG];simp
  ·rw[aP _ _ e];exact h.obd j b q
 ·intro j cs' q hm hrv
  have e:j≠k:=λe=>by
   have:upd G.mp k w.heap.size j=none:=hm
   rw[e,aG]at this;cases this
  rw[aP _ _ e]at q
  have hm':G.mp j=none:=by
   have:upd G.mp k w.heap.size j=none:=hm
   rwa [aP _ _ e]at this
  obtain⟨b,vs',t',h1,h2,h3,h4,h5⟩:=h.obl j cs' q hm' hrv
  exact⟨b,vs',t',h1,h2,(hkp.below.block b (heap_lt' h3)).trans h3,dx hle h4,h5⟩
 ·intro t' e n q
  obtain⟨v,xs,h1,h2,h3⟩:=h.lvl t' e n q
  exact⟨v,xs,h1,holds_kp h2 hkp,h3⟩
 ·intro j b q
  have e:j≠k:=λe=>by rw[e,hno]at q;cases q
  show upd G.mp k w.heap.size j=none
  rw[aP _ _ e];exact h.obm j b q
 ·intro j b q
  rcases hmp j b q with⟨rfl,rfl⟩|⟨e,q⟩
  ·exact⟨h.kp.size,[],0,ik,[],aG _ _ _,(MapKept.heap_alloc w _).1,rfl,λi p e a=>by simp at a⟩
  ·obtain⟨h1,es,n,ik',kvs,h2,h3,h4⟩:=h.mpl j b q
   exact⟨h1,es,n,ik',kvs,by rw[aP _ _ e];exact h2,(hkp.below.block b (heap_lt' h3)).trans h3,h4⟩
 ·intro j j' b q q'
  rcases hmp j b q with⟨e1,e2⟩|⟨e1,q1⟩<;>rcases hmp j' b q' with⟨e3,e4⟩|⟨e3,q2⟩
  ·rw[e1,e3]
  ·exact absurd (hlt _ _ q2) (by omega)
  ·exact absurd (hlt _ _ q1) (by omega)
  ·exact h.mpi j j' b q1 q2
 ·intro j L q
  obtain⟨e,es,xs,h1,h2,h3,h4,h5,h6⟩:=h.rvl j L q
  have hj:j≠k:=λe=>by rw[e]at h1;rw[hk]at h1;cases h1
  exact⟨e,es,xs,by rw[aP _ _ hj];exact h1,h2,h3,own_kp h4 hkp,h5,h6⟩
variable {k:Nat}
theorem HRp.putMap(h:HRp P w0 w G obs lns){b:Nat}(hk:G.mp k=some b){es:List MapEntry}{n:Nat}(hr:relM G.F ik kvs es) :
  HRp P w0 { w with heap:=w.heap.setIfInBounds b (.map ⟨es⟩ n) } G (upd obs k [.mapc ik kvs]) lns:=by
 obtain⟨g1,es0,n0,ik0,kvs0,g2,g3,g4⟩:=h.mpl k b hk
 obtain⟨s1,s2⟩:=MapKept.heap_set (o':=.map ⟨es⟩ n) g3
 have hg:w.grownBy { w with heap:=w.heap.setIfInBounds b (.map ⟨es⟩ n) } (some b):=⟨rfl,rfl,rfl,by simp,λj _ hj=>s2 j (λe=>hj (by rw[e]))⟩
 have hcell:∀b' o,b'≠b→({ w with heap:=w.heap.setIfInBounds b (.map ⟨es⟩ n) }:World).cell? ⟨b',o,none⟩=w.cell? ⟨b',o,none⟩:=λb' o hne=>World.cell?_of_block (a:=⟨b',o,none⟩) (s2 b' hne)
 have hnF:∀o v,¬G.F b o v:=λo v q=>by
  have:=(h.fs b o v q).2
  simp[World.cell?,g3]at this
 refine⟨h.kp.grown hg (λj hj=>by injection hj with hj;subst hj;exact g1),?_,h.fb,?_,?_,h.obi,h.lvd,?_,h.lvi,h.gb,h.obm,?_,h.mpi,h.obr,?_,h.rvi,λb' t q=>tk_grown hg (λt' q'=>by unfold tagOf at q';rw[g3]at q';cases q') _ _ (h.tgs b' t q)⟩
 ·intro b' o v q
  have q1:=h.fs b' o v q
  have hne:b'≠b:=λe=>by subst e;exact hnF o v q
  exact⟨by simpa using q1.1,(hcell b' o hne).trans q1.2⟩
 ·intro j b' q
  have e:j≠k:=λe=>by rw[e]at q;rw[h.obm k b' q]at hk;cases hk
  rw[aP _ _ e];exact h.obd j b' q
 ·intro j cs' q hm hrv
  have e:j≠k:=λe=>by rw[e,hk]at hm;cases hm
  rw[aP _ _ e]at q
  obtain⟨b',vs',t',h1,h2,h3,h4,h5⟩:=h.obl j cs' q hm hrv
  have hne:b'≠b:=λe=>by rw[e,g3]at h3;cases h3
  exact⟨b',vs',t',h1,h2,(s2 b' hne).trans h3,h4,h5⟩
 ·intro t' e n q
  obtain⟨v,xs,h1,h2,h3⟩:=h.lvl t' e n q
  refine⟨v,xs,h1,ko h2 hg (.inr λhv=>?_),h3⟩
  have h2:w.ownsRow w0.heap.size e (P.cellsOf e) v n xs:=h2.resolve_left (by rintro rfl;cases hv)
  rcases h2.2 with⟨rfl,_⟩|⟨g',cap',cur,rfl,_,hgc,_⟩
  ·cases hv
  ·have:g'=b:=by injection hv
   subst this
   rw[hgc]at g3;cases g3
 ·intro j b' q
  by_cases e:j=k
  ·subst e
   rw[hk]at q;injection q with q;subst q
   exact⟨g1,es,n,ik,kvs,aG _ _ _,s1,hr⟩
  ·obtain⟨h1,es',n',ik',kvs',h2,h3,h4⟩:=h.mpl j b' q
   have hne:b'≠b:=λe'=>e (h.mpi j k b (e'▸q) hk)
   exact⟨h1,es',n',ik',kvs',by rw[aP _ _ e];exact h2,(s2 b' hne).trans h3,h4⟩
 ·intro j L q
  obtain⟨e,es',xs,h1,h2,h3,h4,h5,h6⟩:=h.rvl j L q
  have hj:j≠k:=λe=>by rw[e,g2]at h1;cases h1
  refine⟨e,es',xs,by rw[aP _ _ hj];exact h1,h2,h3,h4.kept hg (.inr λhv=>?_),h5,h6⟩
  rcases h4.2 with⟨hz,_⟩|⟨g',cap',cur,hz,_,hgc,_⟩
  ·rw[hz]at hv;cases hv
  ·rw[hz]at hv
   have:g'=b:=by injection hv
   subst this
   rw[hgc]at g3;cases g3
def mapT(P:Program)(t:TypeId):Option (IntKind×TypeId):=match P.underlying t with
 | some (.map kt et)=>(match P.underlying kt with | some (.int k)=>some (k,et) | _=>none)
 | _=>none
theorem mapT_ok{t et:TypeId}{k:IntKind}(h:mapT P t=some (k,et)):∃kt,P.underlying t=some (.map kt et)∧P.underlying kt=some (.int k):=by
 unfold mapT at h
 split at h
 ·rename_i kt et' h1
  split at h
  ·rename_i k' h2
   injection h with h;injection h with e1 e2;subst e1;subst e2
   exact⟨kt,h1,h2⟩
  ·cases h
 ·cases h
section
variable {P : Program} {g : Pg P} {d : Option Tmp} {t ty : TypeId} {p : String} {af : Array Edge} {gd : Option (Nat × Bool)} {fr : Fr} {s : Sg} {R : V → Sg → Prop}
theorem sg_push(s:Sg)(c:List V):upd (λk=>s.obs[k]?) s.obs.length c=λk=>(s.obs++[c])[k]?:=by
 funext j
 by_cases e:j=s.obs.length
 ·rw[e,aG];simp
 ·rw[aP _ _ e,List.getElem?_append]
  split
  ·rfl
  ·rename_i q
   rw[List.getElem?_eq_none (by omega),List.getElem?_eq_none (by simp;omega)]
theorem sg_set{s:Sg}{k:Nat}{c0 c:List V}(h:s.obs[k]? = some c0):upd (λk=>s.obs[k]?) k c=λj=>(s.obs.set k c)[j]?:=by
 funext j
 have hk:=ak h
 by_cases e:j=k
 ·subst e;rw[aG];simp[hk]
 ·rw[aP _ _ e,List.getElem?_set_ne (λy=>e y.symm)]
theorem d6(ik:IntKind)(h:R (.mp s.obs.length) ⟨s.obs++[[.mapc ik []]],s.lns⟩):altR g ⟨d,.makeMap t none,ty,p,af,gd⟩ fr s R:=by
 intro w0 w G a hH hfr
 obtain⟨hle,hN⟩:=HRp.newMap hH s.obs.length (by simp) ik
 rw[sg_push]at hN
 have hN':HR P w0 (w.alloc (.map #[] 0)) { G with mp:=upd G.mp s.obs.length w.heap.size } ⟨s.obs++[[.mapc ik []]],s.lns⟩:=hN
 refine⟨.value (.map (some w.heap.size)),w.alloc (.map #[] 0),.mp s.obs.length,⟨s.obs++[[.mapc ik []]],s.lns⟩,_,?_,.inl ⟨_,rfl,.mp _ _ (aG _ _ _)⟩,hle,hN',h⟩
 simp only[execOp,Option.map_none,Sem.run_bind,run_makeMap,Result.andThen_ok,Sem.run_pure]
theorem inv_mp{G:Cx}{k:Nat}{v:Value}(r:rel G (.mp k) v):∃b,G.mp k=some b∧v=.map (some b):=by cases r with | mp _ b h=>exact⟨b,h,rfl⟩
theorem bv{x i:Operand}{k:Nat}{ik:IntKind}{kvs:List (Int×D)}{n:Int}{et:TypeId}{z:V}{zd:D}(hx:aR fr x=.mp k)(ho:s.obs[k]? = some [.mapc ik kvs])(hi:aR fr i=.d (.int ik n))(ht:mapT P t=some (ik,et))(hz:cg P et=some z)(hzd:z.data? = some zd)
  (h:R (.d ((gJ kvs n).getD zd)) s):altR g ⟨d,.lookup t x i false,ty,p,af,gd⟩ fr s R:=by
 intro w0 w G a hH hfr
 obtain⟨b,hb,hv⟩:=inv_mp (hx▸aV hfr x)
 have hiv:=fE (hi▸aV hfr i)
 obtain⟨_,es,c,ik',kvs',h2,h3,h4⟩:=hH.mpl k b hb
 have h2':s.obs[k]? = some [.mapc ik' kvs']:=h2
 rw[ho]at h2';injection h2' with h2';injection h2' with h2' _;injection h2' with e1 e2;subst e1;subst e2
 obtain⟨kt,t1,t2⟩:=mapT_ok ht
 obtain⟨zv,z1,z2,_⟩:=kw hz G w
 have hkey:MapKept.IsKey (.int ik) (.int ik n):=by simp[MapKept.IsKey]
 rcases find_rel (ik':=ik) n kvs es 0 h4 with⟨a1,a2,a3⟩|⟨dd,j,e0,a1,a2,a3,a4,a5,a6⟩
 ·refine⟨.value zv,w,.d ((gJ kvs n).getD zd),s,G,?_,.inl ⟨_,rfl,?_⟩,Cx.le.refl G,hH,h⟩
  ·simp[execOp,hv,hiv,Instr.lookup,run_underlying t1,MapKept.run_getObj_map h3,MapKept.run_checkKey t2 hkey,MapKept.run_findKey t2 a2,z1]
  ·rw[a1];exact .d (mJ z2 hzd)
 ·refine⟨.value e0.val,w,.d ((gJ kvs n).getD zd),s,G,?_,.inl ⟨_,rfl,?_⟩,Cx.le.refl G,hH,h⟩
  ·simp[execOp,hv,hiv,Instr.lookup,run_underlying t1,MapKept.run_getObj_map h3,MapKept.run_checkKey t2 hkey,MapKept.run_findKey t2 a2]
  ·rw[a1];exact .d a5
theorem cd{x i v:Operand}{k:Nat}{ik:IntKind}{kvs:List (Int×D)}{n:Int}{et:TypeId}{vd:D}(hx:aR fr x=.mp k)(ho:s.obs[k]? = some [.mapc ik kvs])(hi:aR fr i=.d (.int ik n))(hv:(aR fr v).data? = some vd)(ht:mapT P t=some (ik,et))
  (h:R .undef ⟨s.obs.set k [.mapc ik (gI kvs n vd)],s.lns⟩):altR g ⟨d,.mapUpdate t x i v,ty,p,af,gd⟩ fr s R:=by
 intro w0 w G a hH hfr
 obtain⟨b,hb,hxv⟩:=inv_mp (hx▸aV hfr x)
 have hiv:=fE (hi▸aV hfr i)
 have hvr:=mJ (aV hfr v) hv
 obtain⟨_,es,c,ik',kvs',h2,h3,h4⟩:=hH.mpl k b hb
 have h2':s.obs[k]? = some [.mapc ik' kvs']:=h2
 rw[ho]at h2';injection h2' with h2';injection h2' with h2' _;injection h2' with e1 e2;subst e1;subst e2
 obtain⟨kt,t1,t2⟩:=mapT_ok ht
 have hkey:MapKept.IsKey (.int ik) (.int ik n):=by simp[MapKept.IsKey]
 rcases find_rel (ik':=ik) n kvs es 0 h4 with⟨a1,a2,a3⟩|⟨dd,j,e0,a1,a2,a3,a4,a5,a6⟩
 ·have hP:=HRp.putMap hH hb (n:=c+1) (a3 vd ⟨.int ik n,a.eval v,c⟩ rfl hvr)
  rw[sg_set ho]at hP
  refine⟨.skip,_,.undef,⟨s.obs.set k [.mapc ik (gI kvs n vd)],s.lns⟩,G,?_,.inr ⟨rfl,rfl⟩,Cx.le.refl G,hP,h⟩
  simp[execOp,hxv,hiv,Instr.mapUpdate,run_underlying t1,MapKept.run_getObj_map h3,MapKept.run_checkKey t2 hkey,MapKept.run_findKey t2 a2,MapKept.run_setObj_map _ h3]
 ·have hj:=ak a3
  have hP:=HRp.putMap hH hb (n:=c) (a6 vd { e0 with key:=.int ik n,val:=a.eval v } rfl hvr)
  rw[sg_set ho]at hP
  refine⟨.skip,_,.undef,⟨s.obs.set k [.mapc ik (gI kvs n vd)],s.lns⟩,G,?_,.inr ⟨rfl,rfl⟩,Cx.le.refl G,hP,h⟩
  have hmod:es.modify j (λe=>{ key:=.int ik n,val:=a.eval v,born:=e.born })=es.set j { key:=.int ik n,val:=a.eval v,born:=e0.born }:=by
   have he:es[j]=e0:=by rw[List.getElem?_eq_getElem hj]at a3;injection a3
   rw[List.modify_eq_set]
   simp[hj,he]
  simp[execOp,hxv,hiv,Instr.mapUpdate,run_underlying t1,MapKept.run_getObj_map h3,MapKept.run_checkKey t2 hkey,MapKept.run_findKey t2 a2,a3,a4,MapKept.run_keyThatStays hkey,MapKept.run_setObj_map _ h3,hmod]
end
def D.scal(x:D):Bool:=x.kind?.isSome
variable {v:Value}
theorem scal_any{F':Nat→Nat→Value→Prop}{x:D}(h:x.scal=true)(r:relD F x v):relD F' x v:=by
 cases r with
 | int k n=>exact .int k n
 | bool b=>exact .bool b
 | str s=>exact .str s
 | nil A c=>simp[D.scal,D.kind?]at h
 | list es b off c sz u hne hcap hsz hF hr=>simp[D.scal,D.kind?]at h
 | other v h1=>exact .other v h1
def scalE(es:List (List D)):Bool:=es.all λe=>e.all D.scal
variable {es:List (List D)}{i j:Nat}
theorem scalE_at(h:scalE es=true){e:List D}{x:D}(he:es[i]? = some e)(hx:e[j]? = some x):x.scal=true:=by
 have h1:=List.all_eq_true.1 h e (List.mem_of_getElem? he)
 exact List.all_eq_true.1 h1 x (List.mem_of_getElem? hx)
variable {w':World}{xs:List Value}
theorem HRp.newRow(h:HRp P w0 w G obs lns)(hk:Kp w w')(k:Nat)(hko:obs k=none)
  (ho:w'.ownsRow w.heap.size e (P.cellsOf e) v es.length xs) (hr:iP G.F (P.cellsOf e) es xs) :
  let G':Cx:={ G with rv:=upd G.rv k ⟨0,P.cellsOf e,v⟩ }
  G.le G'∧HRp P w0 w' G' (upd obs k [.rowc e 0 es]) lns:=by
 intro G'
 have h':=h.kept hk
 have hnone:G.rv k=none:=by
  cases hq:G.rv k with
  | none=>rfl
  | some L=>obtain⟨_,_,_,h1,_⟩:=h.rvl k L hq;rw[hko]at h1;cases h1
 have hno:G.ob k=none:=by
  cases hq:G.ob k with
  | none=>rfl
  | some b=>exact absurd hko (h.obd k b hq)
 have hle:G.le G':=by
  refine⟨rfl,λ_ _ _ q=>q,λ_ _ q=>q,λ_ L q=>⟨L,q,rfl,.inl rfl⟩,λ_ _ q=>q,λj L q=>⟨L,?_,rfl,.inl rfl⟩,λ_ _ q=>q⟩
  show upd G.rv k _ j=some L
  rw[aP _ _ (λe=>by rw[e,hnone]at q;cases q)];exact q
 have hrv:∀j L,G'.rv j=some L→(j=k∧L=⟨0,P.cellsOf e,v⟩)∨(j≠k∧G.rv j=some L):=by
  intro j L q
  have q':upd G.rv k ⟨0,P.cellsOf e,v⟩ j=some L:=q
  by_cases e:j=k
  ·subst e;rw[aG]at q';injection q' with q';exact .inl ⟨rfl,q'.symm⟩
  ·rw[aP _ _ e]at q';exact .inr ⟨e,q'⟩
 have hnew:∀b,v.ownBlock=some b→w.heap.size≤b:=λb hb=>(ho.lt b hb).1
 have hobl:∀j b,G.ob j=some b→b<w.heap.size:=by
  intro j b q
  cases hq:obs j with
  | none=>exact absurd hq (h.obd j b q)
  | some cs =>
   obtain⟨b',_,_,h1,_,h3,_⟩:=h.obl j cs hq (h.obm j b q) (h.obr j b q)
   rw[q]at h1;injection h1 with h1;subst h1
   exact heap_lt' h3
 have hlvl:∀t L b,G.lv t=some L→L.v.ownBlock=some b→b<w.heap.size:=by
  intro t L b q hb
  cases hq:lns t with
  | none=>exact absurd hq (h.lvd t L q)
  | some en =>
   obtain⟨v',xs',h1,h2,_⟩:=h.lvl t en.1 en.2 hq
   rw[q]at h1;injection h1 with h1;subst h1
   exact (iq h2 b hb).2
 refine⟨hle,h'.kp,h'.fs,h'.fb,?_,?_,h'.obi,h'.lvd,h'.lvl,h'.lvi,h'.gb,h'.obm,?_,h'.mpi,?_,?_,?_,h'.tgs⟩
 ·intro j b q
  by_cases e:j=k
  ·rw[e,aG];simp
  ·rw[aP _ _ e];exact h.obd j b q
 ·intro j cs' q hm hq
  have e:j≠k:=λe=>by
   have:upd G.rv k ⟨0,P.cellsOf _,v⟩ j=none:=hq
   rw[e,aG]at this;cases this
  rw[aP _ _ e]at q
  have hq':G.rv j=none:=by
   have:upd G.rv k ⟨0,P.cellsOf _,v⟩ j=none:=hq
   rwa [aP _ _ e]at this
  obtain⟨b,vs',t',h1,h2,h3,h4,h5⟩:=h'.obl j cs' q hm hq'
  exact⟨b,vs',t',h1,h2,h3,dx hle h4,h5⟩
 ·intro j b q
  obtain⟨h1,es',n,ik,kvs,h2,h3,h4⟩:=h'.mpl j b q
  have hj:j≠k:=λe=>by rw[e]at h2;rw[hko]at h2;cases h2
  exact⟨h1,es',n,ik,kvs,by rw[aP _ _ hj];exact h2,h3,h4⟩
 ·intro j b q
  have e:j≠k:=λe=>by rw[e,hno]at q;cases q
  show upd G.rv k _ j=none
  rw[aP _ _ e];exact h.obr j b q
 ·intro j L q
  rcases hrv j L q with⟨rfl,rfl⟩|⟨e',q⟩
  ·refine⟨e,es,xs,aG _ _ _,rfl,trivial,own_mono ho h.kp.size,hr,λb hb=>⟨λj' q'=>?_,λo u q'=>?_,λt L' q' hb'=>?_⟩⟩
   ·have:=hobl j' b q';have:=hnew b hb;omega
   ·have:=(h.fs b o u q').1;have:=hnew b hb;omega
   ·have:=hlvl t L' b q' hb';have:=hnew b hb;omega
  ·obtain⟨e2,es2,xs2,h1,h2,h3,h4,h5,h6⟩:=h'.rvl j L q
   exact⟨e2,es2,xs2,by rw[aP _ _ e'];exact h1,h2,h3,h4,h5,h6⟩
 ·intro j j' L L' b q q' h1 h2
  rcases hrv j L q with⟨e1,r1⟩|⟨e1,q1⟩<;>rcases hrv j' L' q' with⟨e2,r2⟩|⟨e2,q2⟩
  ·rw[e1,e2]
  ·subst r1
   obtain⟨_,_,_,_,_,_,h4,_⟩:=h.rvl j' L' q2
   have:=(h4.lt b h2).2;have:=hnew b h1;omega
  ·subst r2
   obtain⟨_,_,_,_,_,_,h4,_⟩:=h.rvl j L q1
   have:=(h4.lt b h1).2;have:=hnew b h2;omega
  ·exact h.rvi j j' L L' b q1 q2 h1 h2
def SpecX{P:Program}(_:Pg P)(f:FuncId)(args:List V)(e:TypeId)(es:List (List D))(r2:List V):Prop :=
 bG P f=true∧∀(w:World) (F:Nat→Nat→Value→Prop) (vs:List Value),(∀b o v,F b o v→b<w.heap.size∧w.cell? ⟨b,o,none⟩=some v)→jj w F→rels (gc F) args vs →
  Calls P f ⟨vs⟩ w λen w'=>∃v us xs,en=.returned (.tuple ⟨v::us⟩)∧Kp w w'∧w'.ownsRow w.heap.size e (P.cellsOf e) v es.length xs∧(∀F',iP F' (P.cellsOf e) es xs)∧∀G,rels G r2 us
variable {args args':List V}{f:FuncId}{r2:List V}
theorem SpecX.toS(h:SpecX g f args' e es r2)(ha:args.map V.clean=args')(hR:R (.tuple (.gr s.obs.length 0::r2)) ⟨s.obs++[[.rowc e 0 es]],s.lns⟩):aY g f args s R:=by
 subst ha
 refine⟨h.1,λw0 w G vs hH hr=>?_⟩
 refine (h.2 w G.F vs hH.fs (hH.gb.kp hH.kp) ?_).mono ?_
 ·refine⟨by simp[hr.1],λi x v h1 h2=>?_⟩
  rw[List.getElem?_map]at h1
  cases hq:args[i]? with
  | none=>rw[hq]at h1;cases h1
  | some y=>rw[hq]at h1;simp at h1;subst h1;exact fI (hr.2 i y v hq h2) G.F (λ_ _ _ q=>q)
 ·rintro en w' ⟨v,us,xs,rfl,hk,ho,hx,hu⟩
  obtain⟨hle,hN⟩:=HRp.newRow hH hk s.obs.length (by simp) ho (hx G.F)
  rw[sg_push]at hN
  have hN':HR P w0 w' { G with rv:=upd G.rv s.obs.length ⟨0,P.cellsOf e,v⟩ } ⟨s.obs++[[.rowc e 0 es]],s.lns⟩:=hN
  have hone:v.oneCell'=true:=by
   obtain⟨A,c,hv⟩:=fD ho
   rw[hv];rfl
  refine⟨_,_,⟨s.obs++[[.rowc e 0 es]],s.lns⟩,_,rfl,hle,hN',.tuple _ _ ?_ ?_,hR⟩
  ·have:=(hu G).1;simp[this]
  ·have h1:rels { G with rv:=upd G.rv s.obs.length ⟨0,P.cellsOf e,v⟩ } (.gr s.obs.length 0::r2) (v::us) :=
    ey (.gr _ _ _ hone _ (aG _ _ _) (.inl ⟨rfl,rfl⟩)) (hu _)
   exact h1.2
def V.plainR:V→Bool
 | .d x=>x.scal
 | .agg cs=>cs.all λ| .d x=>x.scal | _=>false
 | _=>false
theorem kh{G':Cx}{x:V}(h:x.plainR=true)(r:rel G x v):rel G' x v:=by
 cases r with
 | d q=>exact .d (scal_any h q)
 | agg cs vs hl hr =>
  simp only[V.plainR,zD]at h
  refine .agg cs vs hl λi y u h1 h2=>?_
  have hy:=h y (List.mem_of_getElem? h1)
  have r:=hr i y u h1 h2
  cases r with
  | d q=>exact .d (scal_any hy q)
  | _=>simp at hy
 | _=>simp[V.plainR]at h
def XRes(s:Sg)(y:V)(e:TypeId)(es:List (List D))(r2:List V):Prop:=match y with
 | .tuple (.own t es'::ys)=>es'=es∧ys=r2∧s.lns[t]? = some (e,es.length)
 | .tuple (.nil::ys)=>es=[]∧ys=r2
 | _=>False
theorem specX_by{fn:Func}{c:Code}(hf:P.funcs[f]? = some fn)(hb:fn.body=some c)(he:bG P f=true)(hdr:bP c=true)(hes:scalE es=true)(hsz:es.all (·.length==P.cellsOf e)=true)(h2:r2.all V.plainR=true)
  (h:SWs g c (retQ g fn.results.toList (λy s'=>XRes s' y e es r2)) (args++List.replicate (fn.ntmps-args.length) .undef) ⟨[],[]⟩):SpecX g f args e es r2:=by
 refine⟨he,λw F vs hF hgl hr=>?_⟩
 have hs:=specS_by hf hb he hdr h
 have hH:HR P w w (gc F) ⟨[],[]⟩:=by
  refine⟨Kp.refl w,hF,λb o v q=>.inl q,?_,?_,?_,?_,?_,?_,hgl,λk b q=>(by cases q),λk b q=>(by cases q),λk k' b q=>(by cases q),λk b q=>(by cases q),λk L q=>(by cases q),λk k' L L' b q=>(by cases q),λb t q=>(by cases q)⟩
  ·intro k b q;cases q
  ·intro k cs q;simp at q
  ·intro k k' b q;cases q
  ·intro t L q;cases q
  ·intro t e n q;simp at q
  ·intro t t' L L' b q;cases q
 refine (hs.2 w w (gc F) vs hH hr).mono ?_
 rintro en w' ⟨v,y,s',G',rfl,q1,q2,q3,q4⟩
 have hpl:∀us,rels G' r2 us→∀G,rels G r2 us:=λus hu G=>⟨hu.1,λi x v h1 h3=>kh (List.all_eq_true.1 h2 x (List.mem_of_getElem? h1)) (hu.2 i x v h1 h3)⟩
 unfold XRes at q4
 split at q4
 ·rename_i t es' ys
  obtain⟨rfl,rfl,hl⟩:=q4
  cases q3 with
  | tuple _ vs' hl' hr' =>
   cases vs' with
   | nil=>simp at hl'
   | cons v0 us =>
    obtain⟨r0,r1⟩:=aW (⟨hl',hr'⟩:rels G' (.own t es'::ys) (v0::us))
    obtain⟨vv,xs,g1,g2,g3⟩:=q2.lvl t e es'.length hl
    cases r0 with
    | own _ _ _ q L hL hszL hlast =>
     rw[g1]at hL;injection hL with hL;subst hL
     simp only at hszL hlast
     have hv:v0=vv:=by rcases hlast with q | q;exact q.2;omega
     subst hv
     have g2:=g2.resolve_left (by rintro rfl;cases q)
     refine⟨v0,us,xs,rfl,q2.kp,g2,λF'=>⟨hszL,λi j c x hc hx=>?_⟩,hpl us r1⟩
     obtain⟨u,u1,u2⟩:=own_xs (λb o v q=>(q2.fs b o v q).2) q g2 hszL i j c x hc hx
     exact⟨u,u1,scal_any (scalE_at hes hc hx) u2⟩
 ·rename_i ys
  obtain⟨rfl,rfl⟩:=q4
  cases q3 with
  | tuple _ vs' hl' hr' =>
   cases vs' with
   | nil=>simp at hl'
   | cons v0 us =>
    obtain⟨r0,r1⟩:=aW (⟨hl',hr'⟩:rels G' (.nil::ys) (v0::us))
    cases r0
    exact⟨_,us,[],rfl,q2.kp,World.ownsRow_nil _ _ _ _,λF'=>⟨λi e h=>by simp at h,λi j e x h=>by simp at h⟩,hpl us r1⟩
 ·exact q4.elim
section
variable {P : Program} {g : Pg P} {d : Option Tmp} {t ty : TypeId} {p : String} {af : Array Edge} {gd : Option (Nat × Bool)} {fr : Fr} {s : Sg} {R : V → Sg → Prop}
theorem inv_gr{w0 w:World}{G:Cx}{k n:Nat}{v:Value}{e:TypeId}{es:List (List D)}(hH:HR P w0 w G s)(r:rel G (.gr k n) v)(ho:s.obs[k]? = some [.rowc e n es]) :
  ∃L xs,G.rv k=some L∧v=L.v∧L.n=n∧L.sz=P.cellsOf e∧w.ownsRow w0.heap.size e L.sz v es.length xs∧iP G.F L.sz es xs:=by
 cases r with
 | gr _ _ _ h1 L hL hl =>
  obtain⟨e',es',xs,a1,a2,a3,a4,a5,a6⟩:=hH.rvl k L hL
  have a1':s.obs[k]? = some [.rowc e' L.n es']:=a1
  rw[ho]at a1';injection a1' with a1';injection a1' with a1' _;injection a1' with e1 e2 e3;subst e1;subst e3
  have hv:v=L.v:=by rcases hl with q | q;exact q.2;omega
  refine⟨L,xs,hL,hv,e2.symm,a2,?_,a5⟩
  rw[hv];exact a4
theorem alt_lenR{x:Operand}{k n:Nat}{e e':TypeId}{es:List (List D)}(hx:aR fr x=.gr k n)(ho:s.obs[k]? = some [.rowc e n es])(ht:P.underlying t=some (.slice e'))(h:R (.d (.int .i64 (es.length:Int))) s):altR g ⟨d,.call ⟨.builtin .len,#[x],#[t]⟩,ty,p,af,gd⟩ fr s R:=by
 intro w0 w G a hH hfr
 obtain⟨L,xs,_,_,_,_,a4,_⟩:=inv_gr hH (hx▸aV hfr x) ho
 obtain⟨A,c,hv⟩:=fD a4
 refine⟨.value (.int .i64 es.length),w,_,s,G,?_,.inl ⟨_,rfl,.d (.int _ _)⟩,Cx.le.refl G,hH,h⟩
 simp[execOp,resolve,invoke,builtin,Builtin.len_,hv,run_underlying ht]
 rfl
theorem bJ{x i:Operand}{k n:Nat}{e:TypeId}{es:List (List D)}{ki:IntKind}{m:Int}{sz:Nat}(hx:aR fr x=.gr k n)(ho:s.obs[k]? = some [.rowc e n es])(hi:aR fr i=.d (.int ki m))(ht:P.underlying t=some (.slice e))(hs:bh P e=some sz)(h0:0≤m)(hm:m<(es.length:Int))(h:R (.gp k n m.toNat 0) s):altR g ⟨d,.indexAddr t x i,ty,p,af,gd⟩ fr s R:=by
 intro w0 w G a hH hfr
 obtain⟨L,xs,a1,a2,a3,a4,a5,_⟩:=inv_gr hH (hx▸aV hfr x) ho
 have hiv:=fE (hi▸aV hfr i)
 obtain⟨b,cap,hv,_⟩:=a5.form (by omega)
 have hsz:L.sz=sz:=by
  rw[a4];simp only[bh,Option.map_eq_some_iff]at hs
  obtain⟨i,h1,h2⟩:=hs
  simp[Program.cellsOf,h1,h2]
 refine⟨.value (.pointer (some ⟨b,m.toNat*sz,none⟩)),w,_,s,G,?_,.inl ⟨_,rfl,.gp k n m.toNat 0 _ rfl L a1 (.inl ⟨a3.symm,b,?_,?_⟩)⟩,Cx.le.refl G,hH,h⟩
 ·simp[execOp,hv,hiv,Instr.indexAt,asIntOf,run_underlying ht,h0,hm,bB hs,Addr.add_lit]
 ·rw[←a2,hv];rfl
 ·rw[hsz];rfl
theorem inv_gp{w0 w:World}{G:Cx}{k n i off:Nat}{v:Value}{e:TypeId}{es:List (List D)}(hH:HR P w0 w G s)(r:rel G (.gp k n i off) v)(ho:s.obs[k]? = some [.rowc e n es]) :
  ∃L xs b,G.rv k=some L∧L.n=n∧L.sz=P.cellsOf e∧L.v.ownBlock=some b∧v=.pointer (some ⟨b,i*L.sz+off,none⟩)∧w.ownsRow w0.heap.size e L.sz L.v es.length xs∧iP G.F L.sz es xs:=by
 cases r with
 | gp _ _ _ _ _ h1 L hL hl =>
  obtain⟨e',es',xs,a1,a2,a3,a4,a5,a6⟩:=hH.rvl k L hL
  have a1':s.obs[k]? = some [.rowc e' L.n es']:=a1
  rw[ho]at a1';injection a1' with a1';injection a1' with a1' _;injection a1' with e1 e2 e3;subst e1;subst e3
  rcases hl with⟨q1,b,q2,q3⟩ | q
  ·exact⟨L,xs,b,hL,q1.symm,a2,q2,q3,a4,a5⟩
  ·omega
theorem alt_fieldR{x:Operand}{k n i off f fo:Nat}{fty:TypeId}{m:Nat}{e:TypeId}{es:List (List D)}(hx:aR fr x=.gp k n i off)(ho:s.obs[k]? = some [.rowc e n es])(hf:aM P t f=some (fo,fty))(hs:bh P fty=some m)(hm:m≠0)(h:R (.gp k n i (off+fo)) s):altR g ⟨d,.fieldAddr t x f,ty,p,af,gd⟩ fr s R:=by
 intro w0 w G a hH hfr
 obtain⟨L,xs,b,a1,a3,a4,a5,a6,a7,_⟩:=inv_gp hH (hx▸aV hfr x) ho
 obtain⟨fs,fd,hu,hfd,h1,h2⟩:=mG hf
 subst h1;subst h2
 refine⟨.value (.pointer (some ⟨b,i*L.sz+off+fd.offset,none⟩)),w,_,s,G,?_,.inl ⟨_,rfl,.gp k n i (off+fd.offset) _ rfl L a1 (.inl ⟨a3.symm,b,a5,by rw[Nat.add_assoc]⟩)⟩,Cx.le.refl G,hH,h⟩
 simp[execOp,a6,Instr.fieldAt,run_underlying hu,hfd,Instr.sureAddr,fieldPlace,bB hs,hm,Addr.add_lit]
theorem own_at{w0 w:World}{e:TypeId}{sz n b:Nat}{v:Value}{xs:List Value}(h:w.ownsRow w0.heap.size e sz v n xs)(hb:v.ownBlock=some b):∃cap cur,v=.slice (some ⟨b,0,none⟩) n cap∧w0.heap.size≤b∧w.heap[b]? = some (.cells cur e (0,0))∧n≤cap∧cap≤maxLen∧cur.size=cap*sz∧cur.toList.take (n*sz)=xs:=by
 rcases h.2 with⟨rfl,_⟩|⟨g,cap,cur,rfl,r⟩
 ·cases hb
 ·have:g=b:=by injection hb
  subst this
  exact⟨cap,cur,rfl,r⟩
theorem eE{x:Operand}{k n i off:Nat}{e:TypeId}{es:List (List D)}{c:List D}{y:V}(hx:aR fr x=.gp k n i off)(ho:s.obs[k]? = some [.rowc e n es])(hc:es[i]? = some c)(hy:gV P t (fP c) off=some y)(h:R y s):altR g ⟨d,.load t x,ty,p,af,gd⟩ fr s R:=by
 intro w0 w G a hH hfr
 obtain⟨L,xs,b,a1,a3,a4,a5,a6,a7,a8⟩:=inv_gp hH (hx▸aV hfr x) ho
 obtain⟨cap,cur,c1,c2,c3,c4,c5,c6,c7⟩:=own_at a7 a5
 have hlen:=a8.1 i c hc
 have hi:=ak hc
 have hg:∀j,j<c.length→∃v,xs[i*L.sz+j]? = some v:=by
  intro j hj
  obtain⟨v,h1,h2⟩:=a8.2 i j c c[j] hc (List.getElem?_eq_getElem hj)
  exact⟨v,h1⟩
 have hr:rels G (fP c) ((zG c.length).map λj=>(xs[i*L.sz+j]?).getD Go.undef):=by
  refine⟨by simp[fP],λj y v h1 h2=>?_⟩
  unfold fP at h1
  rw[List.getElem?_map]at h1
  cases hq:c[j]? with
  | none=>rw[hq]at h1;cases h1
  | some z =>
   rw[hq]at h1;simp at h1;subst h1
   have hj:=ak hq
   rw[List.getElem?_map,List.getElem?_range hj]at h2
   simp at h2;subst h2
   obtain⟨v,u1,u2⟩:=a8.2 i j c z hc hq
   rw[u1];exact .d u2
 obtain⟨v,r1,r2⟩:=kN (P:=P) (b:=b) (o:=i*L.sz) (w:=w) hy hr (λj v hj=>by
  rw[List.getElem?_map]at hj
  cases hq:(zG c.length)[j]? with
  | none=>rw[hq]at hj;cases hj
  | some q =>
   have hjl:j<c.length:=by have:=ak hq;simpa using this
   rw[List.getElem?_range hjl]at hj
   simp at hj
   obtain⟨u,u1⟩:=hg j hjl
   rw[u1]at hj;simp at hj;subst hj
   rw[cell_of_row w b _ _ _ _ c3]
   rw[←c7,List.getElem?_take]at u1
   split at u1
   ·simpa using u1
   ·cases u1)
 refine⟨.value v,w,y,s,G,?_,.inl ⟨_,rfl,r2⟩,Cx.le.refl G,hH,h⟩
 simp only[execOp,Instr.loadAt,a6,Instr.sureAddr,Sem.run_bind,Sem.run_pure,Result.andThen_ok,r1]
def lj(c:List D)(off:Nat)(ds:List D):List D:=c.take off++ds++c.drop (off+ds.length)
theorem splice_at{α:Type}(l xs:List α)(o:Nat)(h:o+xs.length≤l.length)(j:Nat):(l.take o++xs++l.drop (o+xs.length))[j]? = if j<o then l[j]? else if j<o+xs.length then xs[j-o]? else l[j]?:=by
 have hl:(l.take o).length=o:=by simp;omega
 split
 ·rename_i h1
  rw[List.append_assoc,List.getElem?_append_left (by omega),List.getElem?_take,od h1]
 ·rename_i h1
  split
  ·rename_i h2
   rw[List.getElem?_append_left (by simp;omega),List.getElem?_append_right (by omega),hl]
  ·rename_i h2
   rw[List.getElem?_append_right (by simp;omega),List.getElem?_drop]
   congr 1
   simp;omega
theorem HRp.putRow{w0 w w':World}{G:Cx}{obs:Nat→Option (List V)}{lns:Nat→Option (TypeId×Nat)}(h:HRp P w0 w G obs lns){k b:Nat}{L:Lv}(hk:G.rv k=some L)(hb:L.v.ownBlock=some b)(hg:w.grownBy w' (some b)){e:TypeId}{es:List (List D)}{xs:List Value}(he:∃es0,obs k=some [.rowc e L.n es0])(ho:w'.ownsRow w0.heap.size e L.sz L.v es.length xs)(hr:iP G.F L.sz es xs) :
  HRp P w0 w' G (upd obs k [.rowc e L.n es]) lns:=by
 obtain⟨e0,es0,xs0,g1,g2,g3,g4,g5,g6⟩:=h.rvl k L hk
 obtain⟨es1,he⟩:=he
 rw[g1]at he;injection he with he;injection he with he _;injection he with e1 _ e2;subst e1
 have hbk:∀b',b'<w.heap.size→b'≠b→w'.heap[b']? = w.heap[b']?:=λb' hl hn=>hg.block b' hl (λe=>hn (by injection e))
 have hnF:=(g6 b hb).2.1
 refine⟨h.kp.grown hg (λj hj=>by injection hj with hj;subst hj;exact (g4.lt _ hb).1),?_,h.fb,?_,?_,h.obi,h.lvd,?_,h.lvi,h.gb,h.obm,?_,h.mpi,h.obr,?_,h.rvi,λb' t q=>tk_grown hg (λt' q'=>by rw[tag_own g4 hb]at q';rw[tag_own ho hb];exact q') _ _ (h.tgs b' t q)⟩
 ·intro b' o v q
  have q1:=h.fs b' o v q
  have hne:b'≠b:=λe=>by subst e;exact hnF o v q
  exact⟨zM q1.1 hg.size,(World.cell?_of_block (a:=⟨b',o,none⟩) (hbk b' q1.1 hne)).trans q1.2⟩
 ·intro j b' q
  have e:j≠k:=λe=>by rw[e]at q;rw[h.obr k b' q]at hk;cases hk
  rw[aP _ _ e];exact h.obd j b' q
 ·intro j cs' q hm hrv
  have e:j≠k:=λe=>by rw[e,hk]at hrv;cases hrv
  rw[aP _ _ e]at q
  obtain⟨b',vs',t',h1,h2,h3,h4,h5⟩:=h.obl j cs' q hm hrv
  have hne:b'≠b:=λe=>(g6 b hb).1 j (e▸h1)
  exact⟨b',vs',t',h1,h2,(hbk b' (heap_lt' h3) hne).trans h3,h4,h5⟩
 ·intro t' e n q
  obtain⟨v,xs',h1,h2,h3⟩:=h.lvl t' e n q
  exact⟨v,xs',h1,ko h2 hg (.inr λhv=>(g6 b hb).2.2 t' _ h1 hv),h3⟩
 ·intro j b' q
  obtain⟨h1,es',n',ik',kvs',h2,h3,h4⟩:=h.mpl j b' q
  have hj:j≠k:=λe=>by rw[e,g1]at h2;cases h2
  have hne:b'≠b:=λe=>by
   obtain⟨_,cur,_,_,c3,_⟩:=own_at g4 hb
   rw[e,c3]at h3;cases h3
  exact⟨h1,es',n',ik',kvs',by rw[aP _ _ hj];exact h2,(hbk b' (heap_lt' h3) hne).trans h3,h4⟩
 ·intro j L' q
  by_cases e:j=k
  ·subst e
   rw[hk]at q;injection q with q;subst q
   exact⟨e0,es,xs,aG _ _ _,g2,trivial,ho,hr,g6⟩
  ·obtain⟨e',es',xs',h1,h2,h3,h4,h5,h6⟩:=h.rvl j L' q
   exact⟨e',es',xs',by rw[aP _ _ e];exact h1,h2,h3,h4.kept hg (.inr λhv=>e (h.rvi j k L' L b q hk hv hb)),h5,h6⟩
theorem iC{x z:Operand}{k n i off m:Nat}{e:TypeId}{es:List (List D)}{c:List D}{cs:List V}{ds:List D}(hx:aR fr x=.gp k n i off)(ho:s.obs[k]? = some [.rowc e n es])(hc:es[i]? = some c)(hz:(aR fr z).cells? = some cs)(hd:dz cs=some ds)(hm:bh P t=some m)(hl:ds.length=m)(hf:off+m≤c.length)
  (h:R .undef ⟨s.obs.set k [.rowc e n (es.set i (lj c off ds))],s.lns⟩):altR g ⟨d,.store t x z,ty,p,af,gd⟩ fr s R:=by
 intro w0 w G a hH hfr
 obtain⟨L,xs,b,a1,a3,a4,a5,a6,a7,a8⟩:=inv_gp hH (hx▸aV hfr x) ho
 obtain⟨cap,cur,c1,c2,c3,c4,c5,c6,c7⟩:=own_at a7 a5
 have hlen:=a8.1 i c hc
 have hi:=ak hc
 generalize hnl:es.length=nl at *
 have hr:=eB (aV hfr z) hz
 obtain⟨d1,d2⟩:=gN hr hd
 have hone:∀v∈(a.eval z).cells.toList,v.oneCell'=true:=by
  intro v hv
  obtain⟨j,hj,rfl⟩:=zR hv
  have hjd:j<ds.length:=by rw[d1];exact hj
  exact relD_one (d2 j ds[j] _ (List.getElem?_eq_getElem hjd) (List.getElem?_eq_getElem hj))
 have hsz:(a.eval z).cells.size=m:=by rw[←hl,d1];simp
 have hin:i*L.sz+off+m≤nl*L.sz:=by
  have:(i+1)*L.sz≤nl*L.sz:=zA _ (by omega)
  rw[zK,zL]at this
  omega
 have hxl:=a7.1
 have hcap:nl*L.sz≤cur.size:=by rw[c6];exact zA _ c4
 have hst:=run_storeCells_at (P:=P) b (i*L.sz+off) e (a.eval z).cells.toList 0 cur w c3 (by simp only[Nat.add_zero,Array.length_toList];omega) hone
 simp only[Nat.add_zero]at hst
 have hvl:(a.eval z).cells.toList.length=m:=by simpa using hsz
 generalize hW:w.setRow b (cur.toList.take (i*L.sz+off)++(a.eval z).cells.toList++cur.toList.drop (i*L.sz+off+(a.eval z).cells.toList.length)).toArray=w' at hst
 have hheap:=setRow_heap w b cur (cur.toList.take (i*L.sz+off)++(a.eval z).cells.toList++cur.toList.drop (i*L.sz+off+(a.eval z).cells.toList.length)).toArray e (0,0) c3
 rw[hW]at hheap
 have hg:w.grownBy w' (some b):=by rw[←hW];exact⟨rfl,rfl,rfl,by simp,λk _ hk=>setRow_other w b k _ (λe=>hk (by simp[e]))⟩
 have hel:i*L.sz+off+(a.eval z).cells.toList.length≤cur.toList.length:=by rw[hvl];simp;omega
 have hat:=splice_at cur.toList (a.eval z).cells.toList (i*L.sz+off) hel
 have hcurl:cur.toList.length=cur.size:=by simp
 generalize hN:cur.toList.take (i*L.sz+off)++(a.eval z).cells.toList++cur.toList.drop (i*L.sz+off+(a.eval z).cells.toList.length)=N at hat hheap
 have hNl:N.length=cur.size:=by rw[←hN];simp;omega
 have hxs:∀j,j<nl*L.sz→xs[j]? = cur.toList[j]?:=λj hj=>by rw[←c7,List.getElem?_take,od hj]
 have hown:w'.ownsRow w0.heap.size e L.sz L.v nl (N.take (nl*L.sz)):=by
  refine⟨by rw[List.length_take,hNl];omega,.inr ⟨b,cap,N.toArray,c1,c2,hheap,c4,c5,by simp[hNl,c6],rfl⟩⟩
 have hrow:iP G.F L.sz (es.set i (lj c off ds)) (N.take (nl*L.sz)):=by
  have hsl:(lj c off ds).length=c.length:=by simp[lj];omega
  refine⟨λi' c' hc'=>?_,λi' j c' x' hc' hx'=>?_⟩
  ·by_cases ei:i=i'
   ·subst ei;rw[List.getElem?_set,od rfl,od (by omega)]at hc';injection hc' with hc';subst hc';rw[hsl];exact hlen
   ·rw[List.getElem?_set_ne ei]at hc';exact a8.1 i' c' hc'
  ·by_cases ei:i=i'
   ·subst ei
    rw[List.getElem?_set,od rfl,od (by omega)]at hc';injection hc' with hc';subst hc'
    have hj:j<L.sz:=by have:=ak hx';rw[hsl]at this;omega
    have hjn:i*L.sz+j<nl*L.sz:=by
     have:(i+1)*L.sz≤nl*L.sz:=zA _ (by omega)
     rw[zK,zL]at this
     omega
    rw[List.getElem?_take,od hjn,hat]
    unfold lj at hx'
    rw[splice_at c ds off (by omega)]at hx'
    by_cases h1:j<off
    ·rw[od h1]at hx'
     rw[od (by omega)]
     obtain⟨v,v1,v2⟩:=a8.2 i j c x' hc hx'
     exact⟨v,by rw[←hxs _ hjn];exact v1,v2⟩
    ·rw[oc h1]at hx'
     rw[oc (by omega)]
     by_cases h2:j<off+ds.length
     ·rw[od h2]at hx'
      rw[od (by rw[hvl];omega)]
      have e1:i*L.sz+j-(i*L.sz+off)=j-off:=by omega
      rw[e1]
      have hjd:=ak hx'
      have hjc:j-off<(a.eval z).cells.toList.length:=by rw[←d1];exact hjd
      exact⟨_,List.getElem?_eq_getElem hjc,d2 _ x' _ hx' (List.getElem?_eq_getElem hjc)⟩
     ·rw[oc h2]at hx'
      rw[oc (by rw[hvl];omega)]
      obtain⟨v,v1,v2⟩:=a8.2 i j c x' hc hx'
      exact⟨v,by rw[←hxs _ hjn];exact v1,v2⟩
   ·rw[List.getElem?_set_ne ei]at hc'
    have hi':=ak hc'
    have hj:j<L.sz:=by have:=ak hx';have:=a8.1 i' c' hc';omega
    have hjn:i'*L.sz+j<nl*L.sz:=by
     have:(i'+1)*L.sz≤nl*L.sz:=zA _ (by omega)
     rw[zK,zL]at this
     omega
    rw[List.getElem?_take,od hjn,hat]
    obtain⟨v,v1,v2⟩:=a8.2 i' j c' x' hc' hx'
    refine⟨v,?_,v2⟩
    rw[hxs _ hjn]at v1
    rcases Nat.lt_or_gt_of_ne ei with q | q
    ·have:(i+1)*L.sz≤i'*L.sz:=zA _ (by omega)
     rw[zK,zL]at this
     rw[oc (by omega),oc (by rw[hvl];omega)];exact v1
    ·have:(i'+1)*L.sz≤i*L.sz:=zA _ (by omega)
     rw[zK,zL]at this
     rw[od (by omega)];exact v1
 have hP:=HRp.putRow hH a1 a5 hg (es:=es.set i (lj c off ds)) ⟨es,a3▸ho⟩ (by rw[List.length_set,hnl];exact hown) hrow
 rw[a3]at hP
 rw[sg_set ho]at hP
 have hP':HR P w0 w' G ⟨s.obs.set k [.rowc e n (es.set i (lj c off ds))],s.lns⟩:=hP
 refine⟨.skip,w',.undef,_,G,?_,.inr ⟨rfl,rfl⟩,Cx.le.refl G,hP',h⟩
 simp only[execOp,Instr.storeAt,a6,Instr.sureAddr,Sem.run_bind,Sem.run_pure,Result.andThen_ok,storeVar,bB hm,hsz,ne_eq,not_true_eq_false,Sem.run_ite,oe,hst]
end
variable {sz:Nat}
theorem SrcOk.row{base:Nat}{ys:List (List D)}(ho:w.ownsRow base e sz v ys.length xs)(hr:iP F sz ys xs):SrcOk w F sz ys v:=by
 refine⟨λhy=>?_,λhy=>?_⟩
 ·obtain⟨A,c,hv⟩:=fD ho
  rw[hy]at hv;exact⟨A,c,hv⟩
 ·obtain⟨b,cap,rfl,_⟩:=ho.form hy
  refine⟨b,0,cap,xs,rfl,ho.1,ho.cells rfl,λu hu=>?_,hr.2⟩
  obtain⟨q,hq,rfl⟩:=zR hu
  have hl:=ho.1
  have hz:0<sz:=Nat.pos_of_ne_zero (λh=>by subst h;omega)
  have hi:q / sz<ys.length:=(Nat.div_lt_iff_lt_mul hz).2 (by omega)
  have he:=List.getElem?_eq_getElem hi
  have hm:q % sz<(ys[q / sz]).length:=by rw[hr.1 _ _ he];exact Nat.mod_lt _ hz
  obtain⟨u,u1,u2⟩:=hr.2 _ _ _ _ he (List.getElem?_eq_getElem hm)
  have e1:q / sz*sz+q % sz=q:=Nat.div_add_mod' q sz
  rw[e1,List.getElem?_eq_getElem hq]at u1
  injection u1 with u1
  rw[u1];exact relD_one u2
section
variable {P : Program} {g : Pg P} {d : Option Tmp} {t ty : TypeId} {p : String} {af : Array Edge} {gd : Option (Nat × Bool)} {fr : Fr} {s : Sg} {R : V → Sg → Prop}
theorem lns_set{s:Sg}{k:Nat}{c0 c:TypeId×Nat}(h:s.lns[k]? = some c0):upd (λk=>s.lns[k]?) k c=λj=>(s.lns.set k c)[j]?:=by
 funext j
 have hk:=ak h
 by_cases e:j=k
 ·subst e;rw[aG];simp[hk]
 ·rw[aP _ _ e,List.getElem?_set_ne (λy=>e y.symm)]
theorem lns_push(s:Sg)(c:TypeId×Nat):upd (λk=>s.lns[k]?) s.lns.length c=λk=>(s.lns++[c])[k]?:=by
 funext j
 by_cases e:j=s.lns.length
 ·rw[e,aG];simp
 ·rw[aP _ _ e,List.getElem?_append]
  split
  ·rfl
  ·rename_i q
   rw[List.getElem?_eq_none (by omega),List.getElem?_eq_none (by simp;omega)]
theorem alt_appOwnR{x z:Operand}{j k n sz:Nat}{e e':TypeId}{es ys:List (List D)}(hx:aR fr x=.own j es)(hz:aR fr z=.gr k n)(ho:s.obs[k]? = some [.rowc e' n ys])(ht:appT P t=some (e,sz))(hs:P.cellsOf e'=sz)(hl:s.lns[j]? = some (e,es.length))(hsz:ys.all (·.length==sz)=true)(hb:bo (es.length+ys.length)=true)
  (h:R (.own j (es++ys)) ⟨s.obs,s.lns.set j (e,es.length+ys.length)⟩):altR g ⟨d,.call ⟨.builtin .append,#[x,z],#[t,t]⟩,ty,p,af,gd⟩ fr s R:=by
 intro w0 w G a hH hfr
 obtain⟨L,xs,a1,a2,a3,a4,a5,a6⟩:=inv_gr hH (hz▸aV hfr z) ho
 have hsrc:SrcOk w G.F sz ys (a.eval z):=by
  rw[←hs,←a4];exact SrcOk.row a5 a6
 obtain⟨u,w',G',r1,r2,r3,r4⟩:=app_src (ty:=ty) hH ht hl (hx▸aV hfr x) hsrc hsz (ij hb)
 rw[lns_set hl]at r3
 have r3':HR P w0 w' G' ⟨s.obs,s.lns.set j (e,es.length+ys.length)⟩:=r3
 refine⟨.value u,w',_,_,G',?_,.inl ⟨u,rfl,r4⟩,r2,r3',h⟩
 simp only[execOp,resolve,Sem.run_bind,Sem.run_pure,Result.andThen_ok,invoke,builtin,List.map_toArray,List.map_cons,List.map_nil,r1]
end
def V.cleanS(s:Sg):V→V
 | .gr k n=>match s.obs[k]? with
  | some [.rowc _ ver es]=>if n=ver then .d (.list es)else .undef
  | _=>.undef
 | x=>x.clean
def V.plainT:V→Bool
 | .tuple cs=>cs.all V.plainR
 | x=>x.plainR
theorem plainT_any{G':Cx}{x:V}(h:x.plainT=true)(r:rel G x v):rel G' x v:=by
 cases r with
 | tuple cs vs hl hr =>
  simp only[V.plainT,zD]at h
  exact .tuple cs vs hl λi y u h1 h2=>kh (h y (List.mem_of_getElem? h1)) (hr i y u h1 h2)
 | d q=>exact kh (by simpa [V.plainT] using h) (.d q)
 | agg cs vs hl hr=>exact kh (by simpa [V.plainT] using h) (.agg cs vs hl hr)
 | _=>simp[V.plainT,V.plainR]at h
mutual
def V.fz(k ver:Nat)(es:List (List D)):V→V
 | .gr j n=>if j=k∧n=ver then .d (.list es)else .gr j n
 | .gs j n off len=>if j=k∧n=ver then (if off+len≤es.length then .d (.list ((es.drop off).take len))else .undef)else .gs j n off len
 | .agg cs=>.agg (V.fzs k ver es cs)
 | .tuple cs=>.tuple (V.fzs k ver es cs)
 | x=>x
def V.fzs(k ver:Nat)(es:List (List D)):List V→List V
 | []=>[]
 | x::xs=>V.fz k ver es x::V.fzs k ver es xs
end
open Go.RowKit
set_option linter.unusedVariables false
set_option linter.unusedSimpArgs false
def tailOk(ops:Array Oper)(m:Nat):Bool :=
 let C:=clos ops.toList []
 (zG ops.size).all λi=>(decide (i<m)||(zG i).all λj=>(C.getD i []).contains j)&&match ops[i]? with | some o=>(eP o).all λk=>decide (k<i) | none=>true
def jc(ops:Array Oper)(m:Nat):Bool:=decide (m≤ops.size)&&(ops.toList.take m).all λo=>match o.guard with | some (j,_)=>decide (j<m) | none=>true
def bD(ops:Array Oper)(m:Nat):Array Oper:=⟨ops.toList.take m⟩
variable {m:Nat}{ops:Array Oper}
theorem headA_at:(bD ops m)[j]? = if j<m then ops[j]? else none:=by
 show (ops.toList.take m).toArray[j]? = _
 rw[List.getElem?_toArray,List.getElem?_take]
 split
 ·simp
 ·rfl
theorem mE(h:m≤ops.size):(bD ops m).size=m:=by
 show (ops.toList.take m).toArray.size=m
 simp;omega
theorem jN{o:Oper}(h:tailOk ops m=true)(ho:ops[i]? = some o):(m≤i→∀j,j<i→j∈(clos ops.toList []).getD i [])∧∀k∈eP o,k<i:=by
 unfold tailOk at h
 simp only[zD,zI]at h
 have:=h i (de ho)
 rw[ho]at this
 simp only[zV,oo,zF,zD,zI,zQ]at this
 refine⟨λhm j hj=>?_,this.2⟩
 rcases this.1 with q | q
 ·omega
 ·exact q j hj
variable {o:Oper}
theorem headOk_at(h:jc ops m=true)(ho:ops[i]? = some o)(hi:i<m){b:Bool}(hg:o.guard=some (j,b)):j<m:=by
 unfold jc at h
 simp only[zF,zD]at h
 have:=h.2 o (List.mem_of_getElem? (i:=i) (by rw[List.getElem?_take,od hi];simpa using ho))
 rw[hg]at this
 simpa using this
theorem yielded_head{tm:Array Value}(h:j<m):yielded (bD ops m) tm j=yielded ops tm j:=by
 unfold yielded
 rw[headA_at,od h]
theorem wanted_head(h:jc ops m=true)(ho:ops[i]? = some o)(hi:i<m)(tm:Array Value):Region.wanted o (yielded (bD ops m) tm)=Region.wanted o (yielded ops tm):=by
 unfold Region.wanted
 cases hg:o.guard with
 | none=>rfl
 | some p =>
  obtain⟨j,b⟩:=p
  simp only
  rw[yielded_head (headOk_at h ho hi hg)]
def full(n i:Nat):Array Bool:=((zG n).map λj=>decide (j<i)).toArray
theorem jd(n i:Nat):(full n i).size=n:=by simp[full]
variable {n:Nat}
theorem fG(d:Bool)(h:j<n):(full n i).getD j d=decide (j<i):=by
 rw[Array.getD_eq_getD_getElem?]
 unfold full
 rw[List.getElem?_toArray,List.getElem?_map,List.getElem?_range h]
 rfl
theorem full_set(h:i<n):(full n i).setIfInBounds i true=full n (i+1):=by
 apply Array.ext
 ·simp[jd]
 ·intro j h1 h2
  have hj:j<n:=by simpa [jd] using h2
  have e1:=fG (i:=i+1) false hj
  rw[Array.getD_eq_getD_getElem?,Array.getElem?_eq_getElem h2]at e1
  simp only[zO]at e1
  rw[e1]
  have e2:=kR (full n i) i j (by rw[jd];exact h)
  rw[Array.getD_eq_getD_getElem?,Array.getElem?_eq_getElem h1]at e2
  simp only[zO]at e2
  rw[e2,fG false hj]
  by_cases e:j=i
  ·subst e;simp
  ·rw[oc e]
   by_cases q:j<i
   ·simp[q];omega
   ·simp[q];omega
variable {Q:Exit→Act→World→Prop}
theorem wpOp_of{Q':Exit→Act→World→Prop}{K K':Act→World→Prop}{a:Act}{w:World}(hQ':∀e a w,e≠.normal→¬Q' e a w)(hK:∀a w,K' a w→K a w)(h:o.wp P a w K' Q'∨(o.asks P a w∧LetsOut Q')):o.wp P a w K Q∨(o.asks P a w∧LetsOut Q):=by
 have hno:¬LetsOut Q':=λ⟨a,w,q⟩=>hQ' _ a w (by simp) q
 rcases h with h | ⟨_,h⟩
 ·left
  unfold Oper.wp at *
  generalize (execOp a.eval o).run P w=r at *
  cases r with
  | ok n w' =>
   cases n with
   | value v=>exact hK _ _ h
   | skip=>exact hK _ _ h
   | defer d=>exact hK _ _ h
   | enter f args =>
    simp only[Oper.upon]at h ⊢
    refine Calls.mono h λe w'' he=>?_
    cases e with
    | returned v=>exact hK _ _ he
    | panicked chain=>exact absurd he (hQ' _ _ _ (by simp))
    | outgrown=>exact absurd he hno
   | row row args =>
    simp only[Oper.upon]at h ⊢
    exact Rows.mono h λv w'' he=>hK _ _ he
   | _=>first | (simp[Oper.upon]at h;done) | simpa [Oper.upon] using h
  | halt x w' =>
   cases x<;>simp only[Oper.upon]at h ⊢<;>first | exact h | exact absurd h (hQ' _ _ _ (by simp))
 ·exact absurd h hno
section
variable {P : Program} {ops : Array Oper} {Q : Exit → Act → World → Prop} {m : Nat}
theorem tail_any(ht:tailOk ops m=true):∀(r i:Nat) (a:Act) (w:World),i+r=ops.size→m≤i→wpList P ops Q (ops.toList.drop i) a w→∀f,r≤f→wpAny P .any ops Q f (full ops.size i) a w
  | 0,i,a,w,hi,hm,h,f,_=>by
    have hd:ops.toList.drop i=[]:=List.drop_eq_nil_of_le (by simp;omega)
    rw[hd]at h
    refine wpAny_done ?_ h f
    cases hr:Region.ready .any ops (full ops.size i)with
    | nil=>rfl
    | cons j js =>
      exfalso
      have hj:j∈Region.ready .any ops (full ops.size i):=by rw[hr];simp
      obtain⟨h1,o,ho,_⟩:=mem_ready.1 hj
      have:=de ho
      rw[fG true this]at h1
      simp at h1;omega
  | r+1,i,a,w,hi,hm,h,f,hf=>by
    obtain⟨f,rfl⟩:∃f',f=f'+1:=⟨f-1,by omega⟩
    obtain⟨o,ho⟩:∃o,ops[i]? = some o:=⟨ops[i],Array.getElem?_eq_getElem (by omega)⟩
    have hp:=(jN ht ho).2
    have hlt:=de ho
    have hready:i∈Region.ready .any ops (full ops.size i):=by
      rw[mem_ready]
      refine⟨by rw[fG true hlt];simp,o,ho,λe he hb=>?_⟩
      have hk:e.on∈eP o:=by
        unfold eP
        exact List.mem_map.2 ⟨e,List.mem_filter.2 ⟨by simpa using he,hb⟩,rfl⟩
      have:=hp _ hk
      rw[fG false (by omega)]
      simpa using this
    refine⟨λhe=>by rw[he]at hready;simp at hready,λj hj=>?_⟩
    have hji:j=i:=by
      obtain⟨h1,x,hx,hpr⟩:=mem_ready.1 hj
      have hjl:=de hx
      rw[fG true hjl]at h1
      simp only[decide_eq_false_iff_not,Nat.not_lt]at h1
      rcases Nat.eq_or_lt_of_le h1 with e | q
      · exact e.symm
      · exfalso
        have hcj:=(jN ht hx).1 (by omega) i q
        have key:=clos_ok (ops:=ops) (lis:=λk=>k<i∨k=j) (λk y hy hk p hpy=>by
          rcases hk with hk | rfl
          · exact .inl (by have:=(jN ht hy).2 p hpy;omega)
          · rw[hx]at hy;injection hy with hy;subst hy
            have hlp:=(jN ht hx).2 p hpy
            unfold eP at hpy
            obtain⟨e,he,rfl⟩:=List.mem_map.1 hpy
            obtain⟨he1,he2⟩:=List.mem_filter.1 he
            have:=hpr e (by simpa using he1) he2
            rw[fG false (by omega)]at this;exact .inl (by simpa using this)) ops.toList [] (λk=>by simp) (λk l h=>by simp at h) j i hcj (.inr rfl)
        rcases key with z | z<;>omega
    subst hji
    rw[zN (by simpa using hlt)]at h
    have ho':ops.toList[j]=o:=by
      have:ops[j]=o:=by rw[Array.getElem?_eq_getElem hlt]at ho;injection ho
      simpa using this
    rw[ho']at h
    unfold wpList at h
    unfold wpOp
    rw[ho]
    simp only
    rw[full_set hlt]
    have ih:=λa' w' hh=>tail_any ht r (j+1) a' w' (by omega) (by omega) hh f (by omega)
    split
    · rename_i hw
      rw[od hw]at h
      rcases h with h | h
      · exact .inl (Oper.wp_mono ih h)
      · exact .inr h
    · rename_i hw
      rw[oc hw]at h
      exact ih _ _ h
theorem head_any (ht : ∀ (i : Nat) (o : Oper), ops[i]? = some o → (m ≤ i → ∀ j, j < m → j ∈ (clos ops.toList []).getD i []) ∧ ∀ k ∈ eP o, k < i) (hh : jc ops m = true) {T : Act → World → Prop} (hT : ∀ a w, T a w → ∀ f, ops.size - m ≤ f → wpAny P .any ops Q f (full ops.size m) a w) :
    ∀(f:Nat) (L L':Array Bool) (a:Act) (w:World),L.size=ops.size→L'.size=m→(∀j,j<m→L.getD j false=L'.getD j false)→(∀j,m≤j→L.getD j false=false)→(∀i o,ops[i]? = some o→L.getD i false=true→∀p∈eP o,L.getD p false=true) →
      wpAny P .any (bD ops m) (λe a w=>e=.normal∧T a w) f L' a w→wpAny P .any ops Q (f+(ops.size-m)) L a w:=by
  have hm:m≤ops.size:=by unfold jc at hh;simp only[zF,oo]at hh;exact hh.1
  have gd:∀{L:Array Bool} {j:Nat} (d:Bool),j<L.size→L.getD j d=L.getD j false:=by
    intro L j d h
    rw[Array.getD_eq_getD_getElem?,Array.getD_eq_getD_getElem?,Array.getElem?_eq_getElem h];rfl
  have hrdy:∀(L L':Array Bool),L.size=ops.size→L'.size=m→(∀j,j<m→L.getD j false=L'.getD j false)→∀i,i<m→(i∈Region.ready .any (bD ops m) L'↔i∈Region.ready .any ops L):=by
    intro L L' h1 h2 h3 i hi
    rw[mem_ready,mem_ready,headA_at,od hi,gd true (by omega),gd true (by omega),h3 i hi]
    constructor
    · rintro⟨q1,o,ho,q2⟩
      refine⟨q1,o,ho,λe he hb=>?_⟩
      have hk:e.on∈eP o:=by
        unfold eP
        exact List.mem_map.2 ⟨e,List.mem_filter.2 ⟨by simpa using he,hb⟩,rfl⟩
      have:=(ht _ _ ho).2 _ hk
      rw[h3 _ (by omega)];exact q2 e he hb
    · rintro⟨q1,o,ho,q2⟩
      refine⟨q1,o,ho,λe he hb=>?_⟩
      have hk:e.on∈eP o:=by
        unfold eP
        exact List.mem_map.2 ⟨e,List.mem_filter.2 ⟨by simpa using he,hb⟩,rfl⟩
      have:=(ht _ _ ho).2 _ hk
      rw[←h3 _ (by omega)];exact q2 e he hb
  have hall:∀(L L':Array Bool),L.size=ops.size→L'.size=m→(∀j,j<m→L.getD j false=L'.getD j false)→(∀j,m≤j→L.getD j false=false)→(∀j,j<m→L.getD j false=true)→Region.ready .any (bD ops m) L'=[]∧L=full ops.size m:=by
    intro L L' h1 h2 h3 h4 h5
    constructor
    · cases hr:Region.ready .any (bD ops m) L' with
      | nil=>rfl
      | cons j js =>
        exfalso
        have hj:j∈Region.ready .any (bD ops m) L':=by rw[hr];simp
        obtain⟨q1,o,ho,_⟩:=mem_ready.1 hj
        have hjm:j<m:=by have:=de ho;rwa [mE hm]at this
        rw[gd true (by omega),←h3 j hjm,h5 j hjm]at q1;cases q1
    · apply Array.ext
      · rw[h1,jd]
      · intro j q1 q2
        have hj:j<ops.size:=by omega
        have e1:=fG (i:=m) false hj
        rw[Array.getD_eq_getD_getElem?,Array.getElem?_eq_getElem q2]at e1
        simp only[zO]at e1
        rw[e1]
        have e2:L.getD j false=L[j]:=by rw[Array.getD_eq_getD_getElem?,Array.getElem?_eq_getElem q1];rfl
        rw[←e2]
        rcases zB j m with z | z
        · rw[h5 j z];simp[z]
        · rw[h4 j z];simp;omega
  have hnot:∀(L L':Array Bool),L.size=ops.size→L'.size=m→(∀j,j<m→L.getD j false=L'.getD j false)→¬(∀j,j<m→L.getD j false=true)→Region.ready .any (bD ops m) L'≠[]:=by
    intro L L' h1 h2 h3 h5 he
    apply h5
    intro i
    induction i using Nat.strongRecOn with
    | _ i ihi =>
      intro hlt
      cases hb:L.getD i false with
      | true=>rfl
      | false =>
        exfalso
        obtain⟨o,ho⟩:∃o,ops[i]? = some o:=⟨ops[i]'(by omega),Array.getElem?_eq_getElem (by omega)⟩
        have:i∈Region.ready .any (bD ops m) L':=by
          rw[mem_ready]
          refine⟨by rw[gd true (by omega),←h3 i hlt];exact hb,o,by rw[headA_at,od hlt];exact ho,λe he hbd=>?_⟩
          have hk:e.on∈eP o:=by
            unfold eP
            exact List.mem_map.2 ⟨e,List.mem_filter.2 ⟨by simpa using he,hbd⟩,rfl⟩
          have:=(ht _ _ ho).2 _ hk
          rw[←h3 _ (by omega)]
          exact ihi e.on this (by omega)
        rw[he]at this;simp at this
  intro f
  induction f with
  | zero =>
    intro L L' a w h1 h2 h3 h4 h5 h
    by_cases hd:∀j,j<m→L.getD j false=true
    · rw[(hall L L' h1 h2 h3 h4 hd).2]
      exact hT a w h.2.2 _ (by omega)
    · exact absurd h.1 (hnot L L' h1 h2 h3 hd)
  | succ f ih =>
    intro L L' a w h1 h2 h3 h4 h5 h
    by_cases hd:∀j,j<m→L.getD j false=true
    · obtain⟨q1,q2⟩:=hall L L' h1 h2 h3 h4 hd
      rw[q2]
      exact hT a w (h.1 q1).2 _ (by omega)
    · rw[show f+1+(ops.size-m)=(f+(ops.size-m))+1 by omega]
      refine⟨λhe=>?_,λi hi=>?_⟩
      · exfalso
        refine hnot L L' h1 h2 h3 hd ?_
        cases hr:Region.ready .any (bD ops m) L' with
        | nil=>rfl
        | cons j js =>
          exfalso
          have hj:j∈Region.ready .any (bD ops m) L':=by rw[hr];simp
          obtain⟨_,o,ho,_⟩:=mem_ready.1 hj
          have hjm:j<m:=by have:=de ho;rwa [mE hm]at this
          have:=(hrdy L L' h1 h2 h3 j hjm).1 hj
          rw[he]at this;simp at this
      · obtain⟨r1,o,ho,r2⟩:=mem_ready.1 hi
        have hlt:=de ho
        have hpr:∀p∈eP o,L.getD p false=true:=by
          intro p hpp
          obtain⟨e,he,rfl⟩:=List.mem_map.1 hpp
          obtain⟨he1,he2⟩:=List.mem_filter.1 he
          exact r2 e (by simpa using he1) he2
        have him:i<m:=by
          rcases zB i m with z | z
          · exact z
          · exfalso
            apply hd
            intro j hj
            have key:=clos_ok (ops:=ops) (lis:=λk=>L.getD k false=true∨k=i) (λk y hy hk p hpy=>by
              rcases hk with hk | rfl
              · exact .inl (h5 k y hy hk p hpy)
              · rw[ho]at hy;injection hy with hy;subst hy;exact .inl (hpr p hpy)) ops.toList [] (λk=>by simp) (λk l h=>by simp at h) i j ((ht _ _ ho).1 z j hj) (.inr rfl)
            rcases key with z' | z'
            · exact z'
            · omega
        have hop:=h.2 i ((hrdy L L' h1 h2 h3 i him).2 hi)
        unfold wpOp at hop ⊢
        rw[headA_at,od him,ho]at hop
        rw[ho]
        simp only at hop ⊢
        rw[wanted_head hh ho him]at hop
        have hset:∀j,(L.setIfInBounds i true).getD j false=(if j=i then true else L.getD j false):=λj=>kR L i j (by omega)
        have hset':∀j,(L'.setIfInBounds i true).getD j false=(if j=i then true else L'.getD j false):=λj=>kR L' i j (by omega)
        have hk:∀a w,wpAny P .any (bD ops m) (λe a w=>e=.normal∧T a w) f (L'.setIfInBounds i true) a w→wpAny P .any ops Q (f+(ops.size-m)) (L.setIfInBounds i true) a w:=by
          intro a w hh'
          refine ih _ _ a w (by simpa using h1) (by simpa using h2) (λj hj=>?_) (λj hj=>?_) (λj x hx hj p hpp=>?_) hh'
          · rw[hset,hset',h3 j hj]
          · rw[hset,oc (by omega)];exact h4 j hj
          · rw[hset]at hj ⊢
            split
            · rfl
            · by_cases ej:j=i
              · subst ej
                rw[ho]at hx;injection hx with hx;subst hx
                exact hpr p hpp
              · rw[oc ej]at hj
                exact h5 j x hx hj p hpp
        split
        · rename_i hw
          rw[od hw]at hop
          exact wpOp_of (λe a w he q=>he q.1) hk hop
        · rename_i hw
          rw[oc hw]at hop
          exact hk _ _ hop
end
variable {G0:Cx}{K:Fr → Sg → Prop}{id:Nat}
theorem region_tail     {fr:Fr} {s:Sg}  (m : Nat) (ht : tailOk ops m = true) (hh : jc ops m = true) (hd : dy (bD ops m) = true)
    (h:regS g true (bD ops m) (bD ops m).toList fr s (λfr' s'=>sepL (seps (bD ops m)) fr'=true∧regW g ops (ops.toList.drop m) fr' s' K)) {w:World}  {a:Act}  (hQ:∀a w,Post g w0 G0 K a w→Q .normal a w) (h0:G0.le G) (hH:HR P w0 w G s) (hfr:FR G fr a) (hdf:a.defers=[]) :
    (Code.region id ops true).wp P Q a w:=by
  have hm:m≤ops.size:=by unfold jc at hh;simp only[zF,oo]at hh;exact hh.1
  obtain⟨frs,sgs,res,eff,e1,e2,htr,hK⟩:=trace_of (bD ops m).toList 0 fr s rfl (zE _) h
  refine wp_region_any g.mixed ?_
  have hrep:∀(n j:Nat),(Array.replicate n false).getD j false=false:=by
    intro n j
    rw[Array.getD_eq_getD_getElem?]
    rcases zB j n with z | z
    · rw[Array.getElem?_eq_getElem (by simpa using z)];simp
    · rw[Array.getElem?_eq_none (by simpa using z)];rfl
  have hsz:(bD ops m).size=m:=mE hm
  have key:=head_any (P:=P) (Q:=Q) (T:=λa w=>Post g w0 G0 (λfr' s'=>regW g ops (ops.toList.drop m) fr' s' K) a w) (λi o ho=>⟨λq j hj=>(jN ht ho).1 q j (by omega),(jN ht ho).2⟩) hh (λa w hp f hf=>by
    obtain⟨G',fr',s',q1,q2,q3,q4,q5⟩:=hp
    exact tail_any ht (ops.size-m) m a w (by omega) (zJ _) (q5 w0 G0 G' a w Q hQ q1 q2 q3 q4) f hf) m (Array.replicate ops.size false) (Array.replicate m false) a { w with drawn:=w.drawn+1 } (by simp) (by simp) (λj hj=>by rw[hrep,hrep]) (λj hj=>hrep _ _) (λi o _ hl=>by rw[hrep]at hl;cases hl)
  rw[show m+(ops.size-m)=ops.size by omega]at key
  refine key ?_
  have:=reg_drawn (Q:=λe a w=>e=.normal∧Post g w0 G0 (λfr' s'=>regW g ops (ops.toList.drop m) fr' s' K) a w) htr hd (λa w hp=>⟨rfl,hp⟩) hK.2 hK.1 (bD ops m).size (Array.replicate (bD ops m).size false) G a { w with drawn:=w.drawn+1 } (by simp) (λi o _ hl=>by rw[hrep]at hl;cases hl) (cnt_le _ _) h0 ?_ ?_ hdf
  · rw[hsz]at this;exact this
  · have e3 : obsR sgs eff (Array.replicate (bD ops m).size false) (bD ops m).size = λk => s.obs[k]? := by
      funext k
      rw[gH (i:=0) (zE _) λj _ _ _=>hrep _ j]
      show (sgs 0).obs[k]? = _
      rw[e2]
    have e4:lnsL (bD ops m).size sgs eff (Array.replicate (bD ops m).size false)=λk=>s.lns[k]?:=by
      unfold lnsL
      rw[oc]
      · rw[←e2];rfl
      · intro hl
        rw[zP]at hl
        obtain⟨j,_,hl⟩:=hl
        rw[hrep]at hl;cases hl
    rw[e3,e4]
    exact hH.kept ((Kp.refl w).drew)
  · have : cfL (bD ops m) frs res (Array.replicate (bD ops m).size false) = fr := by
      rw[←e1]
      apply List.ext_getElem?
      intro t
      have hl1:=cf_len (bD ops m) frs res (Array.replicate (bD ops m).size false)
      rcases zB t (frs 0).length with z | z
      · have a1 : (cfL (bD ops m) frs res (Array.replicate (bD ops m).size false))[t]? = some ((cfL (bD ops m) frs res (Array.replicate (bD ops m).size false)).getD t .undef) := by
          rw[List.getD_eq_getElem?_getD,List.getElem?_eq_getElem (by omega)];rfl
        have a2:(frs 0)[t]? = some ((frs 0).getD t .undef):=by
          rw[List.getD_eq_getElem?_getD,List.getElem?_eq_getElem z];rfl
        rw[a1,a2,l7]
        unfold valAt
        rw[lw_cut 0 (bD ops m).size (zE _) (λj _ _ _=>hrep _ j)]
        rfl
      · rw[List.getElem?_eq_none (by omega),List.getElem?_eq_none z]
    rw[this];exact hfr
theorem wantedS_head(h:jc ops m=true)(ho:ops[i]? = some o)(hi:i<m)(fr:Fr):bf (bD ops m) fr o=bf ops fr o:=by
 unfold bf
 cases hg:o.guard with
 | none=>rfl
 | some p =>
  obtain⟨j,b⟩:=p
  simp only
  rw[headA_at,od (headOk_at h ho hi hg)]
theorem regS_head{P:Program}{g:Pg P}{ops:Array Oper}{m:Nat}{K:Fr→Sg→Prop}(hh:jc ops m=true):∀(l:List Oper) (fr:Fr) (s:Sg),(∀o∈l,o∈ops.toList.take m)→regS g true ops l fr s K→regS g true (bD ops m) l fr s K
 | [],fr,s,_,h=>h
 | o::rest,fr,s,hl,h=>by
  have ih:=λfr s=>regS_head (P:=P) (g:=g) (K:=K) hh rest fr s (λx hx=>hl x (by simp[hx]))
  obtain⟨i,hi⟩:=List.mem_iff_getElem?.1 (hl o (by simp))
  have him:i<m:=by have:=ak hi;simp at this;omega
  rw[List.getElem?_take,od him]at hi
  unfold regS at h ⊢
  rw[wantedS_head hh (by simpa using hi) him]
  cases hw:bf ops fr o with
  | none=>rw[hw]at h;exact h.elim
  | some b =>
   rw[hw]at h
   simp only at h ⊢
   cases b with
   | false =>
    rw[oc (by simp)]at h ⊢
    exact ih _ _ h
   | true =>
    rw[od rfl]at h ⊢
    split at h
    ·rename_i f args tys hop
     split at h
     ·rename_i fid xs hc
      simp only[og]at h ⊢
      obtain⟨r,hs,hr⟩:=h
      exact⟨r,hs,ih _ _ hr⟩
     ·exact h.elim
    ·split at h
     ·exact ih _ _ h
     ·exact h.elim
theorem SWs.regionT{fr:Fr}{s:Sg}{Q:SQ}(m:Nat)(L:List (Tmp×Tmp))(hL:(tailOk ops m,jc ops m,dy (bD ops m),seps (bD ops m))=(true,true,true,L))
  (h:regS g true ops (ops.toList.take m) fr s (λfr' s'=>sepL L fr'=true∧regW g ops (ops.toList.drop m) fr' s' (Q .normal))):SWs g (.region id ops true) Q fr s:=by
 injection hL with ht hL
 injection hL with hh hL
 injection hL with hd hL
 exact λ_ w0 G0 G a w h0 hH hfr hdf=>region_tail m ht hh hd (by rw[hL];exact regS_head hh _ _ _ (λo ho=>ho) h) (λ_ _ q=>q) h0 hH hfr hdf
open Go.RowKit
set_option linter.unusedVariables false
set_option linter.unusedSimpArgs false
def tailW(ops:Array Oper)(m:Nat):Bool :=
 let C:=clos ops.toList []
 (zG ops.size).all λi=>(decide (i<m)||(zG m).all λj=>(C.getD i []).contains j)&&match ops[i]? with | some o=>(eP o).all λk=>decide (k<i) | none=>true
theorem tailW_at{o:Oper}(h:tailW ops m=true)(ho:ops[i]? = some o):(m≤i→∀j,j<m→j∈(clos ops.toList []).getD i [])∧∀k∈eP o,k<i:=by
 unfold tailW at h
 simp only[zD,zI]at h
 have:=h i (de ho)
 rw[ho]at this
 simp only[zV,oo,zF,zD,zI,zQ]at this
 refine⟨λhm j hj=>?_,this.2⟩
 rcases this.1 with q | q
 ·omega
 ·exact q j hj
def regA{P:Program}(g:Pg P)(ops:Array Oper)(K:Fr→Sg→Prop)(L:Array Bool)(fr:Fr)(s:Sg):Prop :=
 L.size=ops.size→∀f,cnt L ops.size≤f→∀(w0:World) (G0 G:Cx) (a:Act) (w:World) (Q:Exit→Act→World→Prop),(∀a w,Post g w0 G0 K a w→Q .normal a w)→G0.le G→HR P w0 w G s→FR G fr a→a.defers=[]→wpAny P .any ops Q f L a w
section
variable {P : Program} {g : Pg P} {ops : Array Oper} {K : Fr → Sg → Prop} {L : Array Bool} {fr : Fr} {s : Sg}
theorem regA.nil(hr:Region.ready .any ops L=[])(h:K fr s):regA g ops K L fr s :=
 λ_ f _ w0 G0 G a w Q hQ h0 hH hfr hd=>wpAny_done hr (hQ _ _ ⟨G,fr,s,h0,hH,hfr,hd,h⟩) f
theorem regA.step{R:List Nat}(hr:Region.ready .any ops L=R)(hne:R≠[])(h:∀j∈R,∃o,ops.toList[j]? = some o∧regW g ops [o] fr s (λfr' s'=>regA g ops K (L.setIfInBounds j true) fr' s')):regA g ops K L fr s:=by
  subst hr
  intro hL f hf w0 G0 G a w Q hQ h0 hH hfr hd
  have hlis:∀j∈Region.ready .any ops L,j<L.size∧L.getD j false=false:=by
    intro j hj
    obtain⟨h1,o,ho,_⟩:=mem_ready.1 hj
    have hlt:j<L.size:=by have:=de ho;omega
    refine⟨hlt,?_⟩
    rw[Array.getD_eq_getD_getElem?,Array.getElem?_eq_getElem hlt]at h1 ⊢
    exact h1
  have hpos:0<cnt L ops.size:=by
    obtain⟨j,hj⟩:=List.exists_mem_of_ne_nil _ hne
    obtain⟨h1,h2⟩:=hlis j hj
    rcases Nat.eq_zero_or_pos (cnt L ops.size)with z | z
    · have:=cnt_zero L _ z j (by omega)
      rw[h2]at this;cases this
    · exact z
  obtain⟨f,rfl⟩:∃q,f=q+1:=⟨f-1,by omega⟩
  refine⟨λhe=>absurd he hne,λi hi=>?_⟩
  obtain⟨o,ho,hw⟩:=h i hi
  obtain⟨b1,b2⟩:=hlis i hi
  have hcnt:=(kW L i b1 b2 ops.size).1 (by omega)
  have hl:=hw w0 G0 G a w (λe a w=>e=.normal∧wpAny P .any ops Q f (L.setIfInBounds i true) a w) (λa w hp=>by
    obtain⟨G',fr',s',q1,q2,q3,q4,q5⟩:=hp
    exact⟨rfl,q5 (by simpa using hL) f (by omega) w0 G0 G' a w Q hQ q1 q2 q3 q4⟩) h0 hH hfr hd
  unfold wpList at hl
  unfold wpOp
  rw[show ops[i]? = some o by simpa using ho]
  simp only at hl ⊢
  split
  · rename_i hw'
    rw[od hw']at hl
    exact wpOp_of (λe a w he q=>he q.1) (λa w q=>q.2) hl
  · rename_i hw'
    rw[oc hw']at hl
    exact hl.2
theorem regA.one(hr:Region.ready .any ops L=[j])(ho:ops.toList[j]? = some o)(h:regW g ops [o] fr s (λfr' s'=>regA g ops K (L.setIfInBounds j true) fr' s')):regA g ops K L fr s :=
 regA.step hr (by simp) (λi hi=>by simp at hi;subst hi;exact⟨o,ho,h⟩)
theorem regA.two{p:Oper}(hr:Region.ready .any ops L=[j,k])(ho:ops.toList[j]? = some o)(hp:ops.toList[k]? = some p)(h:regW g ops [o] fr s (λfr' s'=>regA g ops K (L.setIfInBounds j true) fr' s'))
  (h2:regW g ops [p] fr s (λfr' s'=>regA g ops K (L.setIfInBounds k true) fr' s')):regA g ops K L fr s :=
 regA.step hr (by simp) (λi hi=>by
  simp at hi
  rcases hi with rfl | rfl
  ·exact⟨o,ho,h⟩
  ·exact⟨p,hp,h2⟩)
theorem regA.three{l:Nat}{p q:Oper}(hr:Region.ready .any ops L=[j,k,l])(ho:ops.toList[j]? = some o)(hp:ops.toList[k]? = some p)(hq:ops.toList[l]? = some q)(h:regW g ops [o] fr s (λfr' s'=>regA g ops K (L.setIfInBounds j true) fr' s'))
  (h2:regW g ops [p] fr s (λfr' s'=>regA g ops K (L.setIfInBounds k true) fr' s')) (h3:regW g ops [q] fr s (λfr' s'=>regA g ops K (L.setIfInBounds l true) fr' s')):regA g ops K L fr s :=
 regA.step hr (by simp) (λi hi=>by
  simp at hi
  rcases hi with rfl | rfl | rfl
  ·exact⟨o,ho,h⟩
  ·exact⟨p,hp,h2⟩
  ·exact⟨q,hq,h3⟩)
end
def blankO(o:Oper):Oper:={ o with op:=(match o.dst with | some t=>.move (.tmp t) | none=>.move (.const (.bool false))),guard:=none }
def mS(ops:Array Oper)(p:Nat):Array Oper:=⟨(ops.toList.take p).map blankO++ops.toList.drop p⟩
variable {p:Nat}
theorem blank_at(hp:p≤ops.size)(i:Nat):(mS ops p)[i]? = if i<p then (ops[i]?).map blankO else ops[i]?:=by
 show ((ops.toList.take p).map blankO++ops.toList.drop p).toArray[i]? = _
 have hl:((ops.toList.take p).map blankO).length=p:=by simp;omega
 rw[List.getElem?_toArray]
 split
 ·rename_i h
  rw[List.getElem?_append_left (by omega),List.getElem?_map,List.getElem?_take,od h]
  simp
 ·rename_i h
  rw[List.getElem?_append_right (by omega),hl,List.getElem?_drop,show p+(i-p)=i by omega]
  simp
theorem blank_size(hp:p≤ops.size):(mS ops p).size=ops.size:=by
 show ((ops.toList.take p).map blankO++ops.toList.drop p).toArray.size=_
 simp;omega
theorem blank_dst(hp:p≤ops.size)(i:Nat):((mS ops p)[i]?).bind (·.dst)=(ops[i]?).bind (·.dst):=by
 rw[blank_at hp]
 split
 ·cases ops[i]?<;>rfl
 ·rfl
theorem blank_wanted(hp:p≤ops.size)(fr:Fr)(o:Oper):bf (mS ops p) fr o=bf ops fr o:=by
 unfold bf
 cases o.guard with
 | none=>rfl
 | some q=>simp only[blank_dst hp]
theorem blank_yield(hp:p≤ops.size)(tm:Array Value):yielded (mS ops p) tm=yielded ops tm:=by
 funext j
 unfold yielded
 rw[blank_dst hp]
theorem putF_self(fr:Fr)(t:Tmp):putF fr (some t) (fr.getD t .undef)=fr:=by
 show fr.set t (fr.getD t .undef)=fr
 apply List.ext_getElem?
 intro i
 rw[List.getElem?_set]
 split
 ·rename_i e
  subst e
  split
  ·rename_i h
   rw[List.getD_eq_getElem?_getD,List.getElem?_eq_getElem h];rfl
  ·rename_i h
   rw[List.getElem?_eq_none (by omega)]
 ·rfl
section
variable {P : Program} {g : Pg P} {ops : Array Oper} {K : Fr → Sg → Prop}
theorem regS_same{ops ops':Array Oper}(hw:∀fr o,bf ops' fr o=bf ops fr o):∀(l:List Oper) (fr:Fr) (s:Sg),regS g true ops l fr s K→regS g true ops' l fr s K
 | [],fr,s,h=>h
 | o::rest,fr,s,h=>by
  have ih:=λfr s=>regS_same hw rest fr s
  unfold regS at h ⊢
  rw[hw]
  cases hw':bf ops fr o with
  | none=>rw[hw']at h;exact h.elim
  | some b =>
   rw[hw']at h
   simp only at h ⊢
   cases b with
   | false =>
    rw[oc (by simp)]at h ⊢
    exact ih _ _ h
   | true =>
    rw[od rfl]at h ⊢
    split at h
    ·rename_i f args tys hop
     split at h
     ·rename_i fid xs hc
      simp only[og]at h ⊢
      obtain⟨r,hs,hr⟩:=h
      exact⟨r,hs,ih _ _ hr⟩
     ·exact h.elim
    ·split at h
     ·exact ih _ _ h
     ·exact h.elim
theorem regS_blank{B:Array Oper}{r:List Oper}:∀(l:List Oper) (fr:Fr) (s:Sg),regS g true B r fr s K→regS g true B (l.map blankO++r) fr s K
 | [],_,_,h=>h
 | o::l,fr,s,h=>by
  have ih:=regS_blank (B:=B) (r:=r) l fr s h
  show regS g true B (blankO o::(l.map blankO++r)) fr s K
  unfold regS
  rw[show bf B fr (blankO o)=some true from rfl]
  simp only[og]
  cases hd:o.dst with
  | none =>
   have hop:(blankO o).op=.move (.const (.bool false)):=by unfold blankO;rw[hd]
   have hdst:(blankO o).dst=none:=hd
   have hst:eu g (λk=>s.obs[k]?) (λt=>s.lns[t]?) s.obs.length s.lns.length (blankO o) (aR fr)=some (aR fr (.const (.bool false)),.none):=by
    unfold eu extS cx lM;rw[hop]
   rw[hop]
   simp only
   rw[hst,hdst]
   exact ih
  | some t =>
   have hop:(blankO o).op=.move (.tmp t):=by unfold blankO;rw[hd]
   have hdst:(blankO o).dst=some t:=hd
   have hst:eu g (λk=>s.obs[k]?) (λt=>s.lns[t]?) s.obs.length s.lns.length (blankO o) (aR fr)=some (fr.getD t .undef,.none):=by
    unfold eu extS cx lM;rw[hop];rfl
   rw[hop]
   simp only
   rw[hst,hdst]
   simp only
   rw[putF_self]
   exact ih
theorem drawn_any{fr:Fr}{s:Sg}(h:regS g true ops ops.toList fr s (λfr' s'=>sepL (seps ops) fr'=true∧K fr' s'))(hd:dy ops=true){w:World}{a:Act}(hQ:∀a w,Post g w0 G0 K a w→Q .normal a w)(h0:G0.le G)(hH:HR P w0 w G s)(hfr:FR G fr a)(hdf:a.defers=[])(f:Nat)(hf:ops.size≤f) :
  wpAny P .any ops Q f (Array.replicate ops.size false) a w:=by
 obtain⟨frs,sgs,res,eff,e1,e2,ht,hK⟩:=trace_of ops.toList 0 fr s rfl (zE _) h
 have hrep:∀j,(Array.replicate ops.size false).getD j false=false:=by
  intro j
  rw[Array.getD_eq_getD_getElem?]
  rcases zB j ops.size with z | z
  ·rw[Array.getElem?_eq_getElem (by simpa using z)];simp
  ·rw[Array.getElem?_eq_none (by simpa using z)];rfl
 refine reg_drawn ht hd hQ hK.2 hK.1 f (Array.replicate ops.size false) G a _ (by simp) (λi o _ hl=>by rw[hrep]at hl;cases hl) (Nat.le_trans (cnt_le _ _) hf) h0 ?_ ?_ hdf
 ·have e3:obsR sgs eff (Array.replicate ops.size false) ops.size=λk=>s.obs[k]?:=by
   funext k
   rw[gH (i:=0) (zE _) λj _ _ _=>hrep j]
   show (sgs 0).obs[k]? = _
   rw[e2]
  have e4:lnsL ops.size sgs eff (Array.replicate ops.size false)=λk=>s.lns[k]?:=by
   unfold lnsL
   rw[oc]
   ·rw[←e2];rfl
   ·intro hl
    rw[zP]at hl
    obtain⟨j,_,hl⟩:=hl
    rw[hrep]at hl;cases hl
  rw[e3,e4]
  exact hH
 ·have:cfL ops frs res (Array.replicate ops.size false)=fr:=by
   rw[←e1]
   apply List.ext_getElem?
   intro t
   have hl1:=cf_len ops frs res (Array.replicate ops.size false)
   rcases zB t (frs 0).length with z | z
   ·have a1:(cfL ops frs res (Array.replicate ops.size false))[t]? = some ((cfL ops frs res (Array.replicate ops.size false)).getD t .undef):=by
     rw[List.getD_eq_getElem?_getD,List.getElem?_eq_getElem (by omega)];rfl
    have a2:(frs 0)[t]? = some ((frs 0).getD t .undef):=by
     rw[List.getD_eq_getElem?_getD,List.getElem?_eq_getElem z];rfl
    rw[a1,a2,l7]
    unfold valAt
    rw[lw_cut 0 ops.size (zE _) (λj _ _ _=>hrep j)]
    rfl
   ·rw[List.getElem?_eq_none (by omega),List.getElem?_eq_none z]
  rw[this];exact hfr
theorem put_self(a:Act)(t:Tmp):a.put (some t) (a.eval (.tmp t))=a:=by
 have:a.tmps.setIfInBounds t (a.tmps.getD t undef)=a.tmps:=by
  apply Array.ext
  ·simp
  ·intro i h1 h2
   rw[Array.getElem_setIfInBounds]
   split
   ·rename_i e
    subst e
    rw[Array.getD_eq_getD_getElem?,Array.getElem?_eq_getElem h2];rfl
   ·rfl
 show { a with tmps:=a.tmps.setIfInBounds t (a.tmps.getD t undef) }=a
 rw[this]
theorem full_zero(n:Nat):full n 0=Array.replicate n false:=by
 apply Array.ext
 ·simp[jd]
 ·intro i h1 h2
  have:=fG (n:=n) (i:=0) (j:=i) false (by simpa using h2)
  rw[Array.getD_eq_getD_getElem?,Array.getElem?_eq_getElem h1]at this
  simpa using this
theorem blank_run{B:Array Oper}{p:Nat}{Q:Exit→Act→World→Prop}{a:Act}{w:World}(hB:∀i,i<p→∃o,B[i]? = some (blankO o))(hpr:∀i o,B[i]? = some o→∀k∈eP o,k<i):∀(r i:Nat),i+r=p→∀f,wpAny P .any B Q (f+r) (full B.size i) a w→wpAny P .any B Q f (full B.size p) a w
 | 0,i,hi,f,h=>by
  have:i=p:=by omega
  subst this;exact h
 | r+1,i,hi,f,h=>by
  obtain⟨o,ho⟩:=hB i (by omega)
  have hlt:=de ho
  have hready:i∈Region.ready .any B (full B.size i):=by
   rw[mem_ready]
   refine⟨by rw[fG true hlt];simp,_,ho,λe he hb=>?_⟩
   have hk:e.on∈eP (blankO o):=by
    unfold eP
    exact List.mem_map.2 ⟨e,List.mem_filter.2 ⟨by simpa using he,hb⟩,rfl⟩
   have:=hpr _ _ ho _ hk
   rw[fG false (by omega)]
   simpa using this
  have h1:=h.2 i hready
  unfold wpOp at h1
  rw[ho]at h1
  simp only at h1
  rw[od (show Region.wanted (blankO o) (yielded B a.tmps)=true from rfl),full_set hlt]at h1
  have key:wpAny P .any B Q (f+r) (full B.size (i+1)) a w:=by
   rcases h1 with h1 | ⟨h1,_⟩
   ·cases hd:o.dst with
    | none =>
     have hop:(blankO o).op=.move (.const (.bool false)):=by unfold blankO;rw[hd]
     have hdst:(blankO o).dst=none:=hd
     unfold Oper.wp execOp at h1
     rw[hop]at h1
     simp only[Sem.run_pure,Oper.upon,hdst,Act.put]at h1
     exact h1
    | some t =>
     have hop:(blankO o).op=.move (.tmp t):=by unfold blankO;rw[hd]
     have hdst:(blankO o).dst=some t:=hd
     unfold Oper.wp execOp at h1
     rw[hop]at h1
     simp only[Sem.run_pure,Oper.upon,hdst]at h1
     rwa [put_self]at h1
   ·exfalso
    unfold Oper.asks execOp at h1
    cases hd:o.dst with
    | none =>
     have hop:(blankO o).op=.move (.const (.bool false)):=by unfold blankO;rw[hd]
     rw[hop]at h1
     simp[Sem.run_pure]at h1
     exact absurd (show noRoomEvent∈(#[]:Array _) from h1) (by simp)
    | some t =>
     have hop:(blankO o).op=.move (.tmp t):=by unfold blankO;rw[hd]
     rw[hop]at h1
     simp[Sem.run_pure]at h1
     exact absurd (show noRoomEvent∈(#[]:Array _) from h1) (by simp)
  exact blank_run hB hpr r (i+1) (by omega) f key
theorem blank_swap(hp:p≤ops.size):∀(f:Nat) (L:Array Bool) (a:Act) (w:World),L.size=ops.size→(∀j,j<p→L.getD j false=true)→wpAny P .any (mS ops p) Q f L a w→wpAny P .any ops Q f L a w:=by
 have hge:∀(L:Array Bool) (i:Nat),L.size=ops.size→i<ops.size→(∀j,j<p→L.getD j false=true)→L.getD i true=false→p≤i:=by
  intro L i hL hi h1 h2
  rcases zB i p with z | z
  ·have:=h1 i z
   rw[Array.getD_eq_getD_getElem?,Array.getElem?_eq_getElem (by omega)]at this h2
   simp at this h2
   rw[this]at h2;cases h2
  ·exact z
 have hrdy:∀(L:Array Bool),L.size=ops.size→(∀j,j<p→L.getD j false=true)→∀i,(i∈Region.ready .any (mS ops p) L↔i∈Region.ready .any ops L):=by
  intro L hL h1 i
  rw[mem_ready,mem_ready]
  constructor
  ·rintro⟨q1,o,ho,q2⟩
   have hi:=de ho
   rw[blank_size hp]at hi
   have:=hge L i hL hi h1 q1
   rw[blank_at hp,oc (by omega)]at ho
   exact⟨q1,o,ho,q2⟩
  ·rintro⟨q1,o,ho,q2⟩
   have:=hge L i hL (de ho) h1 q1
   exact⟨q1,o,by rw[blank_at hp,oc (by omega)];exact ho,q2⟩
 have hnil:∀(L:Array Bool),L.size=ops.size→(∀j,j<p→L.getD j false=true)→(Region.ready .any ops L=[]→Region.ready .any (mS ops p) L=[])∧(Region.ready .any (mS ops p) L=[]→Region.ready .any ops L=[]):=by
  intro L hL h1
  refine⟨λh=>?_,λh=>?_⟩
  ·cases hr:Region.ready .any (mS ops p) L with
   | nil=>rfl
   | cons j js=>have:=(hrdy L hL h1 j).1 (by rw[hr];simp);rw[h]at this;simp at this
  ·cases hr:Region.ready .any ops L with
   | nil=>rfl
   | cons j js=>have:=(hrdy L hL h1 j).2 (by rw[hr];simp);rw[h]at this;simp at this
 intro f
 induction f with
 | zero=>intro L a w hL h1 h;exact⟨(hnil L hL h1).2 h.1,h.2⟩
 | succ f ih =>
  intro L a w hL h1 h
  refine⟨λhe=>h.1 ((hnil L hL h1).1 he),λi hi=>?_⟩
  have h2:=h.2 i ((hrdy L hL h1 i).2 hi)
  obtain⟨q1,o,ho,_⟩:=mem_ready.1 hi
  have hpi:=hge L i hL (de ho) h1 q1
  have hset:∀j,j<p→(L.setIfInBounds i true).getD j false=true:=λj hj=>by
   rw[kR L i j (by have:=de ho;omega)]
   split
   ·rfl
   ·exact h1 j hj
  unfold wpOp at h2 ⊢
  rw[blank_at hp,oc (by omega),ho]at h2
  rw[ho]
  simp only at h2 ⊢
  rw[blank_yield hp]at h2
  have hk:∀a w,wpAny P .any (mS ops p) Q f (L.setIfInBounds i true) a w→wpAny P .any ops Q f (L.setIfInBounds i true) a w:=λa w q=>ih _ a w (by simpa using hL) hset q
  split
  ·rename_i hw
   rw[od hw]at h2
   rcases h2 with h2 | h2
   ·exact .inl (Oper.wp_mono hk h2)
   ·exact .inr h2
  ·rename_i hw
   rw[oc hw]at h2
   exact hk _ _ h2
theorem cnt_full(n p:Nat):∀m,m≤n→m≤cnt (full n p) m+p
 | 0,_=>by omega
 | m+1,h=>by
  have ih:=cnt_full n p m (by omega)
  unfold cnt
  rw[fG false (by omega)]
  by_cases q:m<p
  ·simp only[q,decide_true,og]
   rcases zB m p with z | z
   ·have:m+1≤p:=z
    omega
   ·omega
  ·simp only[q,decide_false,zT,oe];omega
theorem cnt_fullL(n p:Nat):∀m,m≤n→cnt (full n p) m+min p m≤m
 | 0,_=>by simp[cnt]
 | m+1,h=>by
  have ih:=cnt_fullL n p m (by omega)
  unfold cnt
  rw[fG false (by omega)]
  by_cases q:m<p
  ·simp only[q,decide_true,og]
   omega
  ·simp only[q,decide_false,zT,oe];omega
theorem blank_pred{B:Array Oper}(h:dy B=true):∀i o,B[i]? = some o→∀k∈eP o,k<i:=λi o ho k hk=>drawOk_pred h ho hk
theorem regA.draw{L:Array Bool}{fr:Fr}{s:Sg}(p:Nat)(Ls:List (Tmp×Tmp))(hc:(decide (L=full ops.size p),decide (p≤ops.size),dy (mS ops p),seps (mS ops p))=(true,true,true,Ls))(h:regS g true ops (ops.toList.drop p) fr s (λfr' s'=>sepL Ls fr'=true∧K fr' s')):regA g ops K L fr s:=by
  injection hc with c1 hc
  injection hc with c2 hc
  injection hc with c3 c4
  have c1:=oj c1
  have c2:=oj c2
  subst c1
  intro _ f hf w0 G0 G a w Q hQ h0 hH hfr hd
  refine blank_swap c2 f _ a w (jd _ _) (λj hj=>by rw[fG false (by omega)];simpa using hj) ?_
  have hsz:=blank_size c2
  have h1:regS g true (mS ops p) (mS ops p).toList fr s (λfr' s'=>sepL (seps (mS ops p)) fr'=true∧K fr' s'):=by
    rw[c4]
    exact regS_blank (ops.toList.take p) fr s (regS_same (λfr o=>blank_wanted c2 fr o) _ _ _ h)
  have hcf:=cnt_full ops.size p ops.size (zJ _)
  have h2:=drawn_any h1 c3 hQ h0 hH hfr hd (f+p) (by rw[hsz];omega)
  have h3:=blank_run (p:=p) (λi hi=>by
    rw[blank_at c2,od hi]
    obtain⟨o,ho⟩:∃o,ops[i]? = some o:=⟨ops[i]'(by omega),Array.getElem?_eq_getElem (by omega)⟩
    exact⟨o,by rw[ho];rfl⟩) (blank_pred c3) p 0 (by omega) f (by rw[full_zero];exact h2)
  rw[hsz]at h3
  exact h3
end
theorem region_tailA     {fr:Fr} {s:Sg}  (m : Nat) (ht : tailW ops m = true) (hh : jc ops m = true) (hd : dy (bD ops m) = true)
    (h:regS g true (bD ops m) (bD ops m).toList fr s (λfr' s'=>sepL (seps (bD ops m)) fr'=true∧regA g ops K (full ops.size m) fr' s')) {w:World}  {a:Act}  (hQ:∀a w,Post g w0 G0 K a w→Q .normal a w) (h0:G0.le G) (hH:HR P w0 w G s) (hfr:FR G fr a) (hdf:a.defers=[]) :
    (Code.region id ops true).wp P Q a w:=by
  have hm:m≤ops.size:=by unfold jc at hh;simp only[zF,oo]at hh;exact hh.1
  obtain⟨frs,sgs,res,eff,e1,e2,htr,hK⟩:=trace_of (bD ops m).toList 0 fr s rfl (zE _) h
  refine wp_region_any g.mixed ?_
  have hrep:∀(n j:Nat),(Array.replicate n false).getD j false=false:=by
    intro n j
    rw[Array.getD_eq_getD_getElem?]
    rcases zB j n with z | z
    · rw[Array.getElem?_eq_getElem (by simpa using z)];simp
    · rw[Array.getElem?_eq_none (by simpa using z)];rfl
  have hsz:(bD ops m).size=m:=mE hm
  have key:=head_any (P:=P) (Q:=Q) (T:=λa w=>Post g w0 G0 (λfr' s'=>regA g ops K (full ops.size m) fr' s') a w) (λi o ho=>tailW_at ht ho) hh (λa w hp f hf=>by
    obtain⟨G',fr',s',q1,q2,q3,q4,q5⟩:=hp
    exact q5 (jd _ _) f (by have:=cnt_fullL ops.size m ops.size (zJ _);omega) w0 G0 G' a w Q hQ q1 q2 q3 q4) m (Array.replicate ops.size false) (Array.replicate m false) a { w with drawn:=w.drawn+1 } (by simp) (by simp) (λj hj=>by rw[hrep,hrep]) (λj hj=>hrep _ _) (λi o _ hl=>by rw[hrep]at hl;cases hl)
  rw[show m+(ops.size-m)=ops.size by omega]at key
  refine key ?_
  have:=reg_drawn (Q:=λe a w=>e=.normal∧Post g w0 G0 (λfr' s'=>regA g ops K (full ops.size m) fr' s') a w) htr hd (λa w hp=>⟨rfl,hp⟩) hK.2 hK.1 (bD ops m).size (Array.replicate (bD ops m).size false) G a { w with drawn:=w.drawn+1 } (by simp) (λi o _ hl=>by rw[hrep]at hl;cases hl) (cnt_le _ _) h0 ?_ ?_ hdf
  · rw[hsz]at this;exact this
  · have e3 : obsR sgs eff (Array.replicate (bD ops m).size false) (bD ops m).size = λk => s.obs[k]? := by
      funext k
      rw[gH (i:=0) (zE _) λj _ _ _=>hrep _ j]
      show (sgs 0).obs[k]? = _
      rw[e2]
    have e4:lnsL (bD ops m).size sgs eff (Array.replicate (bD ops m).size false)=λk=>s.lns[k]?:=by
      unfold lnsL
      rw[oc]
      · rw[←e2];rfl
      · intro hl
        rw[zP]at hl
        obtain⟨j,_,hl⟩:=hl
        rw[hrep]at hl;cases hl
    rw[e3,e4]
    exact hH.kept ((Kp.refl w).drew)
  · have : cfL (bD ops m) frs res (Array.replicate (bD ops m).size false) = fr := by
      rw[←e1]
      apply List.ext_getElem?
      intro t
      have hl1:=cf_len (bD ops m) frs res (Array.replicate (bD ops m).size false)
      rcases zB t (frs 0).length with z | z
      · have a1 : (cfL (bD ops m) frs res (Array.replicate (bD ops m).size false))[t]? = some ((cfL (bD ops m) frs res (Array.replicate (bD ops m).size false)).getD t .undef) := by
          rw[List.getD_eq_getElem?_getD,List.getElem?_eq_getElem (by omega)];rfl
        have a2:(frs 0)[t]? = some ((frs 0).getD t .undef):=by
          rw[List.getD_eq_getElem?_getD,List.getElem?_eq_getElem z];rfl
        rw[a1,a2,l7]
        unfold valAt
        rw[lw_cut 0 (bD ops m).size (zE _) (λj _ _ _=>hrep _ j)]
        rfl
      · rw[List.getElem?_eq_none (by omega),List.getElem?_eq_none z]
    rw[this];exact hfr
def atF(F1:Fr)(S1:Sg)(fr:Fr)(s:Sg):Prop:=fr=F1∧s=S1
theorem SWs.regionA{fr:Fr}{s:Sg}{Q:SQ}(m:Nat)(L:List (Tmp×Tmp))(F1:Fr)(S1:Sg)(hL:(tailW ops m,jc ops m,dy (bD ops m),seps (bD ops m))=(true,true,true,L))
  (h:regS g true ops (ops.toList.take m) fr s (λfr' s'=>sepL L fr'=true∧regA g ops (atF F1 S1) (full ops.size m) fr' s')) (h2:Q .normal F1 S1):SWs g (.region id ops true) Q fr s:=by
 injection hL with ht hL
 injection hL with hh hL
 injection hL with hd hL
 refine λ_ w0 G0 G a w h0 hH hfr hdf=>region_tailA (K:=atF F1 S1) m ht hh hd (by rw[hL];exact regS_head hh _ _ _ (λo ho=>ho) h) (λ_ _ q=>?_) h0 hH hfr hdf
 obtain⟨G',fr',s',q1,q2,q3,q4,rfl,rfl⟩:=q
 exact⟨G',_,_,q1,q2,q3,q4,h2⟩
open Go.RowKit
set_option linter.unusedVariables false
set_option linter.unusedSimpArgs false
section
variable {P : Program} {g : Pg P} {d : Option Tmp} {t ty : TypeId} {p : String} {af : Array Edge} {gd : Option (Nat × Bool)} {fr : Fr} {s : Sg} {R : V → Sg → Prop}
theorem appT_parts{tt:TypeId}(h:appT P tt=some (e,sz)):∃i z,P.underlying tt=some (.slice e)∧P.info? e=some i∧i.zero=some z∧z.cells.size=sz∧i.size=sz∧0<sz∧i.bytes≤8000000:=by
 unfold appT at h
 split at h
 ·rename_i e' hu
  split at h
  ·rename_i i hi
   split at h
   ·rename_i z hz
    split at h
    ·rename_i hc
     injection h with h;injection h with h1 h2;subst h1;subst h2
     exact⟨i,z,hu,hi,hz,hc.1,rfl,hc.2.1,hc.2.2⟩
    ·cases h
   ·cases h
  ·cases h
 ·cases h
theorem made_at(z:Array Value)(n j:Nat)(h:j<n):(madeCells z n).toList[j]? = some z[j % z.size]!:=by
 simp[madeCells,h]
end
open Go.RowKit
set_option linter.unusedVariables false
set_option linter.unusedSimpArgs false
section
variable {P : Program}
theorem HRp.gone(h:HRp P w0 w G obs lns){t:Nat}(hl:lns t=some (e,n))(hg:∃L,G.lv t=some L∧w.grownBy w' L.v.ownBlock∧∀b o,L.v.ownBlock=some b→w'.cell? ⟨b,o,none⟩=w.cell? ⟨b,o,none⟩)(hkt:TK w w') :
  let G':Cx:={ G with lv:=upd G.lv t ⟨n+1,P.cellsOf e,Go.undef⟩ }
  G.le G'∧HRp P w0 w' G' obs (upd lns t (e,n+1)):=by
 intro G'
 obtain⟨L,hL,hg,hc⟩:=hg
 obtain⟨v,xs,g1,g2,g3⟩:=h.lvl t e n hl
 rw[hL]at g1;injection g1 with g1;subst g1
 simp only at hg hc
 have hbk:∀b',b'<w.heap.size→some b'≠v.ownBlock→w'.heap[b']? = w.heap[b']?:=λb' h1 h2=>hg.block b' h1 h2
 have hlv:∀j L,G'.lv j=some L→(j=t∧L=⟨n+1,P.cellsOf e,Go.undef⟩)∨(j≠t∧G.lv j=some L):=by
  intro j L q
  have q':upd G.lv t ⟨n+1,P.cellsOf e,Go.undef⟩ j=some L:=q
  by_cases e:j=t
  ·subst e;rw[aG]at q';injection q' with q';exact .inl ⟨rfl,q'.symm⟩
  ·rw[aP _ _ e]at q';exact .inr ⟨e,q'⟩
 have hle:G.le G':=by
  refine⟨rfl,λ_ _ _ q=>q,λ_ _ q=>q,λj L q=>?_,λ_ _ q=>q,λ_ L q=>⟨L,q,rfl,.inl rfl⟩,λ_ _ q=>q⟩
  by_cases ej:j=t
  ·subst ej
   rw[hL]at q;injection q with q;subst q
   exact⟨_,aG _ _ _,rfl,.inr (by show n<n+1;omega)⟩
  ·exact⟨L,(by show upd G.lv t _ j=_;rw[aP _ _ ej];exact q),rfl,.inl rfl⟩
 refine⟨hle,h.kp.grown hg (λj hj=>(iq g2 j hj).1),?_,h.fb,h.obd,?_,h.obi,?_,?_,?_,h.gb,h.obm,?_,h.mpi,h.obr,?_,h.rvi,λb t q=>hkt _ _ (h.tgs b t q)⟩
 ·intro b o u q
  have q1:=h.fs b o u q
  refine⟨zM q1.1 hg.size,?_⟩
  by_cases hb:v.ownBlock=some b
  ·rw[hc b o hb];exact q1.2
  ·exact (World.cell?_of_block (a:=⟨b,o,none⟩) (hbk b q1.1 (λe=>hb e.symm))).trans q1.2
 ·intro k cs q hm hr
  obtain⟨b,vs,t',h1,h2,h3,h4,h5⟩:=h.obl k cs q hm hr
  exact⟨b,vs,t',h1,h2,(hbk b (heap_lt' h3) (λe=>(g3 b e.symm).1 k h1)).trans h3,dx hle h4,h5⟩
 ·intro j L q
  rcases hlv j L q with⟨rfl,_⟩|⟨e,q⟩
  ·rw[aG];simp
  ·rw[aP _ _ e];exact h.lvd j L q
 ·intro j e' n' q
  by_cases ej:j=t
  ·subst ej
   rw[aG]at q;injection q with q;injection q with q1 q2;subst q1;subst q2
   exact⟨Go.undef,[],aG _ _ _,.inl rfl,λb hb=>by simp[Go.undef,Value.ownBlock]at hb⟩
  ·rw[aP _ _ ej]at q
   obtain⟨v',xs',h1,h2,h3⟩:=h.lvl j e' n' q
   refine⟨v',xs',(by show upd G.lv t _ j=_;rw[aP _ _ ej];exact h1),ko h2 hg ?_,h3⟩
   cases hv:v'.ownBlock with
   | none=>exact .inl rfl
   | some b=>exact .inr λe2=>ej (h.lvi j t _ _ b h1 hL hv e2.symm)
 ·intro j j' L1 L2 b q q' h1 h2
  rcases hlv j L1 q with⟨_,rfl⟩|⟨_,q⟩
  ·simp[Go.undef,Value.ownBlock]at h1
  ·rcases hlv j' L2 q' with⟨_,rfl⟩|⟨_,q'⟩
   ·simp[Go.undef,Value.ownBlock]at h2
   ·exact h.lvi j j' L1 L2 b q q' h1 h2
 ·intro k b q
  obtain⟨h1,es,n',ik,kvs,h2,h3,h4⟩:=h.mpl k b q
  refine⟨h1,es,n',ik,kvs,h2,(hbk b (heap_lt' h3) (λe2=>?_)).trans h3,h4⟩
  rcases g2 with rfl | g2
  ·simp[Go.undef,Value.ownBlock]at e2
  ·obtain⟨cap,cur,_,_,c3,_⟩:=own_at g2 e2.symm
   rw[c3]at h3;cases h3
 ·intro k L' q
  obtain⟨e',es',xs',h1,h2,h3,h4,h5,h6⟩:=h.rvl k L' q
  refine⟨e',es',xs',h1,h2,h3,h4.kept hg ?_,h5,λb hb=>⟨(h6 b hb).1,(h6 b hb).2.1,λj L2 q2=>?_⟩⟩
  ·cases hv:L'.v.ownBlock with
   | none=>exact .inl rfl
   | some b=>exact .inr λe2=>(h6 b hv).2.2 t _ hL e2.symm
  ·rcases hlv j L2 q2 with⟨_,rfl⟩|⟨_,q2⟩
   ·simp[Go.undef,Value.ownBlock]
   ·exact (h6 b hb).2.2 j L2 q2
end
section
variable {P : Program} {g : Pg P} {d : Option Tmp} {t ty : TypeId} {p : String} {af : Array Edge} {gd : Option (Nat × Bool)} {fr : Fr} {s : Sg} {R : V → Sg → Prop}
end
open Go.RowKit
set_option linter.unusedVariables false
set_option linter.unusedSimpArgs false
section
variable {P : Program}
theorem HRp.beginRow(h:HRp P w0 w G obs lns)(hk:Kp w w')(t:Nat)(ht:lns t=none)(e:TypeId)(ho:w'.ownsRow w.heap.size e (P.cellsOf e) v 0 []) :
  let G':Cx:={ G with lv:=upd G.lv t ⟨0,P.cellsOf e,v⟩ }
  G.le G'∧HRp P w0 w' G' obs (upd lns t (e,0)):=by
 intro G'
 have h':=h.kept hk
 have hnone:G.lv t=none:=by
  cases hq:G.lv t with
  | none=>rfl
  | some b=>exact absurd ht (h.lvd t b hq)
 have hlv:∀j L,G'.lv j=some L→(j=t∧L=⟨0,P.cellsOf e,v⟩)∨(j≠t∧G.lv j=some L):=by
  intro j L q
  have q':upd G.lv t ⟨0,P.cellsOf e,v⟩ j=some L:=q
  by_cases e:j=t
  ·subst e;rw[aG]at q';injection q' with q';exact .inl ⟨rfl,q'.symm⟩
  ·rw[aP _ _ e]at q';exact .inr ⟨e,q'⟩
 have hnew:∀b,v.ownBlock=some b→w.heap.size≤b:=λb hb=>(ho.lt b hb).1
 have hle:G.le G':=by
  refine⟨rfl,λ_ _ _ q=>q,λ_ _ q=>q,λj L q=>⟨L,?_,rfl,.inl rfl⟩,λ_ _ q=>q,λ_ L q=>⟨L,q,rfl,.inl rfl⟩,λ_ _ q=>q⟩
  show upd G.lv t _ j=some L
  rw[aP _ _ (λe=>by rw[e,hnone]at q;cases q)];exact q
 have hlvl:∀j L b,G.lv j=some L→L.v.ownBlock=some b→b<w.heap.size:=by
  intro j L b q hb
  cases hq:lns j with
  | none=>exact absurd hq (h.lvd j L q)
  | some en =>
   obtain⟨v',xs',h1,h2,_⟩:=h.lvl j en.1 en.2 hq
   rw[q]at h1;injection h1 with h1;subst h1
   exact (iq h2 b hb).2
 refine⟨hle,h'.kp,h'.fs,h'.fb,h'.obd,?_,h'.obi,?_,?_,?_,h'.gb,h'.obm,h'.mpl,h'.mpi,h'.obr,λk L q=>?_,h'.rvi,h'.tgs⟩
 ·intro k cs q hm hrv
  obtain⟨b,vs,t',h1,h2,h3,h4,h5⟩:=h'.obl k cs q hm hrv
  exact⟨b,vs,t',h1,h2,h3,dx hle h4,h5⟩
 ·intro j L q
  rcases hlv j L q with⟨rfl,_⟩|⟨e,q⟩
  ·rw[aG];simp
  ·rw[aP _ _ e];exact h.lvd j L q
 ·intro j e' n q
  by_cases ej:j=t
  ·subst ej
   rw[aG]at q;injection q with q;injection q with q1 q2;subst q1;subst q2
   refine⟨v,[],aG _ _ _,.inr (own_mono ho h.kp.size),λb hb=>⟨λk q=>?_,λo u q=>?_⟩⟩
   ·have hb2:=hnew b hb
    cases hq:obs k with
    | none=>exact absurd hq (h.obd k b q)
    | some cs =>
     obtain⟨b',_,_,h1,_,h3,_⟩:=h.obl k cs hq (h.obm k b q) (h.obr k b q)
     rw[q]at h1;injection h1 with h1;subst h1
     have:=heap_lt' h3;omega
   ·have:=(h.fs b o u q).1;have:=hnew b hb;omega
  ·rw[aP _ _ ej]at q
   obtain⟨v',xs,h1,h2,h3⟩:=h'.lvl j e' n q
   exact⟨v',xs,(by show upd G.lv t _ j=_;rw[aP _ _ ej];exact h1),h2,h3⟩
 ·intro j j' L L' b q q' h1 h2
  rcases hlv j L q with⟨e1,r1⟩|⟨e1,q1⟩<;>rcases hlv j' L' q' with⟨e2,r2⟩|⟨e2,q2⟩
  ·rw[e1,e2]
  ·subst r1;have:=hlvl j' L' b q2 h2;have:=hnew b h1;omega
  ·subst r2;have:=hlvl j L b q1 h1;have:=hnew b h2;omega
  ·exact h.lvi j j' L L' b q1 q2 h1 h2
 ·obtain⟨e',es,xs,h1,h2,h3,h4,h5,h6⟩:=h'.rvl k L q
  refine⟨e',es,xs,h1,h2,h3,h4,h5,λb hb=>⟨(h6 b hb).1,(h6 b hb).2.1,λj L' q'=>?_⟩⟩
  rcases hlv j L' q' with⟨_,rfl⟩|⟨_,q'⟩
  ·intro hb2
   obtain⟨_,_,_,_,_,_,g4,_⟩:=h.rvl k L q
   have:=(g4.lt b hb).2;have:=hnew b hb2;omega
  ·exact (h6 b hb).2.2 j L' q'
end
section
variable {P : Program} {g : Pg P} {d : Option Tmp} {t ty : TypeId} {p : String} {af : Array Edge} {gd : Option (Nat × Bool)} {fr : Fr} {s : Sg} {R : V → Sg → Prop}
theorem alt_emptyOwn(ht:appT P t=some (e,sz))(h:R (.own s.lns.length []) ⟨s.obs,s.lns++[(e,0)]⟩):altR g ⟨d,.buildSlice t 0 #[],ty,p,af,gd⟩ fr s R:=by
 intro w0 w G a hH hfr
 obtain⟨i,z,hu,hi,hiz,z1,z2,z3,z4⟩:=appT_parts ht
 have hce:P.cellsOf e=sz:=by simp[Program.cellsOf,hi,z2]
 have hrun:(Instr.buildSlice t 0 #[]).run P w=.ok (.slice (some ⟨w.heap.size,0,none⟩) 0 0) (w.alloc (.cells #[] e)):=by
  simp[Instr.buildSlice,run_underlying hu,sizeOf,typeInfo,hi,Instr.fill,newRow]
  exact congrArg (λx=>w.alloc (.cells x e)) (by simp[Array.range])
 have hown:=World.ownsRow_made (base:=w.heap.size) (e:=e) (size:=P.cellsOf e) w #[] 0 (zJ _) (by unfold maxLen;omega) (by simp)
 obtain⟨hle,hN⟩:=hH.beginRow ((Kp.refl w).alloc _) s.lns.length (by simp) e hown
 rw[lns_push]at hN
 refine⟨.value (.slice (some ⟨w.heap.size,0,none⟩) 0 0),_,_,⟨s.obs,s.lns++[(e,0)]⟩,_,?_,.inl ⟨_,rfl,.own _ [] _ (.nil _ _) _ (aG _ _ _) (λi e h=>by simp at h) (.inl ⟨rfl,rfl⟩)⟩,hle,hN,h⟩
 simp[execOp,hrun]
def SpecY(_:Pg P)(f:FuncId)(args:List V)(e:TypeId)(es:List (List D)):Prop :=
 bG P f=true∧∀(w:World) (F:Nat→Nat→Value→Prop) (vs:List Value),(∀b o v,F b o v→b<w.heap.size∧w.cell? ⟨b,o,none⟩=some v)→jj w F→rels (gc F) args vs →
  Calls P f ⟨vs⟩ w λen w'=>∃v xs,en=.returned v∧Kp w w'∧w'.ownsRow w.heap.size e (P.cellsOf e) v es.length xs∧∀F',iP F' (P.cellsOf e) es xs
theorem SpecY.toS(h:SpecY g f args' e es)(ha:args.map V.clean=args')(hR:R (.gr s.obs.length 0) ⟨s.obs++[[.rowc e 0 es]],s.lns⟩):aY g f args s R:=by
 subst ha
 refine⟨h.1,λw0 w G vs hH hr=>?_⟩
 refine (h.2 w G.F vs hH.fs (hH.gb.kp hH.kp) ?_).mono ?_
 ·refine⟨by simp[hr.1],λi x v h1 h2=>?_⟩
  rw[List.getElem?_map]at h1
  cases hq:args[i]? with
  | none=>rw[hq]at h1;cases h1
  | some y=>rw[hq]at h1;simp at h1;subst h1;exact fI (hr.2 i y v hq h2) G.F (λ_ _ _ q=>q)
 ·rintro en w' ⟨v,xs,rfl,hk,ho,hx⟩
  obtain⟨hle,hN⟩:=HRp.newRow hH hk s.obs.length (by simp) ho (hx G.F)
  rw[sg_push]at hN
  have hone:v.oneCell'=true:=by
   obtain⟨A,c,hv⟩:=fD ho
   rw[hv];rfl
  have hN':HR P w0 w' { G with rv:=upd G.rv s.obs.length ⟨0,P.cellsOf e,v⟩ } ⟨s.obs++[[.rowc e 0 es]],s.lns⟩:=hN
  exact⟨_,_,⟨s.obs++[[.rowc e 0 es]],s.lns⟩,_,rfl,hle,hN',.gr _ _ _ hone _ (aG _ _ _) (.inl ⟨rfl,rfl⟩),hR⟩
end
open Go.RowKit
set_option linter.unusedVariables false
set_option linter.unusedSimpArgs false
def SpecZ{P:Program}(_:Pg P)(f:FuncId)(args:List V)(e:TypeId)(es:List (List D))(Y:V→V):Prop :=
 bG P f=true∧∀(w:World) (F:Nat→Nat→Value→Prop) (vs:List Value),(∀b o v,F b o v→b<w.heap.size∧w.cell? ⟨b,o,none⟩=some v)→jj w F→rels (gc F) args vs →
  Calls P f ⟨vs⟩ w λen w'=>∃u v xs,en=.returned u∧Kp w w'∧w'.ownsRow w.heap.size e (P.cellsOf e) v es.length xs∧(∀F',iP F' (P.cellsOf e) es xs)∧∀G x,rel G x v→rel G (Y x) u
theorem SpecZ.toS{Y:V→V}(h:SpecZ g f args' e es Y)(ha:args.map V.clean=args')(hR:R (Y (.gr s.obs.length 0)) ⟨s.obs++[[.rowc e 0 es]],s.lns⟩):aY g f args s R:=by
 subst ha
 refine⟨h.1,λw0 w G vs hH hr=>?_⟩
 refine (h.2 w G.F vs hH.fs (hH.gb.kp hH.kp) ?_).mono ?_
 ·refine⟨by simp[hr.1],λi x v h1 h2=>?_⟩
  rw[List.getElem?_map]at h1
  cases hq:args[i]? with
  | none=>rw[hq]at h1;cases h1
  | some y=>rw[hq]at h1;simp at h1;subst h1;exact fI (hr.2 i y v hq h2) G.F (λ_ _ _ q=>q)
 ·rintro en w' ⟨u,v,xs,rfl,hk,ho,hx,hu⟩
  obtain⟨hle,hN⟩:=HRp.newRow hH hk s.obs.length (by simp) ho (hx G.F)
  rw[sg_push]at hN
  have hN':HR P w0 w' { G with rv:=upd G.rv s.obs.length ⟨0,P.cellsOf e,v⟩ } ⟨s.obs++[[.rowc e 0 es]],s.lns⟩:=hN
  have hone:v.oneCell'=true:=by
   obtain⟨A,c,hv⟩:=fD ho
   rw[hv];rfl
  exact⟨_,_,⟨s.obs++[[.rowc e 0 es]],s.lns⟩,_,rfl,hle,hN',hu _ _ (.gr _ _ _ hone _ (aG _ _ _) (.inl ⟨rfl,rfl⟩)),hR⟩
def V.cleanZ(s:Sg):V→V
 | .agg xs=>.agg (xs.map (V.cleanS s))
 | x=>V.cleanS s x
theorem cleanS_rel(hH:HR P w0 w G s){y:V}(ry:rel G y v):rel (gc λb o u=>G.F b o u∨w.cell? ⟨b,o,none⟩=some u) (V.cleanS s y) v:=by
 have dflt:rel (gc λb o u=>G.F b o u∨w.cell? ⟨b,o,none⟩=some u) y.clean v:=fI ry _ (λ_ _ _ q=>.inl q)
 unfold V.cleanS
 split
 ·rename_i k n
  split
  ·rename_i e ver es ho
   split
   ·rename_i hn
    obtain⟨L,xs,a1,a2,a3,a4,a5,a6⟩:=inv_gr hH ry (hn▸ho)
    by_cases h0:es.length=0
    ·have:es=[]:=zH h0
     subst this
     obtain⟨A,c,rfl⟩:=fD a5
     exact .d (.nil _ _)
    ·obtain⟨b,cap,rfl,_⟩:=a5.form (by omega)
     have hcap:es.length≤cap:=by
      rcases a5.2 with⟨z1,z2⟩|⟨g',cap',cur,z1,_,_,z3,_⟩
      ·cases z1
      ·injection z1 with _ _ z1;omega
     refine .d (.list es b 0 cap L.sz (λi j=>(xs[i*L.sz+j]?).getD Go.undef) (by omega) hcap a6.1 (λi j c x hc hx=>?_) (λi j c x hc hx=>?_))
     ·obtain⟨u,u1,u2⟩:=a6.2 i j c x hc hx
      rw[u1]
      have:=a5.cells (g:=b) rfl _ u u1
      rw[Addr.add_lit]at this
      refine .inr ?_
      rw[Nat.zero_add]at this ⊢
      exact this
     ·obtain⟨u,u1,u2⟩:=a6.2 i j c x hc hx
      rw[u1]
      exact bx (λ_ _ _ q=>.inl q) u2
   ·exact .undef _
  ·exact .undef _
 ·exact dflt
theorem cleanZ_rel(hH:HR P w0 w G s){y:V}(ry:rel G y v):rel (gc λb o u=>G.F b o u∨w.cell? ⟨b,o,none⟩=some u) (V.cleanZ s y) v:=by
 unfold V.cleanZ
 split
 ·rename_i ys
  cases ry with
  | agg _ vs hl h =>
   refine .agg _ vs (by simpa using hl) λi x v h1 h2=>?_
   rw[List.getElem?_map]at h1
   cases hq:ys[i]? with
   | none=>rw[hq]at h1;cases h1
   | some z=>rw[hq]at h1;simp at h1;subst h1;exact cleanS_rel hH (h i z v hq h2)
 ·exact cleanS_rel hH ry
theorem aY.byZ{r:V}(h:Spec g f args' r)(ha:args.map (V.cleanZ s)=args')(hp:r.plainT=true)(hR:R r s):aY g f args s R:=by
 subst ha
 refine⟨h.1,λw0 w G vs hH hr=>?_⟩
 refine (h.2 w (λb o u=>G.F b o u∨w.cell? ⟨b,o,none⟩=some u) vs ?_ ((hH.gb.kp hH.kp).mono λ_ _ _ q=>.inl q) ?_).mono ?_
 ·rintro b o u (q | q)
  ·exact hH.fs b o u q
  ·exact⟨cell_lt q,q⟩
 ·refine⟨by simp[hr.1],λi x v h1 h2=>?_⟩
  rw[List.getElem?_map]at h1
  cases hq:args[i]? with
  | none=>rw[hq]at h1;cases h1
  | some y=>rw[hq]at h1;simp at h1;subst h1;exact cleanZ_rel hH (hr.2 i y v hq h2)
 ·rintro en w' ⟨v,rfl,hk,hv⟩
  exact⟨v,r,s,G,rfl,Cx.le.refl G,hH.kept hk,plainT_any hp hv,hR⟩
end Go.Proofs.YtjemmjpdmbenkaaGreatDoor
