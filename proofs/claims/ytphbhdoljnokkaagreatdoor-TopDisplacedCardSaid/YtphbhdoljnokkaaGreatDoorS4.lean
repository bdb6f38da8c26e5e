/-
  Srt, Sy, Svx in one text.
-/
import Derived.Test.YtphbhdoljnokkaaGreatDoorS3
import Derived.MapKept
import Derived.Carry
import Derived.Laws.MakeOwn
import Derived.Laws.OwnMore
import Derived.Lib.AppendStr
import Derived.Lib.UnsafeStr
open Nat renaming mul_le_mul_right → zA,zero_le → zE,lt_or_ge → zG,le_refl → zH,zero_add → zR,lt_of_lt_of_le → zT,mul_le_mul → zW
open List renaming eq_nil_of_length_eq_zero → zB,all_eq_true → zD,replicate → zF,range → zJ,mem_range → zK,drop_eq_getElem_cons → zL,contains_iff_mem → zO,getElem_of_mem → zQ,length_map → zU
open Option renaming getD_some → zI
open Bool renaming and_eq_true → zM,or_eq_true → zV
namespace Go.Proofs.YtphbhdoljnokkaaGreatDoor
open Go.RowKit
def regW{P:Program}(g:Pg P)(ops:Array Oper)(l:List Oper)(fr:Fr)(s:Sg)(K:Fr→Sg→Prop):Prop :=
 ∀(w0:World) (G0 G:Cx) (a:Act) (w:World) (Q:Exit→Act→World→Prop),(∀a w,Post g w0 G0 K a w→Q .normal a w)→G0.le G→HR P w0 w G s→FR G fr a→a.defers=[]→wpList P ops Q l a w
def altR{P:Program}(_:Pg P)(o:Oper)(fr:Fr)(s:Sg)(R:V→Sg→Prop):Prop :=
 ∀(w0 w:World) (G:Cx) (a:Act),HR P w0 w G s→FR G fr a→∃nx w' y s' G',(execOp a.eval o).run P w=.ok nx w'∧((∃v,nx=.value v∧rel G' y v)∨(nx=.skip∧y=.undef))∧G.le G'∧HR P w0 w' G' s'∧R y s'
theorem pD{P:Program}{g:Pg P}{w0:World}{G0:Cx}{ops:Array Oper}{K:Fr→Sg→Prop}{Q:Exit→Act→World→Prop}(l2:List Oper)(hQ:∀a w,Post g w0 G0 K a w→wpList P ops Q l2 a w) :
  ∀(l:List Oper) (fr:Fr) (s:Sg) (G:Cx) (a:Act) (w:World),regS g false ops l fr s K→G0.le G→HR P w0 w G s→FR G fr a→a.defers=[]→wpList P ops Q (l++l2) a w
 | [],fr,s,G,a,w,h,h0,hH,hfr,hd=>hQ a w ⟨G,fr,s,h0,hH,hfr,hd,h⟩
 | o::rest,fr,s,G,a,w,h,h0,hH,hfr,hd=>by
  unfold regS at h
  rw[List.cons_append]
  unfold wpList
  cases hw:bo ops fr o with
  | none=>simp_all
  | some b =>
   rw[hw]at h
   rw[fK hfr hw]
   simp only at h
   cases b with
   | false =>
    rw[qU (by simp)]at h
    rw[qU (by simp)]
    exact pD l2 hQ rest _ s G _ w h h0 hH (ii hfr .skip o.dst) (by simp_all[cg])
   | true =>
    rw[qV rfl]at h
    rw[qV rfl]
    left
    have step:(∃y f,il g (λk=>s.obs[k]?) (λt=>s.lns[t]?) s.obs.length s.lns.length o (aN fr)=some (y,f)∧regS g false ops rest (putF fr o.dst y) (f.sg s) K)→o.wp P a w (wpList P ops Q (rest++l2)) Q:=by
     rintro⟨y,f,hs,hrest⟩
     obtain⟨nx,w',G',r1,r2,r3,r4⟩:=stepS_ok hH (by simp) (by simp) hfr hs
     have hfit:=pu hs
     rw[←sg_obs f s hfit,←sg_lns f s hfit]at r4
     unfold Oper.wp
     rw[r1]
     rcases r2 with⟨v,rfl,hv⟩|⟨rfl,rfl⟩
     ·exact pD l2 hQ rest _ _ G' _ w' hrest (h0.trans r3) r4 (ii (ku r3 hfr) hv o.dst) (by simp_all[cg])
     ·exact pD l2 hQ rest _ _ G' _ w' hrest (h0.trans r3) r4 (ii (ku r3 hfr) (.undef _) o.dst) (by simp_all[cg])
    split at h
    ·rename_i f args tys hop
     split at h
     ·rename_i fid xs hc
      rw[qU (by simp)]at h
      obtain⟨he,hcall⟩:=h
      obtain⟨vs,r1,r2⟩:=exec_call hfr hop hc he w
      unfold Oper.wp
      rw[r1]
      refine (hcall w0 w G vs hH r2).mono ?_
      rintro e w' ⟨v,y,s',G',rfl,q1,q2,q3,q4⟩
      exact pD l2 hQ rest _ s' G' _ w' q4 (h0.trans q1) q2 (ii (ku q1 hfr) q3 o.dst) (by simp_all[cg])
     simp_all
    grind
section
variable {P : Program} {g : Pg P} {ops : Array Oper} {fr : Fr} {s : Sg} {K : Fr → Sg → Prop}
theorem regW.of{l:List Oper}(h:regS g false ops l fr s K):regW g ops l fr s K:=by
 intro w0 G0 G a w Q hQ h0 hH hfr hd
 have:=pD (g:=g) (ops:=ops) (Q:=Q) [] (λa w q=>by exact hQ a w q) l fr s G a w h h0 hH hfr hd
 simp_all
theorem regW.alt{l:List Oper}(n:Nat){o:Oper}(ho:l[n]? = some o)
  (h:regS g false ops (l.take n) fr s (λfr' s'=>bo ops fr' o=some true∧altR g o fr' s' (λy s''=>regW g ops (l.drop (n+1)) (putF fr' o.dst y) s'' K))):regW g ops l fr s K:=by
 intro w0 G0 G a w Q hQ h0 hH hfr hd
 have hl:l=l.take n++(o::l.drop (n+1)):=by
  grind[zL,List.take_append_drop]
 rw[hl]
 refine pD (g:=g) (G0:=G0) (w0:=w0) (o::l.drop (n+1)) ?_ (l.take n) fr s G a w h h0 hH hfr hd
 rintro a w ⟨G',fr',s',q1,q2,q3,q4,hw,ha⟩
 unfold wpList
 rw[fK q3 hw,qV rfl]
 left
 obtain⟨nx,w',y,s'',G2,r1,r2,r3,r4,r5⟩:=ha w0 w G' a q2 q3
 unfold Oper.wp
 rw[r1]
 rcases r2 with⟨v,rfl,hv⟩|⟨rfl,rfl⟩
 ·exact r5 w0 G0 G2 _ w' Q hQ (q1.trans r3) r4 (ii (ku r3 q3) hv o.dst) (by grind[cg])
 ·exact r5 w0 G0 G2 _ w' Q hQ (q1.trans r3) r4 (ii (ku r3 q3) (.undef _) o.dst) (by grind[cg])
theorem SWs.regionW{id:Nat}{Q:SQ}(h:regW g ops ops.toList fr s (Q .normal)):SWs g (.region id ops false) Q fr s :=
 λ_ w0 G0 G a w h0 hH hfr hd=>wp_region_list (h w0 G0 G a w (lift g w0 G0 Q) (λ_ _ q=>q) h0 hH hfr hd)
end
variable {P:Program}{R:V→Sg→Prop}{e:TypeId}{fr:Fr}{g:Pg P}{s:Sg}
theorem alt_boxF{d:Option Tmp}{ty:TypeId}{x:Operand}{p:String}{af:Array Edge}{gd:Option (Nat×Bool)}(ds:List D)(cs:List V)(hc:(aN fr x).cells? = some cs)(hd:ip cs=some ds)(h:R (.iptr ds 0) s):altR g ⟨d,.box e x,ty,p,af,gd⟩ fr s R:=by
  intro w0 w G a hH hfr
  have hr:=gQ (aK hfr x) hc
  obtain⟨d1,d2⟩:=jl hr hd
  have hk:Kp w (w.alloc (.cells ⟨(a.eval x).cells.toList⟩ e)):=(Kp.refl w).alloc _
  refine⟨.value (.pointer (some ⟨w.heap.size,0,none⟩)),w.alloc (.cells ⟨(a.eval x).cells.toList⟩ e),.iptr ds 0,s,G.withF (fresh w (w.alloc (.cells ⟨(a.eval x).cells.toList⟩ e))),?_,.inl ⟨_,rfl,?_⟩,G.le_withF _,hH.grow hk,h⟩
  simp_all[execOp,Instr.box,newVar,qz]
  · have hcell : ∀ (j : Nat) (v : Value), (a.eval x).cells.toList[j]? = some v → (w.alloc (.cells ⟨(a.eval x).cells.toList⟩ e)).cell? ⟨w.heap.size, j, none⟩ = some v := by
      simp_all
    have hg:∀j,j<ds.length→∃v,(a.eval x).cells.toList[j]? = some v:=λj hj=>⟨_,List.getElem?_eq_getElem (by omega)⟩
    exact .iptr ds 0 w.heap.size 0 (λj=>((a.eval x).cells.toList[j]?).getD Go.undef) (λj y hj=>by
      obtain⟨v,hv⟩:=hg j (aF hj)
      rw[hv,zR]
      exact .inr ⟨zH _,hcell j v hv⟩) (λj y hj=>by
      obtain⟨v,hv⟩:=hg j (aF hj)
      rw[hv]
      exact b8 (λ_ _ _ q=>.inl q) (d2 j y v hj hv))
def n7:List (Int×D)→Int→Option D
 | [],_=>none
 | (k,v)::r,n=>if n==k then some v else n7 r n
def lp:List (Int×D)→Int→D→List (Int×D)
 | [],n,v=>[(n,v)]
 | (k,u)::r,n,v=>if n==k then (k,v)::r else (k,u)::lp r n v
variable {F:Nat→Nat→Value→Prop}{ik:IntKind}{kvs:List (Int×D)}
theorem relM_cons{p:Int×D}{es:List MapEntry}(h:relM F ik (p::kvs) es):∃e r,es=e::r∧e.key=.int ik p.1∧relD F p.2 e.val∧relM F ik kvs r:=by
 cases es with
 | nil=>have:=h.1;simp at this
 | cons e r =>
  have h0:=h.2 0 p e rfl rfl
  exact⟨e,r,rfl,h0.1,h0.2,by have:=h.1;simp_all,λi q f a b=>h.2 (i+1) q f (by simpa using a) (by simpa using b)⟩
theorem relM_cons'{p:Int×D}{e:MapEntry}{r:List MapEntry}(h1:e.key=.int ik p.1)(h2:relD F p.2 e.val)(h:relM F ik kvs r):relM F ik (p::kvs) (e::r):=by
 refine⟨by simp[h.1],λi q f a b=>?_⟩
 cases i with
 | zero=>simp_all
 | succ i=>simp at a b;exact h.2 i q f a b
theorem find_rel{F:Nat→Nat→Value→Prop}{ik ik':IntKind}(n:Int):∀(kvs:List (Int×D)) (es:List MapEntry) (i:Nat),relM F ik kvs es →
  (n7 kvs n=none∧Instr.findNow (.int ik') (.int ik n) es i=some none∧∀(v:D) (e:MapEntry),e.key=.int ik n→relD F v e.val→relM F ik (lp kvs n v) (es++[e])) ∨
  (∃d j e0,n7 kvs n=some d∧Instr.findNow (.int ik') (.int ik n) es i=some (some (i+j,e0.val))∧es[j]? = some e0∧e0.key=.int ik n∧relD F d e0.val∧∀(v:D) (e:MapEntry),e.key=.int ik n→relD F v e.val→relM F ik (lp kvs n v) (es.set j e))
 | [],es,i,h=>by
  have:es=[]:=zB h.1.symm
  subst this
  exact .inl ⟨rfl,rfl,λv e h1 h2=>relM_cons' h1 h2 ⟨rfl,λi p e a=>by simp at a⟩⟩
 | (k,u)::kvs,es,i,h=>by
  obtain⟨e,r,rfl,h1,h2,h3⟩:=relM_cons h
  by_cases hk:n=k
  ·subst hk
   refine .inr ⟨u,0,e,by simp[n7],?_,rfl,h1,h2,λv e' q1 q2=>?_⟩<;>simp_all[Instr.findNow,Instr.sameNow,lp,relM_cons']
  ·have hne:(n==k)=false:=by simp[hk]
   rcases find_rel (ik':=ik') n kvs r (i+1) h3 with⟨a1,a2,a3⟩|⟨d,j,e0,a1,a2,a3,a4,a5,a6⟩
   grind[n7,Instr.findNow,Instr.sameNow,lp,relM_cons']
   ·refine .inr ⟨d,j+1,e0,by simp[n7,hne,a1],?_,by simpa using a3,a4,a5,λv e' q1 q2=>?_⟩<;>grind[Instr.findNow,Instr.sameNow,lp,relM_cons']
variable {G:Cx}{lns:Nat→Option (TypeId×Nat)}{obs:Nat→Option (List V)}{w w0:World}
theorem HRp.newMap(h:HRp P w0 w G obs lns)(k:Nat)(hk:obs k=none)(ik:IntKind) :
  let G':Cx:={ G with mp:=upd G.mp k w.heap.size }
  G.le G'∧HRp P w0 (w.alloc (.map #[] 0)) G' (upd obs k [.mapc ik []]) lns:=by
 intro G'
 have hnone:G.mp k=none:=by
  cases hq:G.mp k with
  | none=>rfl
  | some b=>obtain⟨_,_,_,_,_,h2,_⟩:=h.mpl k b hq;simp_all
 have hno:G.ob k=none:=by
  cases hq:G.ob k with
  | none=>rfl
  | some b=>exact absurd hk (h.obd k b hq)
 have hle:G.le G':=by
  refine⟨rfl,λ_ _ _ q=>q,λ_ _ q=>q,λ_ L q=>⟨L,q,rfl,.inl rfl⟩,λj b q=>?_,λ_ L q=>⟨L,q,rfl,.inl rfl⟩,λ_ _ q=>q⟩
  grind[aU]
 have hkp:Kp w (w.alloc (.map #[] 0)):=(Kp.refl w).alloc _
 have hmp:∀j b,G'.mp j=some b→(j=k∧b=w.heap.size)∨(j≠k∧G.mp j=some b):=by
  grind[aG,aU]
 have hlt:∀j b,G.mp j=some b→b<w.heap.size:=λj b q=>by
  obtain⟨_,_,_,_,_,_,h3,_⟩:=h.mpl j b q;grind
 refine⟨hle,h.kp.trans hkp,?_,h.fb,?_,?_,h.obi,h.lvd,?_,h.lvi,h.gb,?_,?_,?_,h.obr,?_,h.rvi,λb t q=>tk_kp hkp _ _ (h.tgs b t q)⟩
 ·intro b o v q
  have:=h.fs b o v q
  exact⟨zT this.1 hkp.size,(hkp.see.1 b o this.1).trans this.2⟩
 ·intro j b q
  by_cases e:j=k
  grind
  ·rw[aU _ _ e];exact h.obd j b q
 ·intro j cs' q hm hrv
  have e:j≠k:=λe=>by
   grind[aG]
  rw[aU _ _ e]at q
  have hm':G.mp j=none:=by
   grind[aU]
  obtain⟨b,vs',t',h1,h2,h3,h4,h5⟩:=h.obl j cs' q hm' hrv
  exact⟨b,vs',t',h1,h2,(hkp.below.block b (heap_lt' h3)).trans h3,fF hle h4,h5⟩
 ·intro t' e n q
  obtain⟨v,xs,h1,h2,h3⟩:=h.lvl t' e n q
  exact⟨v,xs,h1,holds_kp h2 hkp,h3⟩
 ·intro j b q
  have e:j≠k:=λe=>by grind
  show upd G.mp k w.heap.size j=none
  rw[aU _ _ e];exact h.obm j b q
 ·intro j b q
  rcases hmp j b q with⟨rfl,rfl⟩|⟨e,q⟩
  ·exact⟨h.kp.size,[],0,ik,[],aG _ _ _,(MapKept.heap_alloc w _).1,rfl,λi p e a=>by simp at a⟩
  ·obtain⟨h1,es,n,ik',kvs,h2,h3,h4⟩:=h.mpl j b q
   exact⟨h1,es,n,ik',kvs,by simp_all[aU],(hkp.below.block b (heap_lt' h3)).trans h3,h4⟩
 ·intro j j' b q q'
  rcases hmp j b q with⟨e1,e2⟩|⟨e1,q1⟩<;>rcases hmp j' b q' with⟨e3,e4⟩|⟨e3,q2⟩
  omega
  grind
  grind
  ·exact h.mpi j j' b q1 q2
 ·intro j L q
  obtain⟨e,es,xs,h1,h2,h3,h4,h5,h6⟩:=h.rvl j L q
  grind[aU,own_kp]
variable {k:Nat}
theorem HRp.putMap(h:HRp P w0 w G obs lns){b:Nat}(hk:G.mp k=some b){es:List MapEntry}{n:Nat}(hr:relM G.F ik kvs es) :
  HRp P w0 { w with heap:=w.heap.setIfInBounds b (.map ⟨es⟩ n) } G (upd obs k [.mapc ik kvs]) lns:=by
 obtain⟨g1,es0,n0,ik0,kvs0,g2,g3,g4⟩:=h.mpl k b hk
 obtain⟨s1,s2⟩:=MapKept.heap_set (o':=.map ⟨es⟩ n) g3
 have hg:w.grownBy { w with heap:=w.heap.setIfInBounds b (.map ⟨es⟩ n) } (some b):=⟨rfl,rfl,rfl,by simp,λj _ hj=>s2 j (λe=>hj (by rw[e]))⟩
 have hcell:∀b' o,b'≠b→({ w with heap:=w.heap.setIfInBounds b (.map ⟨es⟩ n) }:World).cell? ⟨b',o,none⟩=w.cell? ⟨b',o,none⟩:=λb' o hne=>World.cell?_of_block (a:=⟨b',o,none⟩) (s2 b' hne)
 have hnF:∀o v,¬G.F b o v:=λo v q=>by
  have:=(h.fs b o v q).2
  simp_all[World.cell?]
 refine⟨h.kp.grown hg (λj hj=>by simp_all),?_,h.fb,?_,?_,h.obi,h.lvd,?_,h.lvi,h.gb,h.obm,?_,h.mpi,h.obr,?_,h.rvi,λb' t q=>nk hg (λt' q'=>by simp_all[nq]) _ _ (h.tgs b' t q)⟩
 ·intro b' o v q
  have q1:=h.fs b' o v q
  grind
 ·intro j b' q
  have e:j≠k:=λe=>by rw[e]at q;rw[h.obm k b' q]at hk;cases hk
  rw[aU _ _ e];exact h.obd j b' q
 ·intro j cs' q hm hrv
  have e:j≠k:=λe=>by simp_all
  rw[aU _ _ e]at q
  obtain⟨b',vs',t',h1,h2,h3,h4,h5⟩:=h.obl j cs' q hm hrv
  grind
 ·intro t' e n q
  obtain⟨v,xs,h1,h2,h3⟩:=h.lvl t' e n q
  refine⟨v,xs,h1,m5 h2 hg (.inr λhv=>?_),h3⟩
  have h2:w.ownsRow w0.heap.size e (P.cellsOf e) v n xs:=h2.resolve_left (by rintro rfl;cases hv)
  rcases h2.2 with⟨rfl,_⟩|⟨g',cap',cur,rfl,_,hgc,_⟩
  ·cases hv
  ·have:g'=b:=by injection hv
   simp_all
 ·intro j b' q
  by_cases e:j=k
  grind[aG]
  ·obtain⟨h1,es',n',ik',kvs',h2,h3,h4⟩:=h.mpl j b' q
   have hne:b'≠b:=λe'=>e (h.mpi j k b (e'▸q) hk)
   grind[aU]
 ·intro j L q
  obtain⟨e,es',xs,h1,h2,h3,h4,h5,h6⟩:=h.rvl j L q
  have hj:j≠k:=λe=>by simp_all
  refine⟨e,es',xs,by simp_all[aU],h2,h3,h4.kept hg (.inr λhv=>?_),h5,h6⟩
  rcases h4.2 with⟨hz,_⟩|⟨g',cap',cur,hz,_,hgc,_⟩
  ·rw[hz]at hv;cases hv
  ·rw[hz]at hv
   have:g'=b:=by injection hv
   simp_all
def mapT(P:Program)(t:TypeId):Option (IntKind×TypeId):=match P.underlying t with
 | some (.map kt et)=>(match P.underlying kt with | some (.int k)=>some (k,et) | _=>none)
 | _=>none
theorem mapT_ok{t et:TypeId}{k:IntKind}(h:mapT P t=some (k,et)):∃kt,P.underlying t=some (.map kt et)∧P.underlying kt=some (.int k):=by
 grind[mapT]
section
variable {P : Program} {g : Pg P} {d : Option Tmp} {t ty : TypeId} {p : String} {af : Array Edge} {gd : Option (Nat × Bool)} {fr : Fr} {s : Sg} {R : V → Sg → Prop}
theorem sg_push(s:Sg)(c:List V):upd (λk=>s.obs[k]?) s.obs.length c=λk=>(s.obs++[c])[k]?:=by
 grind[aG,aU]
theorem sg_set{s:Sg}{k:Nat}{c0 c:List V}(h:s.obs[k]? = some c0):upd (λk=>s.obs[k]?) k c=λj=>(s.obs.set k c)[j]?:=by
 grind[aG,aU]
theorem iG(ik:IntKind)(h:R (.mp s.obs.length) ⟨s.obs++[[.mapc ik []]],s.lns⟩):altR g ⟨d,.makeMap t none,ty,p,af,gd⟩ fr s R:=by
 intro w0 w G a hH hfr
 obtain⟨hle,hN⟩:=HRp.newMap hH s.obs.length (by simp) ik
 rw[sg_push]at hN
 have hN':HR P w0 (w.alloc (.map #[] 0)) { G with mp:=upd G.mp s.obs.length w.heap.size } ⟨s.obs++[[.mapc ik []]],s.lns⟩:=hN
 refine⟨.value (.map (some w.heap.size)),w.alloc (.map #[] 0),.mp s.obs.length,⟨s.obs++[[.mapc ik []]],s.lns⟩,_,?_,.inl ⟨_,rfl,.mp _ _ (aG _ _ _)⟩,hle,hN',h⟩
 simp_all[execOp,run_makeMap]
theorem inv_mp{G:Cx}{k:Nat}{v:Value}(r:rel G (.mp k) v):∃b,G.mp k=some b∧v=.map (some b):=by cases r<;>simp_all
theorem alt_lookup{x i:Operand}{k:Nat}{ik:IntKind}{kvs:List (Int×D)}{n:Int}{et:TypeId}{z:V}{zd:D}(hx:aN fr x=.mp k)(ho:s.obs[k]? = some [.mapc ik kvs])(hi:aN fr i=.d (.int ik n))(ht:mapT P t=some (ik,et))(hz:eT P et=some z)(hzd:z.data? = some zd)
  (h:R (.d ((n7 kvs n).getD zd)) s):altR g ⟨d,.lookup t x i false,ty,p,af,gd⟩ fr s R:=by
 intro w0 w G a hH hfr
 obtain⟨b,hb,hv⟩:=inv_mp (hx▸aK hfr x)
 have hiv:=fw (hi▸aK hfr i)
 obtain⟨_,es,c,ik',kvs',h2,h3,h4⟩:=hH.mpl k b hb
 have h2':s.obs[k]? = some [.mapc ik' kvs']:=h2
 rw[ho]at h2';injection h2' with h2';injection h2' with h2' _;injection h2' with e1 e2;subst e1;subst e2
 obtain⟨kt,t1,t2⟩:=mapT_ok ht
 obtain⟨zv,z1,z2,_⟩:=nc hz G w
 have hkey:MapKept.IsKey (.int ik) (.int ik n):=by simp[MapKept.IsKey]
 rcases find_rel (ik':=ik) n kvs es 0 h4 with⟨a1,a2,a3⟩|⟨dd,j,e0,a1,a2,a3,a4,a5,a6⟩
 ·refine⟨.value zv,w,.d ((n7 kvs n).getD zd),s,G,?_,.inl ⟨_,rfl,?_⟩,Cx.le.refl G,hH,h⟩
  ·simp[execOp,hv,hiv,Instr.lookup,run_underlying t1,MapKept.run_getObj_map h3,MapKept.run_checkKey t2 hkey,MapKept.run_findKey t2 a2,z1]
  ·rw[a1];exact .d (data_rel z2 hzd)
 ·refine⟨.value e0.val,w,.d ((n7 kvs n).getD zd),s,G,?_,.inl ⟨_,rfl,?_⟩,Cx.le.refl G,hH,h⟩
  ·simp[execOp,hv,hiv,Instr.lookup,run_underlying t1,MapKept.run_getObj_map h3,MapKept.run_checkKey t2 hkey,MapKept.run_findKey t2 a2]
  ·rw[a1];exact .d a5
theorem alt_mapUpdate{x i v:Operand}{k:Nat}{ik:IntKind}{kvs:List (Int×D)}{n:Int}{et:TypeId}{vd:D}(hx:aN fr x=.mp k)(ho:s.obs[k]? = some [.mapc ik kvs])(hi:aN fr i=.d (.int ik n))(hv:(aN fr v).data? = some vd)(ht:mapT P t=some (ik,et))
  (h:R .undef ⟨s.obs.set k [.mapc ik (lp kvs n vd)],s.lns⟩):altR g ⟨d,.mapUpdate t x i v,ty,p,af,gd⟩ fr s R:=by
 intro w0 w G a hH hfr
 obtain⟨b,hb,hxv⟩:=inv_mp (hx▸aK hfr x)
 have hiv:=fw (hi▸aK hfr i)
 have hvr:=data_rel (aK hfr v) hv
 obtain⟨_,es,c,ik',kvs',h2,h3,h4⟩:=hH.mpl k b hb
 have h2':s.obs[k]? = some [.mapc ik' kvs']:=h2
 rw[ho]at h2';injection h2' with h2';injection h2' with h2' _;injection h2' with e1 e2;subst e1;subst e2
 obtain⟨kt,t1,t2⟩:=mapT_ok ht
 have hkey:MapKept.IsKey (.int ik) (.int ik n):=by simp[MapKept.IsKey]
 rcases find_rel (ik':=ik) n kvs es 0 h4 with⟨a1,a2,a3⟩|⟨dd,j,e0,a1,a2,a3,a4,a5,a6⟩
 ·have hP:=HRp.putMap hH hb (n:=c+1) (a3 vd ⟨.int ik n,a.eval v,c⟩ rfl hvr)
  rw[sg_set ho]at hP
  refine⟨.skip,_,.undef,⟨s.obs.set k [.mapc ik (lp kvs n vd)],s.lns⟩,G,?_,.inr ⟨rfl,rfl⟩,Cx.le.refl G,hP,h⟩
  simp[execOp,hxv,hiv,Instr.mapUpdate,run_underlying t1,MapKept.run_getObj_map h3,MapKept.run_checkKey t2 hkey,MapKept.run_findKey t2 a2,MapKept.run_setObj_map _ h3]
 ·have hj:=aF a3
  have hP:=HRp.putMap hH hb (n:=c) (a6 vd { e0 with key:=.int ik n,val:=a.eval v } rfl hvr)
  rw[sg_set ho]at hP
  refine⟨.skip,_,.undef,⟨s.obs.set k [.mapc ik (lp kvs n vd)],s.lns⟩,G,?_,.inr ⟨rfl,rfl⟩,Cx.le.refl G,hP,h⟩
  have hmod:es.modify j (λe=>{ key:=.int ik n,val:=a.eval v,born:=e.born })=es.set j { key:=.int ik n,val:=a.eval v,born:=e0.born }:=by
   simp_all[List.modify_eq_set]
  simp[execOp,hxv,hiv,Instr.mapUpdate,run_underlying t1,MapKept.run_getObj_map h3,MapKept.run_checkKey t2 hkey,MapKept.run_findKey t2 a2,a3,a4,MapKept.run_keyThatStays hkey,MapKept.run_setObj_map _ h3,hmod]
end
def D.scal(x:D):Bool:=x.kind?.isSome
variable {v:Value}
theorem scal_any{F':Nat→Nat→Value→Prop}{x:D}(h:x.scal=true)(r:relD F x v):relD F' x v:=by
 cases r with
 | int k n=>exact .int k n
 | bool b=>exact .bool b
 | str s=>exact .str s
 | nil A c=>grind[D.scal,D.kind?]
 | list es b off c sz u hne hcap hsz hF hr=>grind[D.scal,D.kind?]
 | other v h1=>exact .other v h1
def scalE(es:List (List D)):Bool:=es.all λe=>e.all D.scal
variable {es:List (List D)}{i j:Nat}
theorem scalE_at(h:scalE es=true){e:List D}{x:D}(he:es[i]? = some e)(hx:e[j]? = some x):x.scal=true:=by
 have h1:=List.all_eq_true.1 h e (List.mem_of_getElem? he)
 grind
variable {xs:List Value}
theorem HRp.newRow{w':World}(h:HRp P w0 w G obs lns)(hk:Kp w w')(k:Nat)(hko:obs k=none)
  (ho:w'.ownsRow w.heap.size e (P.cellsOf e) v es.length xs) (hr:kb G.F (P.cellsOf e) es xs) :
  let G':Cx:={ G with rv:=upd G.rv k ⟨0,P.cellsOf e,v⟩ }
  G.le G'∧HRp P w0 w' G' (upd obs k [.rowc e 0 es]) lns:=by
 intro G'
 have h':=h.kept hk
 have hnone:G.rv k=none:=by
  cases hq:G.rv k with
  | none=>rfl
  | some L=>obtain⟨_,_,_,h1,_⟩:=h.rvl k L hq;simp_all
 have hno:G.ob k=none:=by
  cases hq:G.ob k with
  | none=>rfl
  | some b=>exact absurd hko (h.obd k b hq)
 have hle:G.le G':=by
  refine⟨rfl,λ_ _ _ q=>q,λ_ _ q=>q,λ_ L q=>⟨L,q,rfl,.inl rfl⟩,λ_ _ q=>q,λj L q=>⟨L,?_,rfl,.inl rfl⟩,λ_ _ q=>q⟩
  grind[aU]
 have hrv:∀j L,G'.rv j=some L→(j=k∧L=⟨0,P.cellsOf e,v⟩)∨(j≠k∧G.rv j=some L):=by
  grind[aG,aU]
 have hnew:∀b,v.ownBlock=some b→w.heap.size≤b:=λb hb=>(ho.lt b hb).1
 have hobl:∀j b,G.ob j=some b→b<w.heap.size:=by
  intro j b q
  cases hq:obs j with
  | none=>exact absurd hq (h.obd j b q)
  | some cs =>
   obtain⟨b',_,_,h1,_,h3,_⟩:=h.obl j cs hq (h.obm j b q) (h.obr j b q)
   grind
 have hlvl:∀t L b,G.lv t=some L→L.v.ownBlock=some b→b<w.heap.size:=by
  intro t L b q hb
  cases hq:lns t with
  | none=>exact absurd hq (h.lvd t L q)
  | some en =>
   obtain⟨v',xs',h1,h2,_⟩:=h.lvl t en.1 en.2 hq
   rw[q]at h1;injection h1 with h1;subst h1
   exact (jU h2 b hb).2
 refine⟨hle,h'.kp,h'.fs,h'.fb,?_,?_,h'.obi,h'.lvd,h'.lvl,h'.lvi,h'.gb,h'.obm,?_,h'.mpi,?_,?_,?_,h'.tgs⟩
 ·intro j b q
  by_cases e:j=k
  grind
  ·rw[aU _ _ e];exact h.obd j b q
 ·intro j cs' q hm hq
  have e:j≠k:=λe=>by
   grind[aG]
  rw[aU _ _ e]at q
  have hq':G.rv j=none:=by
   grind[aU]
  obtain⟨b,vs',t',h1,h2,h3,h4,h5⟩:=h'.obl j cs' q hm hq'
  grind[fF]
 ·intro j b q
  obtain⟨h1,es',n,ik,kvs,h2,h3,h4⟩:=h'.mpl j b q
  grind[aU]
 ·intro j b q
  have e:j≠k:=λe=>by grind
  show upd G.rv k _ j=none
  rw[aU _ _ e];exact h.obr j b q
 ·intro j L q
  rcases hrv j L q with⟨rfl,rfl⟩|⟨e',q⟩
  ·refine⟨e,es,xs,aG _ _ _,rfl,trivial,own_mono ho h.kp.size,hr,λb hb=>⟨λj' q'=>?_,λo u q'=>?_,λt L' q' hb'=>?_⟩⟩
   grind
   ·have:=(h.fs b o u q').1;grind
   grind
  ·obtain⟨e2,es2,xs2,h1,h2,h3,h4,h5,h6⟩:=h'.rvl j L q
   grind[aU]
 ·intro j j' L L' b q q' h1 h2
  rcases hrv j L q with⟨e1,r1⟩|⟨e1,q1⟩<;>rcases hrv j' L' q' with⟨e2,r2⟩|⟨e2,q2⟩
  omega
  ·subst r1
   obtain⟨_,_,_,_,_,_,h4,_⟩:=h.rvl j' L' q2
   have:=(h4.lt b h2).2;grind
  ·subst r2
   obtain⟨_,_,_,_,_,_,h4,_⟩:=h.rvl j L q1
   have:=(h4.lt b h1).2;grind
  ·exact h.rvi j j' L L' b q1 q2 h1 h2
def SpecX{P:Program}(_:Pg P)(f:FuncId)(args:List V)(e:TypeId)(es:List (List D))(r2:List V):Prop :=
 cm P f=true∧∀(w:World) (F:Nat→Nat→Value→Prop) (vs:List Value),(∀b o v,F b o v→b<w.heap.size∧w.cell? ⟨b,o,none⟩=some v)→lP w F→rels (iz F) args vs →
  Calls P f ⟨vs⟩ w λen w'=>∃v us xs,en=.returned (.tuple ⟨v::us⟩)∧Kp w w'∧w'.ownsRow w.heap.size e (P.cellsOf e) v es.length xs∧(∀F',kb F' (P.cellsOf e) es xs)∧∀G,rels G r2 us
variable {args args':List V}{f:FuncId}{r2:List V}
theorem SpecX.toS(h:SpecX g f args' e es r2)(ha:args.map V.clean=args')(hR:R (.tuple (.gr s.obs.length 0::r2)) ⟨s.obs++[[.rowc e 0 es]],s.lns⟩):bf g f args s R:=by
 subst ha
 refine⟨h.1,λw0 w G vs hH hr=>?_⟩
 refine (h.2 w G.F vs hH.fs (hH.gb.kp hH.kp) ?_).mono ?_
 ·refine⟨by simp[hr.1],λi x v h1 h2=>?_⟩
  rw[List.getElem?_map]at h1
  cases hq:args[i]? with
  | none=>simp_all
  | some y=>rw[hq]at h1;simp at h1;subst h1;exact jo (hr.2 i y v hq h2) G.F (λ_ _ _ q=>q)
 ·rintro en w' ⟨v,us,xs,rfl,hk,ho,hx,hu⟩
  obtain⟨hle,hN⟩:=HRp.newRow hH hk s.obs.length (by simp) ho (hx G.F)
  rw[sg_push]at hN
  have hN':HR P w0 w' { G with rv:=upd G.rv s.obs.length ⟨0,P.cellsOf e,v⟩ } ⟨s.obs++[[.rowc e 0 es]],s.lns⟩:=hN
  have hone:v.oneCell'=true:=by
   obtain⟨A,c,hv⟩:=gI ho
   rw[hv];rfl
  refine⟨_,_,⟨s.obs++[[.rowc e 0 es]],s.lns⟩,_,rfl,hle,hN',.tuple _ _ ?_ ?_,hR⟩
  ·have:=(hu G).1;simp[this]
  ·have h1:rels { G with rv:=upd G.rv s.obs.length ⟨0,P.cellsOf e,v⟩ } (.gr s.obs.length 0::r2) (v::us) :=
    dM (.gr _ _ _ hone _ (aG _ _ _) (.inl ⟨rfl,rfl⟩)) (hu _)
   exact h1.2
def V.plainR:V→Bool
 | .d x=>x.scal
 | .agg cs=>cs.all λ| .d x=>x.scal | _=>false
 | _=>false
variable {G':Cx}{x:V}
theorem mJ(h:x.plainR=true)(r:rel G x v):rel G' x v:=by
 cases r with
 | d q=>exact .d (scal_any h q)
 | agg cs vs hl hr =>
  simp only[V.plainR,zD]at h
  refine .agg cs vs hl λi y u h1 h2=>?_
  have hy:=h y (List.mem_of_getElem? h1)
  have r:=hr i y u h1 h2
  cases r with
  | d q=>exact .d (scal_any hy q)
  | _=>simp at hy
 | _=>simp[V.plainR]at h
def XRes(s:Sg)(y:V)(e:TypeId)(es:List (List D))(r2:List V):Prop:=match y with
 | .tuple (.own t es'::ys)=>es'=es∧ys=r2∧s.lns[t]? = some (e,es.length)
 | .tuple (.nil::ys)=>es=[]∧ys=r2
 | _=>False
variable {c:Code}{fn:Func}
theorem specX_by(hf:P.funcs[f]? = some fn)(hb:fn.body=some c)(he:cm P f=true)(hdr:fg c=true)(hes:scalE es=true)(hsz:es.all (·.length==P.cellsOf e)=true)(h2:r2.all V.plainR=true)
  (h:SWs g c (retQ g fn.results.toList (λy s'=>XRes s' y e es r2)) (args++zF (fn.ntmps-args.length) .undef) ⟨[],[]⟩):SpecX g f args e es r2:=by
 refine⟨he,λw F vs hF hgl hr=>?_⟩
 have hs:=nt hf hb he hdr h
 have hH:HR P w w (iz F) ⟨[],[]⟩:=by
  refine⟨Kp.refl w,hF,λb o v q=>.inl q,?_,?_,?_,?_,?_,?_,hgl,λk b q=>(by cases q),λk b q=>(by cases q),λk k' b q=>(by cases q),λk b q=>(by cases q),λk L q=>(by cases q),λk k' L L' b q=>(by cases q),λb t q=>(by cases q)⟩
  ·intro k b q;cases q
  simp_all
  ·intro k k' b q;cases q
  ·intro t L q;cases q
  simp_all
  ·intro t t' L L' b q;cases q
 refine (hs.2 w w (iz F) vs hH hr).mono ?_
 rintro en w' ⟨v,y,s',G',rfl,q1,q2,q3,q4⟩
 have hpl:∀us,rels G' r2 us→∀G,rels G r2 us:=λus hu G=>⟨hu.1,λi x v h1 h3=>mJ (List.all_eq_true.1 h2 x (List.mem_of_getElem? h1)) (hu.2 i x v h1 h3)⟩
 unfold XRes at q4
 split at q4
 ·rename_i t es' ys
  obtain⟨rfl,rfl,hl⟩:=q4
  cases q3 with
  | tuple _ vs' hl' hr' =>
   cases vs' with
   | nil=>simp at hl'
   | cons v0 us =>
    obtain⟨r0,r1⟩:=aV (⟨hl',hr'⟩:rels G' (.own t es'::ys) (v0::us))
    obtain⟨vv,xs,g1,g2,g3⟩:=q2.lvl t e es'.length hl
    cases r0 with
    | own _ _ _ q L hL hszL hlast =>
     rw[g1]at hL;injection hL with hL;subst hL
     simp only at hszL hlast
     have hv:v0=vv:=by simp_all
     subst hv
     have g2:=g2.resolve_left (by rintro rfl;cases q)
     refine⟨v0,us,xs,rfl,q2.kp,g2,λF'=>⟨hszL,λi j c x hc hx=>?_⟩,hpl us r1⟩
     obtain⟨u,u1,u2⟩:=own_xs (λb o v q=>(q2.fs b o v q).2) q g2 hszL i j c x hc hx
     grind[scal_any,scalE_at]
 ·rename_i ys
  obtain⟨rfl,rfl⟩:=q4
  cases q3 with
  | tuple _ vs' hl' hr' =>
   cases vs' with
   | nil=>simp at hl'
   | cons v0 us =>
    obtain⟨r0,r1⟩:=aV (⟨hl',hr'⟩:rels G' (.nil::ys) (v0::us))
    cases r0
    exact⟨_,us,[],rfl,q2.kp,World.ownsRow_nil _ _ _ _,λF'=>⟨λi e h=>by simp at h,λi j e x h=>by simp at h⟩,hpl us r1⟩
 simp_all
section
variable {P : Program} {g : Pg P} {d : Option Tmp} {t ty : TypeId} {p : String} {af : Array Edge} {gd : Option (Nat × Bool)} {fr : Fr} {s : Sg} {R : V → Sg → Prop}
theorem inv_gr{w0 w:World}{G:Cx}{k n:Nat}{v:Value}{e:TypeId}{es:List (List D)}(hH:HR P w0 w G s)(r:rel G (.gr k n) v)(ho:s.obs[k]? = some [.rowc e n es]) :
  ∃L xs,G.rv k=some L∧v=L.v∧L.n=n∧L.sz=P.cellsOf e∧w.ownsRow w0.heap.size e L.sz v es.length xs∧kb G.F L.sz es xs:=by
 cases r with
 | gr _ _ _ h1 L hL hl =>
  obtain⟨e',es',xs,a1,a2,a3,a4,a5,a6⟩:=hH.rvl k L hL
  grind
theorem alt_lenR{x:Operand}{k n:Nat}{e e':TypeId}{es:List (List D)}(hx:aN fr x=.gr k n)(ho:s.obs[k]? = some [.rowc e n es])(ht:P.underlying t=some (.slice e'))(h:R (.d (.int .i64 (es.length:Int))) s):altR g ⟨d,.call ⟨.builtin .len,#[x],#[t]⟩,ty,p,af,gd⟩ fr s R:=by
 intro w0 w G a hH hfr
 obtain⟨L,xs,_,_,_,_,a4,_⟩:=inv_gr hH (hx▸aK hfr x) ho
 obtain⟨A,c,hv⟩:=gI a4
 refine⟨.value (.int .i64 es.length),w,_,s,G,?_,.inl ⟨_,rfl,.d (.int _ _)⟩,Cx.le.refl G,hH,h⟩
 simp[execOp,resolve,invoke,builtin,Builtin.len_,hv,run_underlying ht]
 rfl
theorem ci{x i:Operand}{k n:Nat}{e:TypeId}{es:List (List D)}{ki:IntKind}{m:Int}{sz:Nat}(hx:aN fr x=.gr k n)(ho:s.obs[k]? = some [.rowc e n es])(hi:aN fr i=.d (.int ki m))(ht:P.underlying t=some (.slice e))(hs:bs P e=some sz)(h0:0≤m)(hm:m<(es.length:Int))(h:R (.gp k n m.toNat 0) s):altR g ⟨d,.indexAddr t x i,ty,p,af,gd⟩ fr s R:=by
 intro w0 w G a hH hfr
 obtain⟨L,xs,a1,a2,a3,a4,a5,_⟩:=inv_gr hH (hx▸aK hfr x) ho
 have hiv:=fw (hi▸aK hfr i)
 obtain⟨b,cap,hv,_⟩:=a5.form (by omega)
 have hsz:L.sz=sz:=by
  grind[bs,Program.cellsOf]
 refine⟨.value (.pointer (some ⟨b,m.toNat*sz,none⟩)),w,_,s,G,?_,.inl ⟨_,rfl,.gp k n m.toNat 0 _ rfl L a1 (.inl ⟨a3.symm,b,?_,?_⟩)⟩,Cx.le.refl G,hH,h⟩
 ·simp[execOp,hv,hiv,Instr.indexAt,asIntOf,run_underlying ht,h0,hm,cn hs,Addr.add_lit]
 ·rw[←a2,hv];rfl
 simp_all
theorem inv_gp{w0 w:World}{G:Cx}{k n i off:Nat}{v:Value}{e:TypeId}{es:List (List D)}(hH:HR P w0 w G s)(r:rel G (.gp k n i off) v)(ho:s.obs[k]? = some [.rowc e n es]) :
  ∃L xs b,G.rv k=some L∧L.n=n∧L.sz=P.cellsOf e∧L.v.ownBlock=some b∧v=.pointer (some ⟨b,i*L.sz+off,none⟩)∧w.ownsRow w0.heap.size e L.sz L.v es.length xs∧kb G.F L.sz es xs:=by
 cases r with
 | gp _ _ _ _ _ h1 L hL hl =>
  obtain⟨e',es',xs,a1,a2,a3,a4,a5,a6⟩:=hH.rvl k L hL
  grind
theorem alt_fieldR{x:Operand}{k n i off f fo:Nat}{fty:TypeId}{m:Nat}{e:TypeId}{es:List (List D)}(hx:aN fr x=.gp k n i off)(ho:s.obs[k]? = some [.rowc e n es])(hf:aJ P t f=some (fo,fty))(hs:bs P fty=some m)(hm:m≠0)(h:R (.gp k n i (off+fo)) s):altR g ⟨d,.fieldAddr t x f,ty,p,af,gd⟩ fr s R:=by
 intro w0 w G a hH hfr
 obtain⟨L,xs,b,a1,a3,a4,a5,a6,a7,_⟩:=inv_gp hH (hx▸aK hfr x) ho
 obtain⟨fs,fd,hu,hfd,h1,h2⟩:=pP hf
 subst h1;subst h2
 refine⟨.value (.pointer (some ⟨b,i*L.sz+off+fd.offset,none⟩)),w,_,s,G,?_,.inl ⟨_,rfl,.gp k n i (off+fd.offset) _ rfl L a1 (.inl ⟨a3.symm,b,a5,by simp_all⟩)⟩,Cx.le.refl G,hH,h⟩
 simp_all[execOp,Instr.fieldAt,run_underlying,Instr.sureAddr,fieldPlace,cn,Addr.add_lit]
theorem own_at{w0 w:World}{e:TypeId}{sz n b:Nat}{v:Value}{xs:List Value}(h:w.ownsRow w0.heap.size e sz v n xs)(hb:v.ownBlock=some b):∃cap cur,v=.slice (some ⟨b,0,none⟩) n cap∧w0.heap.size≤b∧w.heap[b]? = some (.cells cur e (0,0))∧n≤cap∧cap≤maxLen∧cur.size=cap*sz∧cur.toList.take (n*sz)=xs:=by
 rcases h.2 with⟨rfl,_⟩|⟨g,cap,cur,rfl,r⟩
 ·cases hb
 ·have:g=b:=by injection hb
  simp_all
theorem pl{x:Operand}{k n i off:Nat}{e:TypeId}{es:List (List D)}{c:List D}{y:V}(hx:aN fr x=.gp k n i off)(ho:s.obs[k]? = some [.rowc e n es])(hc:es[i]? = some c)(hy:jv P t (gM c) off=some y)(h:R y s):altR g ⟨d,.load t x,ty,p,af,gd⟩ fr s R:=by
 intro w0 w G a hH hfr
 obtain⟨L,xs,b,a1,a3,a4,a5,a6,a7,a8⟩:=inv_gp hH (hx▸aK hfr x) ho
 obtain⟨cap,cur,c1,c2,c3,c4,c5,c6,c7⟩:=own_at a7 a5
 have hlen:=a8.1 i c hc
 have hi:=aF hc
 have hg:∀j,j<c.length→∃v,xs[i*L.sz+j]? = some v:=by
  intro j hj
  obtain⟨v,h1,h2⟩:=a8.2 i j c c[j] hc (List.getElem?_eq_getElem hj)
  simp_all
 have hr:rels G (gM c) ((zJ c.length).map λj=>(xs[i*L.sz+j]?).getD Go.undef):=by
  refine⟨by simp[gM],λj y v h1 h2=>?_⟩
  unfold gM at h1
  rw[List.getElem?_map]at h1
  cases hq:c[j]? with
  | none=>simp_all
  | some z =>
   rw[hq]at h1;simp at h1;subst h1
   have hj:=aF hq
   rw[List.getElem?_map,List.getElem?_range hj]at h2
   simp at h2;subst h2
   obtain⟨v,u1,u2⟩:=a8.2 i j c z hc hq
   rw[u1];exact .d u2
 obtain⟨v,r1,r2⟩:=me (P:=P) (b:=b) (o:=i*L.sz) (w:=w) hy hr (λj v hj=>by
  grind[cell_of_row])
 refine⟨.value v,w,y,s,G,?_,.inl ⟨_,rfl,r2⟩,Cx.le.refl G,hH,h⟩
 simp_all[execOp,Instr.loadAt,Instr.sureAddr]
def oq(c:List D)(off:Nat)(ds:List D):List D:=c.take off++ds++c.drop (off+ds.length)
theorem splice_at{α:Type}(l xs:List α)(o:Nat)(h:o+xs.length≤l.length)(j:Nat):(l.take o++xs++l.drop (o+xs.length))[j]? = if j<o then l[j]? else if j<o+xs.length then xs[j-o]? else l[j]?:=by
 grind
theorem HRp.putRow{w0 w w':World}{G:Cx}{obs:Nat→Option (List V)}{lns:Nat→Option (TypeId×Nat)}(h:HRp P w0 w G obs lns){k b:Nat}{L:Lv}(hk:G.rv k=some L)(hb:L.v.ownBlock=some b)(hg:w.grownBy w' (some b)){e:TypeId}{es:List (List D)}{xs:List Value}(he:∃es0,obs k=some [.rowc e L.n es0])(ho:w'.ownsRow w0.heap.size e L.sz L.v es.length xs)(hr:kb G.F L.sz es xs) :
  HRp P w0 w' G (upd obs k [.rowc e L.n es]) lns:=by
 obtain⟨e0,es0,xs0,g1,g2,g3,g4,g5,g6⟩:=h.rvl k L hk
 obtain⟨es1,he⟩:=he
 rw[g1]at he;injection he with he;injection he with he _;injection he with e1 _ e2;subst e1
 have hbk:∀b',b'<w.heap.size→b'≠b→w'.heap[b']? = w.heap[b']?:=λb' hl hn=>hg.block b' hl (λe=>hn (by injection e))
 have hnF:=(g6 b hb).2.1
 refine⟨h.kp.grown hg (λj hj=>by injection hj with hj;subst hj;exact (g4.lt _ hb).1),?_,h.fb,?_,?_,h.obi,h.lvd,?_,h.lvi,h.gb,h.obm,?_,h.mpi,h.obr,?_,h.rvi,λb' t q=>nk hg (λt' q'=>by rw[tag_own g4 hb]at q';grind[tag_own]) _ _ (h.tgs b' t q)⟩
 ·intro b' o v q
  have q1:=h.fs b' o v q
  grind[World.cell?_of_block]
 ·intro j b' q
  have e:j≠k:=λe=>by rw[e]at q;rw[h.obr k b' q]at hk;cases hk
  rw[aU _ _ e];exact h.obd j b' q
 ·intro j cs' q hm hrv
  have e:j≠k:=λe=>by simp_all
  rw[aU _ _ e]at q
  obtain⟨b',vs',t',h1,h2,h3,h4,h5⟩:=h.obl j cs' q hm hrv
  grind
 ·intro t' e n q
  obtain⟨v,xs',h1,h2,h3⟩:=h.lvl t' e n q
  exact⟨v,xs',h1,m5 h2 hg (.inr λhv=>(g6 b hb).2.2 t' _ h1 hv),h3⟩
 ·intro j b' q
  obtain⟨h1,es',n',ik',kvs',h2,h3,h4⟩:=h.mpl j b' q
  grind[own_at,aU]
 ·intro j L' q
  by_cases e:j=k
  grind[aG]
  ·obtain⟨e',es',xs',h1,h2,h3,h4,h5,h6⟩:=h.rvl j L' q
   exact⟨e',es',xs',by simp_all[aU],h2,h3,h4.kept hg (.inr λhv=>e (h.rvi j k L' L b q hk hv hb)),h5,h6⟩
theorem bU{x z:Operand}{k n i off m:Nat}{e:TypeId}{es:List (List D)}{c:List D}{cs:List V}{ds:List D}(hx:aN fr x=.gp k n i off)(ho:s.obs[k]? = some [.rowc e n es])(hc:es[i]? = some c)(hz:(aN fr z).cells? = some cs)(hd:ip cs=some ds)(hm:bs P t=some m)(hl:ds.length=m)(hf:off+m≤c.length)
  (h:R .undef ⟨s.obs.set k [.rowc e n (es.set i (oq c off ds))],s.lns⟩):altR g ⟨d,.store t x z,ty,p,af,gd⟩ fr s R:=by
 intro w0 w G a hH hfr
 obtain⟨L,xs,b,a1,a3,a4,a5,a6,a7,a8⟩:=inv_gp hH (hx▸aK hfr x) ho
 obtain⟨cap,cur,c1,c2,c3,c4,c5,c6,c7⟩:=own_at a7 a5
 have hlen:=a8.1 i c hc
 have hi:=aF hc
 generalize hnl:es.length=nl at *
 have hr:=gQ (aK hfr z) hz
 obtain⟨d1,d2⟩:=jl hr hd
 have hone:∀v∈(a.eval z).cells.toList,v.oneCell'=true:=by
  intro v hv
  obtain⟨j,hj,rfl⟩:=zQ hv
  have hjd:j<ds.length:=by omega
  exact relD_one (d2 j ds[j] _ (List.getElem?_eq_getElem hjd) (List.getElem?_eq_getElem hj))
 have hsz:(a.eval z).cells.size=m:=by simp_all
 have hin:i*L.sz+off+m≤nl*L.sz:=by
  have:(i+1)*L.sz≤nl*L.sz:=zA _ (by omega)
  grind
 have hxl:=a7.1
 have hcap:nl*L.sz≤cur.size:=by grind
 have hst:=run_storeCells_at (P:=P) b (i*L.sz+off) e (a.eval z).cells.toList 0 cur w c3 (by omega) hone
 simp only[Nat.add_zero]at hst
 have hvl:(a.eval z).cells.toList.length=m:=by omega
 generalize hW:w.setRow b (cur.toList.take (i*L.sz+off)++(a.eval z).cells.toList++cur.toList.drop (i*L.sz+off+(a.eval z).cells.toList.length)).toArray=w' at hst
 have hheap:=setRow_heap w b cur (cur.toList.take (i*L.sz+off)++(a.eval z).cells.toList++cur.toList.drop (i*L.sz+off+(a.eval z).cells.toList.length)).toArray e (0,0) c3
 rw[hW]at hheap
 have hg:w.grownBy w' (some b):=by rw[←hW];exact⟨rfl,rfl,rfl,by simp,λk _ hk=>setRow_other w b k _ (λe=>hk (by simp[e]))⟩
 have hel:i*L.sz+off+(a.eval z).cells.toList.length≤cur.toList.length:=by grind
 have hat:=splice_at cur.toList (a.eval z).cells.toList (i*L.sz+off) hel
 have hcurl:cur.toList.length=cur.size:=by simp
 generalize hN:cur.toList.take (i*L.sz+off)++(a.eval z).cells.toList++cur.toList.drop (i*L.sz+off+(a.eval z).cells.toList.length)=N at hat hheap
 have hNl:N.length=cur.size:=by grind
 have hxs:∀j,j<nl*L.sz→xs[j]? = cur.toList[j]?:=λj hj=>by grind
 have hown:w'.ownsRow w0.heap.size e L.sz L.v nl (N.take (nl*L.sz)):=by
  refine⟨by simp_all,.inr ⟨b,cap,N.toArray,c1,c2,hheap,c4,c5,by simp_all,rfl⟩⟩
 have hrow:kb G.F L.sz (es.set i (oq c off ds)) (N.take (nl*L.sz)):=by
  have hsl:(oq c off ds).length=c.length:=by grind[oq]
  refine⟨λi' c' hc'=>?_,λi' j c' x' hc' hx'=>?_⟩
  ·by_cases ei:i=i'
   simp_all
   ·rw[List.getElem?_set_ne ei]at hc';exact a8.1 i' c' hc'
  ·by_cases ei:i=i'
   ·subst ei
    rw[List.getElem?_set,qV rfl,qV (by omega)]at hc';injection hc' with hc';subst hc'
    have hj:j<L.sz:=by grind
    have hjn:i*L.sz+j<nl*L.sz:=by
     have:(i+1)*L.sz≤nl*L.sz:=zA _ (by omega)
     grind
    rw[List.getElem?_take,qV hjn,hat]
    unfold oq at hx'
    rw[splice_at c ds off (by omega)]at hx'
    by_cases h1:j<off
    ·rw[qV h1]at hx'
     rw[qV (by omega)]
     obtain⟨v,v1,v2⟩:=a8.2 i j c x' hc hx'
     simp_all
    ·rw[qU h1]at hx'
     rw[qU (by omega)]
     by_cases h2:j<off+ds.length
     grind
     ·rw[qU h2]at hx'
      rw[qU (by omega)]
      obtain⟨v,v1,v2⟩:=a8.2 i j c x' hc hx'
      simp_all
   ·rw[List.getElem?_set_ne ei]at hc'
    have hi':=aF hc'
    have hj:j<L.sz:=by have:=aF hx';have:=a8.1 i' c' hc';omega
    have hjn:i'*L.sz+j<nl*L.sz:=by
     have:(i'+1)*L.sz≤nl*L.sz:=zA _ (by omega)
     grind
    rw[List.getElem?_take,qV hjn,hat]
    obtain⟨v,v1,v2⟩:=a8.2 i' j c' x' hc' hx'
    refine⟨v,?_,v2⟩
    rw[hxs _ hjn]at v1
    rcases Nat.lt_or_gt_of_ne ei with q | q
    ·have:(i+1)*L.sz≤i'*L.sz:=zA _ (by omega)
     grind
    ·have:(i'+1)*L.sz≤i*L.sz:=zA _ (by omega)
     grind
 have hP:=HRp.putRow hH a1 a5 hg (es:=es.set i (oq c off ds)) ⟨es,a3▸ho⟩ (by simp_all) hrow
 rw[a3]at hP
 rw[sg_set ho]at hP
 have hP':HR P w0 w' G ⟨s.obs.set k [.rowc e n (es.set i (oq c off ds))],s.lns⟩:=hP
 refine⟨.skip,w',.undef,_,G,?_,.inr ⟨rfl,rfl⟩,Cx.le.refl G,hP',h⟩
 simp_all[execOp,Instr.storeAt,Instr.sureAddr,storeVar,cn]
end
theorem SrcOk.row{base:Nat}{sz:Nat}{ys:List (List D)}(ho:w.ownsRow base e sz v ys.length xs)(hr:kb F sz ys xs):SrcOk w F sz ys v:=by
 refine⟨λhy=>?_,λhy=>?_⟩
 grind[gI]
 ·obtain⟨b,cap,rfl,_⟩:=ho.form hy
  refine⟨b,0,cap,xs,rfl,ho.1,ho.cells rfl,λu hu=>?_,hr.2⟩
  obtain⟨q,hq,rfl⟩:=zQ hu
  have hl:=ho.1
  have hz:0<sz:=Nat.pos_of_ne_zero (λh=>by grind)
  have hi:q / sz<ys.length:=(Nat.div_lt_iff_lt_mul hz).2 (by omega)
  have he:=List.getElem?_eq_getElem hi
  have hm:q % sz<(ys[q / sz]).length:=by rw[hr.1 _ _ he];exact Nat.mod_lt _ hz
  obtain⟨u,u1,u2⟩:=hr.2 _ _ _ _ he (List.getElem?_eq_getElem hm)
  grind[Nat.div_add_mod',relD_one]
section
variable {P : Program} {g : Pg P} {d : Option Tmp} {t ty : TypeId} {p : String} {af : Array Edge} {gd : Option (Nat × Bool)} {fr : Fr} {s : Sg} {R : V → Sg → Prop}
theorem lns_set{s:Sg}{k:Nat}{c0 c:TypeId×Nat}(h:s.lns[k]? = some c0):upd (λk=>s.lns[k]?) k c=λj=>(s.lns.set k c)[j]?:=by
 grind[aG,aU]
theorem pK(s:Sg)(c:TypeId×Nat):upd (λk=>s.lns[k]?) s.lns.length c=λk=>(s.lns++[c])[k]?:=by
 grind[aG,aU]
theorem alt_appOwnR{x z:Operand}{j k n sz:Nat}{e e':TypeId}{es ys:List (List D)}(hx:aN fr x=.own j es)(hz:aN fr z=.gr k n)(ho:s.obs[k]? = some [.rowc e' n ys])(ht:appT P t=some (e,sz))(hs:P.cellsOf e'=sz)(hl:s.lns[j]? = some (e,es.length))(hsz:ys.all (·.length==sz)=true)(hb:cd (es.length+ys.length)=true)
  (h:R (.own j (es++ys)) ⟨s.obs,s.lns.set j (e,es.length+ys.length)⟩):altR g ⟨d,.call ⟨.builtin .append,#[x,z],#[t,t]⟩,ty,p,af,gd⟩ fr s R:=by
 intro w0 w G a hH hfr
 obtain⟨L,xs,a1,a2,a3,a4,a5,a6⟩:=inv_gr hH (hz▸aK hfr z) ho
 have hsrc:SrcOk w G.F sz ys (a.eval z):=by
  grind[SrcOk.row]
 obtain⟨u,w',G',r1,r2,r3,r4⟩:=app_src (ty:=ty) hH ht hl (hx▸aK hfr x) hsrc hsz (g8 hb)
 rw[lns_set hl]at r3
 have r3':HR P w0 w' G' ⟨s.obs,s.lns.set j (e,es.length+ys.length)⟩:=r3
 refine⟨.value u,w',_,_,G',?_,.inl ⟨u,rfl,r4⟩,r2,r3',h⟩
 simp_all[execOp,resolve,invoke,builtin]
end
def V.cleanS(s:Sg):V→V
 | .gr k n=>match s.obs[k]? with
  | some [.rowc _ ver es]=>if n=ver then .d (.list es)else .undef
  | _=>.undef
 | x=>x.clean
def V.plainT:V→Bool
 | .tuple cs=>cs.all V.plainR
 | x=>x.plainR
theorem plainT_any(h:x.plainT=true)(r:rel G x v):rel G' x v:=by
 cases r with
 | tuple cs vs hl hr =>
  simp only[V.plainT,zD]at h
  exact .tuple cs vs hl λi y u h1 h2=>mJ (h y (List.mem_of_getElem? h1)) (hr i y u h1 h2)
 | d q=>exact mJ (by simp_all[V.plainT]) (.d q)
 | agg cs vs hl hr=>exact mJ (by simp_all[V.plainT]) (.agg cs vs hl hr)
 | _=>simp[V.plainT,V.plainR]at h
mutual
def V.fz(k ver:Nat)(es:List (List D)):V→V
 | .gr j n=>if j=k∧n=ver then .d (.list es)else .gr j n
 | .gs j n off len=>if j=k∧n=ver then (if off+len≤es.length then .d (.list ((es.drop off).take len))else .undef)else .gs j n off len
 | .agg cs=>.agg (V.fzs k ver es cs)
 | .tuple cs=>.tuple (V.fzs k ver es cs)
 | x=>x
def V.fzs(k ver:Nat)(es:List (List D)):List V→List V
 | []=>[]
 | x::xs=>V.fz k ver es x::V.fzs k ver es xs
end
theorem fzs_eq(k ver:Nat)(es:List (List D)):∀cs:List V,V.fzs k ver es cs=cs.map (V.fz k ver es)
 | []=>by rw[V.fzs];rfl
 | x::xs=>by rw[V.fzs,fzs_eq k ver es xs];rfl
variable {ver:Nat}
theorem fz_rel(hle:G.le G')(hg:∀v,rel G (.gr k ver) v→relD G'.F (.list es) v)(hg2:∀off len v,off+len≤es.length→rel G (.gs k ver off len) v→relD G'.F (.list ((es.drop off).take len)) v){v:Value}(r:rel G x v):rel G' (V.fz k ver es x) v:=by
 induction r with
 | gr j n v h1 L hL hl =>
  rw[V.fz]
  split
  ·rename_i hjn
   obtain⟨rfl,rfl⟩:=hjn
   exact .d (hg v (.gr _ _ v h1 L hL hl))
  ·exact fG hle (.gr j n v h1 L hL hl)
 | agg cs vs hl _ ih =>
  rw[V.fz,fzs_eq]
  refine .agg _ vs (by simp_all) λi x v h1 h2=>?_
  grind
 | tuple cs vs hl _ ih =>
  rw[V.fz,fzs_eq]
  refine .tuple _ vs (by simp_all) λi x v h1 h2=>?_
  grind
 | undef v=>rw[V.fz];all_goals first | exact .undef v | simp
 | d q=>rw[V.fz];all_goals first | exact fG hle (.d q) | simp
 | ptr a b c q=>rw[V.fz];all_goals first | exact fG hle (.ptr a b c q) | simp
 | iptr a b c o u h1 h2=>rw[V.fz];all_goals first | exact fG hle (.iptr a b c o u h1 h2) | simp
 | own t es v q L hL hs hl=>rw[V.fz];all_goals first | exact fG hle (.own t es v q L hL hs hl) | simp
 | full es A q=>rw[V.fz];all_goals first | exact fG hle (.full es A q) | simp
 | nil=>rw[V.fz];all_goals first | exact .nil | simp
 | skip=>rw[V.fz];all_goals first | exact .skip | simp
 | sl a b c d e q=>rw[V.fz];all_goals first | exact fG hle (.sl a b c d e q) | simp
 | fn f cs vs hl h _=>rw[V.fz];all_goals first | exact fG hle (.fn f cs vs hl h) | simp
 | mp a b q=>rw[V.fz];all_goals first | exact fG hle (.mp a b q) | simp
 | gp a b c d v h1 L hL hl=>rw[V.fz];all_goals first | exact fG hle (.gp a b c d v h1 L hL hl) | simp
 | adr a v b q1 q2 q3=>rw[V.fz];all_goals first | exact fG hle (.adr a v b q1 q2 q3) | simp
 | gs j n off len v h1 L hL hl =>
  rw[V.fz]
  split
  ·rename_i hjn
   obtain⟨rfl,rfl⟩:=hjn
   split
   ·rename_i hle2
    exact .d (hg2 off len v hle2 (.gs _ _ _ _ v h1 L hL hl))
   ·exact .undef v
  ·exact fG hle (.gs j n off len v h1 L hL hl)
variable {a:Act}
theorem HR.frz   {G:Cx}  (h : HR P w0 w G s)    (ho : s.obs[k]? = some [.rowc e ver es])   (hfr : FR G fr a) :
    ∃G',G.le G'∧HR P w0 w G' ⟨(s.obs.map (V.fzs k ver es)).set k [.rowc e (ver+1) []],s.lns⟩∧FR G' (fr.map (V.fz k ver es)) a:=by
  cases hL:G.rv k with
  | none =>
    exfalso
    cases hm:G.mp k with
    | some b =>
      obtain⟨_,_,_,_,_,h2,_⟩:=h.mpl k b hm
      simp_all
    | none =>
      obtain⟨b,vs,t,_,_,_,h4,_⟩:=h.obl k _ ho hm hL
      cases vs with
      | nil=>have:=h4.1;simp at this
      | cons v us=>have:=(aV h4).1;cases this
  | some L =>
    obtain⟨e',es',xs,a1,a2,a3,a4,a5,a6⟩:=h.rvl k L hL
    have a1':s.obs[k]? = some [.rowc e' L.n es']:=a1
    rw[ho]at a1';injection a1' with a1';injection a1' with a1' _;injection a1' with e1 e2 e3;subst e1;subst e2;subst e3
    let G':Cx:={ G with F:=λb o u=>G.F b o u∨(L.v.ownBlock=some b∧o<es.length*L.sz∧w.cell? ⟨b,o,none⟩=some u),rv:=upd G.rv k ⟨L.n+1,L.sz,.slice none 0 0⟩ }
    have hrv:∀j L',G'.rv j=some L'→(j=k∧L'=⟨L.n+1,L.sz,.slice none 0 0⟩)∨(j≠k∧G.rv j=some L'):=by
      grind[aG,aU]
    have hle:G.le G':=by
      refine⟨rfl,λ_ _ _ q=>.inl q,λ_ _ q=>q,λ_ L q=>⟨L,q,rfl,.inl rfl⟩,λ_ _ q=>q,λj L' q=>?_,λ_ _ q=>q⟩
      grind[upd]
    have hgs:∀off len v,off+len≤es.length→rel G (.gs k L.n off len) v→relD G'.F (.list ((es.drop off).take len)) v:=by
      intro off len v hlen r
      cases r with
      | gs _ _ _ _ _ h1 L2 hL2 hl =>
        rw[hL]at hL2;injection hL2 with hL2;subst hL2
        have hel:((es.drop off).take len).length=len:=by simp;omega
        by_cases h0:len=0
        · subst h0
          rw[List.take_zero]
          rcases hl with⟨_,⟨b,c,z1,z2,z3⟩|⟨z1,A,c,z2⟩⟩ | q
          · rw[z2];exact .nil _ _
          · rw[z2];exact .nil _ _
          · omega
        · rcases hl with⟨_,⟨b,c,z1,z2,z3⟩|⟨z1,_⟩⟩ | q
          · have hcell : ∀ q u, xs[q]? = some u → w.cell? ⟨b, q, none⟩ = some u := by
              intro q u hu
              have:=a4.cells (g:=b) z1 q u hu
              simp_all[Addr.add_lit]
            have hat:∀(i:Nat) (c':List D),((es.drop off).take len)[i]? = some c'→i<len∧es[off+i]? = some c':=by
              grind
            rw[z2]
            have key:=relD.list (F:=G'.F) ((es.drop off).take len) b (off*L.sz) c L.sz (λi j=>(xs[(off+i)*L.sz+j]?).getD Go.undef) (by omega) (by omega) (λi c' hc=>a5.1 _ _ (hat i c' hc).2) (λi j c' x hc hx=>by
              obtain⟨hi,hc2⟩:=hat i c' hc
              obtain⟨u,u1,u2⟩:=a5.2 (off+i) j c' x hc2 hx
              rw[u1]
              have hj:j<L.sz:=by have:=aF hx;have:=a5.1 _ _ hc2;omega
              have h2:(off+i+1)*L.sz≤es.length*L.sz:=zA _ (by omega)
              grind) (λi j c' x hc hx=>by
              obtain⟨u,u1,u2⟩:=a5.2 (off+i) j c' x (hat i c' hc).2 hx
              grind[b8])
            simp_all
          · omega
          · omega
    have hgr:∀v,rel G (.gr k L.n) v→relD G'.F (.list es) v:=by
      intro v hv0
      obtain⟨L2,xs2,b1,b2,b3,b4,b5,b6⟩:=inv_gr h hv0 ho
      rw[hL]at b1;injection b1 with b1;subst b1
      by_cases h0:es.length=0
      · have:es=[]:=zB h0
        subst this
        obtain⟨A,c,hv⟩:=gI b5
        rw[hv];exact .nil _ _
      · obtain⟨b,cap,hv,_⟩:=b5.form (by omega)
        have hcap:es.length≤cap:=by
          rcases b5.2 with⟨z1,z2⟩|⟨g',cap',cur,z1,_,_,z3,_⟩<;>grind
        have hob:L.v.ownBlock=some b:=by rw[←b2,hv];rfl
        have hcell:∀q u,xs2[q]? = some u→w.cell? ⟨b,q,none⟩=some u:=by
          intro q u hu
          have:=b5.cells (g:=b) (by simp_all) q u hu
          simp_all[Addr.add_lit]
        rw[hv]
        refine .list es b 0 cap L.sz (λi j=>(xs2[i*L.sz+j]?).getD Go.undef) (by omega) hcap b6.1 (λi j c x hc hx=>?_) (λi j c x hc hx=>?_)
        · obtain⟨u,u1,u2⟩:=b6.2 i j c x hc hx
          rw[u1,zR]
          refine .inr ⟨hob,?_,hcell _ _ u1⟩
          have:=aF u1
          rw[b5.1]at this
          exact this
        · obtain⟨u,u1,u2⟩:=b6.2 i j c x hc hx
          grind[b8]
    have hmap:∀(j:Nat) (cs:List V),(s.obs.map (V.fzs k L.n es))[j]? = some cs→∃cs0,s.obs[j]? = some cs0∧cs=cs0.map (V.fz k L.n es):=by
      simp_all[fzs_eq]
    have hkeep:∀(j:Nat) (c:V),s.obs[j]? = some [c]→V.fz k L.n es c=c→(s.obs.map (V.fzs k L.n es))[j]? = some [c]:=by
      grind
    have ho2:(s.obs.map (V.fzs k L.n es))[k]? = some [.rowc e L.n es]:=hkeep k _ ho (by grind[V.fz])
    have hset:=sg_set (s:=⟨s.obs.map (V.fzs k L.n es),s.lns⟩) (c:=[.rowc e (L.n+1) []]) ho2
    have hHR:HRp P w0 w G' (upd (λj=>(s.obs.map (V.fzs k L.n es))[j]?) k [.rowc e (L.n+1) []]) (λt=>s.lns[t]?):=by
      refine⟨h.kp,?_,?_,?_,?_,h.obi,h.lvd,?_,h.lvi,h.gb.mono λ_ _ _ q=>.inl q,h.obm,?_,h.mpi,?_,?_,?_,h.tgs⟩
      · rintro b o u (q | ⟨_,_,q⟩)
        · exact h.fs b o u q
        · exact⟨cell_lt q,q⟩
      · rintro b o u (q | ⟨q,_,_⟩)
        · exact h.fb b o u q
        · exact .inr (a4.lt b q).1
      · intro j b q
        have e':j≠k:=λe'=>by rw[e']at q;rw[h.obr k b q]at hL;cases hL
        rw[aU _ _ e']
        have:=h.obd j b q
        simp_all
      · intro j cs q hm hq
        have e':j≠k:=λe'=>by
          grind[aG]
        rw[aU _ _ e']at q
        have hq':G.rv j=none:=by
          grind[aU]
        obtain⟨cs0,q0,rfl⟩:=hmap j cs q
        obtain⟨b,vs,t,h1,h2,h3,h4,h5⟩:=h.obl j cs0 q0 hm hq'
        refine⟨b,vs,t,h1,h2,h3,⟨by rw[zU];exact h4.1,λi x v i1 i2=>?_⟩,?_⟩
        · rw[List.getElem?_map]at i1
          cases hy:cs0[i]? with
          | none=>simp_all
          | some y=>rw[hy]at i1;injection i1 with i1;subst i1;exact fz_rel hle hgr hgs (h4.2 i y v hy i2)
        grind
      · intro t e n q
        obtain⟨v,xs',h1,h2,h3⟩:=h.lvl t e n q
        refine⟨v,xs',h1,h2,λb hb=>⟨(h3 b hb).1,?_⟩⟩
        grind
      · intro j b q
        obtain⟨h1,es',n',ik',kvs',h2,h3,h4⟩:=h.mpl j b q
        grind[V.fz,relM_mono]
      · intro j b q
        have e':j≠k:=λe'=>by rw[e']at q;rw[h.obr k b q]at hL;cases hL
        show upd G.rv k _ j=none
        rw[aU _ _ e'];exact h.obr j b q
      · intro j L' q
        rcases hrv j L' q with⟨rfl,rfl⟩|⟨ej,q⟩
        · exact⟨e,[],[],aG _ _ _,a2,trivial,World.ownsRow_nil _ _ _ _,⟨λi e h=>by simp at h,λi j e x h=>by simp at h⟩,λb hb=>by grind[Value.ownBlock]⟩
        · obtain⟨e2,es2,xs2,h1,h2,h3,h4,h5,h6⟩:=h.rvl j L' q
          refine⟨e2,es2,xs2,by grind[V.fz],h2,h3,h4,ny (λ_ _ _ q=>.inl q) h5,λb hb=>⟨(h6 b hb).1,?_,(h6 b hb).2.2⟩⟩
          rintro o u (q' | ⟨q',_,_⟩)
          simp_all
          · exact ej (h.rvi j k L' L b q hL hb q')
      · intro j j' L1 L2 b q q' h1 h2
        rcases hrv j L1 q with⟨_,rfl⟩|⟨e1,q1⟩
        simp_all[Value.ownBlock]
        · rcases hrv j' L2 q' with⟨_,rfl⟩|⟨e2,q2⟩
          simp_all[Value.ownBlock]
          · exact h.rvi j j' L1 L2 b q1 q2 h1 h2
    rw[hset]at hHR
    refine⟨G',hle,hHR,by rw[zU];exact hfr.1,λt=>?_⟩
    have ht:=hfr.2 t
    rw[List.getD_eq_getElem?_getD]at ht ⊢
    rw[List.getElem?_map]
    cases hq:fr[t]? with
    | none=>exact .undef _
    | some x =>
      rw[hq]at ht
      simp only[Option.map_some,zI]at ht ⊢
      exact fz_rel hle hgr hgs ht
variable {Q:SQ}
theorem SWs.frz(k:Nat)(ho:s.obs[k]? = some [.rowc e ver es])(h:SWs g c Q (fr.map (V.fz k ver es)) ⟨(s.obs.map (V.fzs k ver es)).set k [.rowc e (ver+1) []],s.lns⟩):SWs g c Q fr s:=by
 intro hdr w0 G0 G a w h0 hH hfr hd
 obtain⟨G',g1,g2,g3⟩:=HR.frz hH ho hfr
 exact h hdr w0 G0 G' a w (h0.trans g1) g2 g3 hd
open Go.RowKit
set_option linter.unusedVariables false
set_option linter.unusedSimpArgs false
def tailOk(ops:Array Oper)(m:Nat):Bool :=
 let C:=clos ops.toList []
 (zJ ops.size).all λi=>(decide (i<m)||(zJ i).all λj=>(C.getD i []).contains j)&&match ops[i]? with | some o=>(ju o).all λk=>decide (k<i) | none=>true
def lH(ops:Array Oper)(m:Nat):Bool:=decide (m≤ops.size)&&(ops.toList.take m).all λo=>match o.guard with | some (j,_)=>decide (j<m) | none=>true
def dn(ops:Array Oper)(m:Nat):Array Oper:=⟨ops.toList.take m⟩
variable {m:Nat}{ops:Array Oper}
theorem headA_at:(dn ops m)[j]? = if j<m then ops[j]? else none:=by
 show (ops.toList.take m).toArray[j]? = _
 grind
theorem headA_size(h:m≤ops.size):(dn ops m).size=m:=by
 show (ops.toList.take m).toArray.size=m
 simp;omega
theorem mz{o:Oper}(h:tailOk ops m=true)(ho:ops[i]? = some o):(m≤i→∀j,j<i→j∈(clos ops.toList []).getD i [])∧∀k∈ju o,k<i:=by
 unfold tailOk at h
 simp only[zD,zK]at h
 have:=h i (lZ ho)
 rw[ho]at this
 simp only[zV,rc,zM,zD,zK,zO]at this
 grind
variable {o:Oper}
theorem headOk_at(h:lH ops m=true)(ho:ops[i]? = some o)(hi:i<m){b:Bool}(hg:o.guard=some (j,b)):j<m:=by
 unfold lH at h
 simp only[zM,zD]at h
 have:=h.2 o (List.mem_of_getElem? (i:=i) (by grind))
 simp_all
theorem yielded_head{tm:Array Value}(h:j<m):yielded (dn ops m) tm j=yielded ops tm j:=by
 simp_all[yielded,headA_at]
theorem wanted_head(h:lH ops m=true)(ho:ops[i]? = some o)(hi:i<m)(tm:Array Value):Region.wanted o (yielded (dn ops m) tm)=Region.wanted o (yielded ops tm):=by
 grind[Region.wanted,yielded_head,headOk_at]
def full(n i:Nat):Array Bool:=((zJ n).map λj=>decide (j<i)).toArray
theorem lI(n i:Nat):(full n i).size=n:=by simp[full]
variable {n:Nat}
theorem jJ(d:Bool)(h:j<n):(full n i).getD j d=decide (j<i):=by
 simp_all[full]
theorem full_set(h:i<n):(full n i).setIfInBounds i true=full n (i+1):=by
 apply Array.ext
 ·simp[lI]
 ·intro j h1 h2
  have hj:j<n:=by simp_all[lI]
  have e1:=jJ (i:=i+1) false hj
  rw[Array.getD_eq_getD_getElem?,Array.getElem?_eq_getElem h2]at e1
  simp only[zI]at e1
  rw[e1]
  have e2:=nU (full n i) i j (by grind[lI])
  rw[Array.getD_eq_getD_getElem?,Array.getElem?_eq_getElem h1]at e2
  simp only[zI]at e2
  rw[e2,jJ false hj]
  grind
theorem qt{Q Q':Exit→Act→World→Prop}{K K':Act→World→Prop}{a:Act}{w:World}(hQ':∀e a w,e≠.normal→¬Q' e a w)(hK:∀a w,K' a w→K a w)(h:o.wp P a w K' Q'∨(o.asks P a w∧LetsOut Q')):o.wp P a w K Q∨(o.asks P a w∧LetsOut Q):=by
 have hno:¬LetsOut Q':=λ⟨a,w,q⟩=>hQ' _ a w (by simp) q
 rcases h with h | ⟨_,h⟩
 ·left
  unfold Oper.wp at *
  generalize (execOp a.eval o).run P w=r at *
  cases r with
  | ok n w' =>
   cases n<;>grind[Oper.upon,Calls.mono,Rows.mono]
  | halt x w' =>
   cases x<;>simp only[Oper.upon]at h ⊢<;>first | exact h | simp_all
 simp_all
section
variable {P : Program} {ops : Array Oper} {Q : Exit → Act → World → Prop} {m : Nat}
theorem tail_any(ht:tailOk ops m=true):∀(r i:Nat) (a:Act) (w:World),i+r=ops.size→m≤i→wpList P ops Q (ops.toList.drop i) a w→∀f,r≤f→wpAny P .any ops Q f (full ops.size i) a w
  | 0,i,a,w,hi,hm,h,f,_=>by
    have hd:ops.toList.drop i=[]:=List.drop_eq_nil_of_le (by simp;omega)
    rw[hd]at h
    refine wpAny_done ?_ h f
    simp_all[Region.ready,full]
  | r+1,i,a,w,hi,hm,h,f,hf=>by
    obtain⟨f,rfl⟩:∃f',f=f'+1:=⟨f-1,by omega⟩
    obtain⟨o,ho⟩:∃o,ops[i]? = some o:=⟨ops[i],Array.getElem?_eq_getElem (by omega)⟩
    have hp:=(mz ht ho).2
    have hlt:=lZ ho
    have hready:i∈Region.ready .any ops (full ops.size i):=by
      rw[mem_ready]
      refine⟨by rw[jJ true hlt];simp,o,ho,λe he hb=>?_⟩
      have hk:e.on∈ju o:=by
        grind[ju]
      have:=hp _ hk
      rw[jJ false (by omega)]
      simp_all
    refine⟨λhe=>by simp_all,λj hj=>?_⟩
    have hji:j=i:=by
      obtain⟨h1,x,hx,hpr⟩:=mem_ready.1 hj
      have hjl:=lZ hx
      rw[jJ true hjl]at h1
      simp only[decide_eq_false_iff_not,Nat.not_lt]at h1
      rcases Nat.eq_or_lt_of_le h1 with e | q
      omega
      · exfalso
        have hcj:=(mz ht hx).1 (by omega) i q
        have key:=clos_ok (ops:=ops) (lis:=λk=>k<i∨k=j) (λk y hy hk p hpy=>by
          rcases hk with hk | rfl
          · exact .inl (by have:=(mz ht hy).2 p hpy;omega)
          · rw[hx]at hy;injection hy with hy;subst hy
            have hlp:=(mz ht hx).2 p hpy
            unfold ju at hpy
            obtain⟨e,he,rfl⟩:=List.mem_map.1 hpy
            obtain⟨he1,he2⟩:=List.mem_filter.1 he
            have:=hpr e (by simp_all) he2
            rw[jJ false (by omega)]at this;simp_all) ops.toList [] (λk=>by simp) (λk l h=>by simp at h) j i hcj (.inr rfl)
        omega
    subst hji
    rw[zL (by omega)]at h
    have ho':ops.toList[j]=o:=by
      simp_all
    rw[ho']at h
    unfold wpList at h
    unfold wpOp
    rw[ho]
    simp only
    rw[full_set hlt]
    have ih:=λa' w' hh=>tail_any ht r (j+1) a' w' (by omega) (by omega) hh f (by omega)
    split
    · rename_i hw
      rw[qV hw]at h
      grind[Oper.wp_mono]
    simp_all
theorem head_any (ht : ∀ (i : Nat) (o : Oper), ops[i]? = some o → (m ≤ i → ∀ j, j < m → j ∈ (clos ops.toList []).getD i []) ∧ ∀ k ∈ ju o, k < i) (hh : lH ops m = true) {T : Act → World → Prop} (hT : ∀ a w, T a w → ∀ f, ops.size - m ≤ f → wpAny P .any ops Q f (full ops.size m) a w) :
    ∀(f:Nat) (L L':Array Bool) (a:Act) (w:World),L.size=ops.size→L'.size=m→(∀j,j<m→L.getD j false=L'.getD j false)→(∀j,m≤j→L.getD j false=false)→(∀i o,ops[i]? = some o→L.getD i false=true→∀p∈ju o,L.getD p false=true) →
      wpAny P .any (dn ops m) (λe a w=>e=.normal∧T a w) f L' a w→wpAny P .any ops Q (f+(ops.size-m)) L a w:=by
  have hm:m≤ops.size:=by simp_all[lH]
  have gd:∀{L:Array Bool} {j:Nat} (d:Bool),j<L.size→L.getD j d=L.getD j false:=by
    simp_all
  have hrdy:∀(L L':Array Bool),L.size=ops.size→L'.size=m→(∀j,j<m→L.getD j false=L'.getD j false)→∀i,i<m→(i∈Region.ready .any (dn ops m) L'↔i∈Region.ready .any ops L):=by
    intro L L' h1 h2 h3 i hi
    rw[mem_ready,mem_ready,headA_at,qV hi,gd true (by omega),gd true (by omega),h3 i hi]
    constructor
    grind
    · rintro⟨q1,o,ho,q2⟩
      refine⟨q1,o,ho,λe he hb=>?_⟩
      have hk:e.on∈ju o:=by
        grind[ju]
      grind
  have hall:∀(L L':Array Bool),L.size=ops.size→L'.size=m→(∀j,j<m→L.getD j false=L'.getD j false)→(∀j,m≤j→L.getD j false=false)→(∀j,j<m→L.getD j false=true)→Region.ready .any (dn ops m) L'=[]∧L=full ops.size m:=by
    intro L L' h1 h2 h3 h4 h5
    constructor
    · cases hr:Region.ready .any (dn ops m) L' with
      | nil=>rfl
      | cons j js =>
        exfalso
        have hj:j∈Region.ready .any (dn ops m) L':=by rw[hr];simp
        grind[mem_ready]
    · apply Array.ext
      grind[lI]
      · intro j q1 q2
        have hj:j<ops.size:=by omega
        have e1:=jJ (i:=m) false hj
        rw[Array.getD_eq_getD_getElem?,Array.getElem?_eq_getElem q2]at e1
        simp only[zI]at e1
        rw[e1]
        have e2:L.getD j false=L[j]:=by simp_all
        grind
  have hnot:∀(L L':Array Bool),L.size=ops.size→L'.size=m→(∀j,j<m→L.getD j false=L'.getD j false)→¬(∀j,j<m→L.getD j false=true)→Region.ready .any (dn ops m) L'≠[]:=by
    intro L L' h1 h2 h3 h5 he
    apply h5
    intro i
    induction i using Nat.strongRecOn with
    | _ i ihi =>
      intro hlt
      cases hb:L.getD i false with
      | true=>rfl
      | false =>
        exfalso
        obtain⟨o,ho⟩:∃o,ops[i]? = some o:=⟨ops[i]'(by omega),Array.getElem?_eq_getElem (by omega)⟩
        have:i∈Region.ready .any (dn ops m) L':=by
          rw[mem_ready]
          refine⟨by simp_all,o,by simp_all[headA_at],λe he hbd=>?_⟩
          have hk:e.on∈ju o:=by
            grind[ju]
          grind
        simp_all
  intro f
  induction f with
  | zero =>
    intro L L' a w h1 h2 h3 h4 h5 h
    by_cases hd:∀j,j<m→L.getD j false=true
    · rw[(hall L L' h1 h2 h3 h4 hd).2]
      exact hT a w h.2.2 _ (by omega)
    · exact absurd h.1 (hnot L L' h1 h2 h3 hd)
  | succ f ih =>
    intro L L' a w h1 h2 h3 h4 h5 h
    by_cases hd:∀j,j<m→L.getD j false=true
    · obtain⟨q1,q2⟩:=hall L L' h1 h2 h3 h4 hd
      rw[q2]
      exact hT a w (h.1 q1).2 _ (by omega)
    · rw[show f+1+(ops.size-m)=(f+(ops.size-m))+1 by omega]
      refine⟨λhe=>?_,λi hi=>?_⟩
      · exfalso
        refine hnot L L' h1 h2 h3 hd ?_
        cases hr:Region.ready .any (dn ops m) L' with
        | nil=>rfl
        | cons j js =>
          exfalso
          have hj:j∈Region.ready .any (dn ops m) L':=by rw[hr];simp
          grind[mem_ready]
      · obtain⟨r1,o,ho,r2⟩:=mem_ready.1 hi
        have hlt:=lZ ho
        have hpr:∀p∈ju o,L.getD p false=true:=by
          intro p hpp
          obtain⟨e,he,rfl⟩:=List.mem_map.1 hpp
          grind
        have him:i<m:=by
          rcases zG i m with z | z
          · exact z
          · exfalso
            apply hd
            intro j hj
            have key:=clos_ok (ops:=ops) (lis:=λk=>L.getD k false=true∨k=i) (λk y hy hk p hpy=>by
              grind) ops.toList [] (λk=>by simp) (λk l h=>by simp at h) i j ((ht _ _ ho).1 z j hj) (.inr rfl)
            grind
        have hop:=h.2 i ((hrdy L L' h1 h2 h3 i him).2 hi)
        unfold wpOp at hop ⊢
        rw[headA_at,qV him,ho]at hop
        rw[ho]
        simp only at hop ⊢
        rw[wanted_head hh ho him]at hop
        have hset:∀j,(L.setIfInBounds i true).getD j false=(if j=i then true else L.getD j false):=λj=>nU L i j (by omega)
        have hset':∀j,(L'.setIfInBounds i true).getD j false=(if j=i then true else L'.getD j false):=λj=>nU L' i j (by omega)
        have hk:∀a w,wpAny P .any (dn ops m) (λe a w=>e=.normal∧T a w) f (L'.setIfInBounds i true) a w→wpAny P .any ops Q (f+(ops.size-m)) (L.setIfInBounds i true) a w:=by
          intro a w hh'
          refine ih _ _ a w (by grind) (by grind) (λj hj=>?_) (λj hj=>?_) (λj x hx hj p hpp=>?_) hh'
          grind
          grind
          · rw[hset]at hj ⊢
            split
            · rfl
            grind
        split
        · rename_i hw
          rw[qV hw]at hop
          grind[qt]
        grind
end
variable {K:Fr → Sg → Prop}{id:Nat}
theorem region_tail     {fr:Fr} {s:Sg}  (m : Nat) (ht : tailOk ops m = true) (hh : lH ops m = true) (hd : gu (dn ops m) = true)
    (h:regS g true (dn ops m) (dn ops m).toList fr s (λfr' s'=>sepL (seps (dn ops m)) fr'=true∧regW g ops (ops.toList.drop m) fr' s' K)) {w:World} {G0:Cx} {a:Act} {Q:Exit→Act→World→Prop} (hQ:∀a w,Post g w0 G0 K a w→Q .normal a w) (h0:G0.le G) (hH:HR P w0 w G s) (hfr:FR G fr a) (hdf:a.defers=[]) :
    (Code.region id ops true).wp P Q a w:=by
  have hm:m≤ops.size:=by simp_all[lH]
  obtain⟨frs,sgs,res,eff,e1,e2,htr,hK⟩:=trace_of (dn ops m).toList 0 fr s rfl (zE _) h
  refine wp_region_any g.mixed ?_
  have hrep:∀(n j:Nat),(Array.replicate n false).getD j false=false:=by
    intro n j
    rw[Array.getD_eq_getD_getElem?]
    grind
  have hsz:(dn ops m).size=m:=headA_size hm
  have key:=head_any (P:=P) (Q:=Q) (T:=λa w=>Post g w0 G0 (λfr' s'=>regW g ops (ops.toList.drop m) fr' s' K) a w) (λi o ho=>⟨λq j hj=>(mz ht ho).1 q j (by omega),(mz ht ho).2⟩) hh (λa w hp f hf=>by
    obtain⟨G',fr',s',q1,q2,q3,q4,q5⟩:=hp
    exact tail_any ht (ops.size-m) m a w (by omega) (zH _) (q5 w0 G0 G' a w Q hQ q1 q2 q3 q4) f hf) m (Array.replicate ops.size false) (Array.replicate m false) a { w with drawn:=w.drawn+1 } (by simp) (by simp) (λj hj=>by simp_all) (λj hj=>hrep _ _) (λi o _ hl=>by simp_all)
  rw[show m+(ops.size-m)=ops.size by omega]at key
  refine key ?_
  have:=reg_drawn (Q:=λe a w=>e=.normal∧Post g w0 G0 (λfr' s'=>regW g ops (ops.toList.drop m) fr' s' K) a w) htr hd (λa w hp=>⟨rfl,hp⟩) hK.2 hK.1 (dn ops m).size (Array.replicate (dn ops m).size false) G a { w with drawn:=w.drawn+1 } (by simp) (λi o _ hl=>by simp_all) (cnt_le _ _) h0 ?_ ?_ hdf
  simp_all
  · have e3 : obsR sgs eff (Array.replicate (dn ops m).size false) (dn ops m).size = λk => s.obs[k]? := by
      funext k
      rw[kg (i:=0) (zE _) λj _ _ _=>hrep _ j]
      show (sgs 0).obs[k]? = _
      rw[e2]
    have e4:lnsL (dn ops m).size sgs eff (Array.replicate (dn ops m).size false)=λk=>s.lns[k]?:=by
      unfold lnsL
      rw[qU]
      · rw[←e2];rfl
      simp_all
    rw[e3,e4]
    exact hH.kept ((Kp.refl w).drew)
  · have : cfL (dn ops m) frs res (Array.replicate (dn ops m).size false) = fr := by
      rw[←e1]
      apply List.ext_getElem?
      intro t
      have hl1:=cf_len (dn ops m) frs res (Array.replicate (dn ops m).size false)
      rcases zG t (frs 0).length with z | z
      · have a1 : (cfL (dn ops m) frs res (Array.replicate (dn ops m).size false))[t]? = some ((cfL (dn ops m) frs res (Array.replicate (dn ops m).size false)).getD t .undef) := by
          simp_all
        have a2:(frs 0)[t]? = some ((frs 0).getD t .undef):=by
          simp_all
        rw[a1,a2,pf]
        unfold valAt
        rw[lw_cut 0 (dn ops m).size (zE _) (λj _ _ _=>hrep _ j)]
        rfl
      simp_all
    simp_all
theorem wantedS_head(h:lH ops m=true)(ho:ops[i]? = some o)(hi:i<m)(fr:Fr):bo (dn ops m) fr o=bo ops fr o:=by
 unfold bo
 cases hg:o.guard with
 | none=>rfl
 | some p =>
  obtain⟨j,b⟩:=p
  simp only
  rw[headA_at,qV (headOk_at h ho hi hg)]
theorem regS_head{P:Program}{g:Pg P}{ops:Array Oper}{m:Nat}{K:Fr→Sg→Prop}(hh:lH ops m=true):∀(l:List Oper) (fr:Fr) (s:Sg),(∀o∈l,o∈ops.toList.take m)→regS g true ops l fr s K→regS g true (dn ops m) l fr s K
 | [],fr,s,_,h=>h
 | o::rest,fr,s,hl,h=>by
  have ih:=λfr s=>regS_head (P:=P) (g:=g) (K:=K) hh rest fr s (λx hx=>hl x (by simp[hx]))
  obtain⟨i,hi⟩:=List.mem_iff_getElem?.1 (hl o (by simp))
  have him:i<m:=by grind
  rw[List.getElem?_take,qV him]at hi
  unfold regS at h ⊢
  rw[wantedS_head hh (by simp_all) him]
  cases hw:bo ops fr o with
  | none=>simp_all
  | some b =>
   rw[hw]at h
   simp only at h ⊢
   cases b with
   | false =>
    simp_all
   | true =>
    rw[qV rfl]at h ⊢
    split at h
    ·rename_i f args tys hop
     split at h
     ·rename_i fid xs hc
      simp only[qX]at h ⊢
      obtain⟨r,hs,hr⟩:=h
      exact⟨r,hs,ih _ _ hr⟩
     omega
    grind
theorem SWs.regionT{fr:Fr}{s:Sg}(m:Nat)(L:List (Tmp×Tmp))(hL:(tailOk ops m,lH ops m,gu (dn ops m),seps (dn ops m))=(true,true,true,L))
  (h:regS g true ops (ops.toList.take m) fr s (λfr' s'=>sepL L fr'=true∧regW g ops (ops.toList.drop m) fr' s' (Q .normal))):SWs g (.region id ops true) Q fr s:=by
 injection hL with ht hL
 injection hL with hh hL
 injection hL with hd hL
 exact λ_ w0 G0 G a w h0 hH hfr hdf=>region_tail m ht hh hd (by rw[hL];exact regS_head hh _ _ _ (λo ho=>ho) h) (λ_ _ q=>q) h0 hH hfr hdf
open Go.RowKit
set_option linter.unusedVariables false
set_option linter.unusedSimpArgs false
def tailW(ops:Array Oper)(m:Nat):Bool :=
 let C:=clos ops.toList []
 (zJ ops.size).all λi=>(decide (i<m)||(zJ m).all λj=>(C.getD i []).contains j)&&match ops[i]? with | some o=>(ju o).all λk=>decide (k<i) | none=>true
theorem tailW_at{o:Oper}(h:tailW ops m=true)(ho:ops[i]? = some o):(m≤i→∀j,j<m→j∈(clos ops.toList []).getD i [])∧∀k∈ju o,k<i:=by
 unfold tailW at h
 simp only[zD,zK]at h
 have:=h i (lZ ho)
 rw[ho]at this
 simp only[zV,rc,zM,zD,zK,zO]at this
 grind
def regA{P:Program}(g:Pg P)(ops:Array Oper)(K:Fr→Sg→Prop)(L:Array Bool)(fr:Fr)(s:Sg):Prop :=
 L.size=ops.size→∀f,cnt L ops.size≤f→∀(w0:World) (G0 G:Cx) (a:Act) (w:World) (Q:Exit→Act→World→Prop),(∀a w,Post g w0 G0 K a w→Q .normal a w)→G0.le G→HR P w0 w G s→FR G fr a→a.defers=[]→wpAny P .any ops Q f L a w
section
variable {P : Program} {g : Pg P} {ops : Array Oper} {K : Fr → Sg → Prop} {L : Array Bool} {fr : Fr} {s : Sg}
theorem regA.nil(hr:Region.ready .any ops L=[])(h:K fr s):regA g ops K L fr s :=
 λ_ f _ w0 G0 G a w Q hQ h0 hH hfr hd=>wpAny_done hr (hQ _ _ ⟨G,fr,s,h0,hH,hfr,hd,h⟩) f
theorem regA.step{R:List Nat}(hr:Region.ready .any ops L=R)(hne:R≠[])(h:∀j∈R,∃o,ops.toList[j]? = some o∧regW g ops [o] fr s (λfr' s'=>regA g ops K (L.setIfInBounds j true) fr' s')):regA g ops K L fr s:=by
  subst hr
  intro hL f hf w0 G0 G a w Q hQ h0 hH hfr hd
  have hlis:∀j∈Region.ready .any ops L,j<L.size∧L.getD j false=false:=by
    grind[mem_ready]
  have hpos:0<cnt L ops.size:=by
    obtain⟨j,hj⟩:=List.exists_mem_of_ne_nil _ hne
    grind[pQ]
  obtain⟨f,rfl⟩:∃q,f=q+1:=⟨f-1,by omega⟩
  refine⟨λhe=>absurd he hne,λi hi=>?_⟩
  obtain⟨o,ho,hw⟩:=h i hi
  obtain⟨b1,b2⟩:=hlis i hi
  have hcnt:=(lM L i b1 b2 ops.size).1 (by omega)
  have hl:=hw w0 G0 G a w (λe a w=>e=.normal∧wpAny P .any ops Q f (L.setIfInBounds i true) a w) (λa w hp=>by
    obtain⟨G',fr',s',q1,q2,q3,q4,q5⟩:=hp
    exact⟨rfl,q5 (by simp_all) f (by omega) w0 G0 G' a w Q hQ q1 q2 q3 q4⟩) h0 hH hfr hd
  unfold wpList at hl
  unfold wpOp
  rw[show ops[i]? = some o by simp_all]
  simp only at hl ⊢
  split
  · rename_i hw'
    rw[qV hw']at hl
    exact qt (λe a w he q=>he q.1) (λa w q=>q.2) hl
  · rename_i hw'
    rw[qU hw']at hl
    exact hl.2
theorem regA.one{j:Nat}{o:Oper}(hr:Region.ready .any ops L=[j])(ho:ops.toList[j]? = some o)(h:regW g ops [o] fr s (λfr' s'=>regA g ops K (L.setIfInBounds j true) fr' s')):regA g ops K L fr s :=
 regA.step hr (by simp) (λi hi=>by simp_all)
theorem regA.two{j k:Nat}{o p:Oper}(hr:Region.ready .any ops L=[j,k])(ho:ops.toList[j]? = some o)(hp:ops.toList[k]? = some p)(h:regW g ops [o] fr s (λfr' s'=>regA g ops K (L.setIfInBounds j true) fr' s'))
  (h2:regW g ops [p] fr s (λfr' s'=>regA g ops K (L.setIfInBounds k true) fr' s')):regA g ops K L fr s :=
 regA.step hr (by simp) (λi hi=>by
  grind)
theorem regA.three{j k l:Nat}{o p q:Oper}(hr:Region.ready .any ops L=[j,k,l])(ho:ops.toList[j]? = some o)(hp:ops.toList[k]? = some p)(hq:ops.toList[l]? = some q)(h:regW g ops [o] fr s (λfr' s'=>regA g ops K (L.setIfInBounds j true) fr' s'))
  (h2:regW g ops [p] fr s (λfr' s'=>regA g ops K (L.setIfInBounds k true) fr' s')) (h3:regW g ops [q] fr s (λfr' s'=>regA g ops K (L.setIfInBounds l true) fr' s')):regA g ops K L fr s :=
 regA.step hr (by simp) (λi hi=>by
  grind)
end
def blankO(o:Oper):Oper:={ o with op:=(match o.dst with | some t=>.move (.tmp t) | none=>.move (.const (.bool false))),guard:=none }
def p9(ops:Array Oper)(p:Nat):Array Oper:=⟨(ops.toList.take p).map blankO++ops.toList.drop p⟩
variable {p:Nat}
theorem blank_at(hp:p≤ops.size)(i:Nat):(p9 ops p)[i]? = if i<p then (ops[i]?).map blankO else ops[i]?:=by
 show ((ops.toList.take p).map blankO++ops.toList.drop p).toArray[i]? = _
 grind
theorem blank_size(hp:p≤ops.size):(p9 ops p).size=ops.size:=by
 show ((ops.toList.take p).map blankO++ops.toList.drop p).toArray.size=_
 simp;omega
theorem blank_dst(hp:p≤ops.size)(i:Nat):((p9 ops p)[i]?).bind (·.dst)=(ops[i]?).bind (·.dst):=by
 rw[blank_at hp]
 split
 ·cases ops[i]?<;>rfl
 ·rfl
theorem blank_wanted(hp:p≤ops.size)(fr:Fr)(o:Oper):bo (p9 ops p) fr o=bo ops fr o:=by
 simp_all[bo,blank_dst]
theorem blank_yield(hp:p≤ops.size)(tm:Array Value):yielded (p9 ops p) tm=yielded ops tm:=by
 grind[yielded,blank_dst]
theorem putF_self(fr:Fr)(t:Tmp):putF fr (some t) (fr.getD t .undef)=fr:=by
 show fr.set t (fr.getD t .undef)=fr
 apply List.ext_getElem?
 grind
section
variable {P : Program} {g : Pg P} {ops : Array Oper} {K : Fr → Sg → Prop}
theorem regS_same{ops ops':Array Oper}(hw:∀fr o,bo ops' fr o=bo ops fr o):∀(l:List Oper) (fr:Fr) (s:Sg),regS g true ops l fr s K→regS g true ops' l fr s K
 | [],fr,s,h=>h
 | o::rest,fr,s,h=>by
  have ih:=λfr s=>regS_same hw rest fr s
  unfold regS at h ⊢
  rw[hw]
  cases hw':bo ops fr o with
  | none=>simp_all
  | some b =>
   rw[hw']at h
   simp only at h ⊢
   cases b with
   | false =>
    simp_all
   | true =>
    rw[qV rfl]at h ⊢
    split at h
    ·rename_i f args tys hop
     split at h
     ·rename_i fid xs hc
      simp only[qX]at h ⊢
      obtain⟨r,hs,hr⟩:=h
      exact⟨r,hs,ih _ _ hr⟩
     omega
    grind
theorem regS_blank{B:Array Oper}{r:List Oper}:∀(l:List Oper) (fr:Fr) (s:Sg),regS g true B r fr s K→regS g true B (l.map blankO++r) fr s K
 | [],_,_,h=>h
 | o::l,fr,s,h=>by
  have ih:=regS_blank (B:=B) (r:=r) l fr s h
  show regS g true B (blankO o::(l.map blankO++r)) fr s K
  unfold regS
  rw[show bo B fr (blankO o)=some true from rfl]
  simp only[qX]
  cases hd:o.dst with
  | none =>
   have hop:(blankO o).op=.move (.const (.bool false)):=by simp_all[blankO]
   have hdst:(blankO o).dst=none:=hd
   have hst:il g (λk=>s.obs[k]?) (λt=>s.lns[t]?) s.obs.length s.lns.length (blankO o) (aN fr)=some (aN fr (.const (.bool false)),.none):=by
    simp_all[il,extS,fJ,oK]
   rw[hop]
   simp only
   rw[hst,hdst]
   exact ih
  | some t =>
   have hop:(blankO o).op=.move (.tmp t):=by simp_all[blankO]
   have hdst:(blankO o).dst=some t:=hd
   have hst:il g (λk=>s.obs[k]?) (λt=>s.lns[t]?) s.obs.length s.lns.length (blankO o) (aN fr)=some (fr.getD t .undef,.none):=by
    unfold il extS fJ oK;rw[hop];rfl
   rw[hop]
   simp only
   rw[hst,hdst]
   simp only
   rw[putF_self]
   exact ih
theorem drawn_any{fr:Fr}{s:Sg}(h:regS g true ops ops.toList fr s (λfr' s'=>sepL (seps ops) fr'=true∧K fr' s'))(hd:gu ops=true){w0 w:World}{G0 G:Cx}{a:Act}{Q:Exit→Act→World→Prop}(hQ:∀a w,Post g w0 G0 K a w→Q .normal a w)(h0:G0.le G)(hH:HR P w0 w G s)(hfr:FR G fr a)(hdf:a.defers=[])(f:Nat)(hf:ops.size≤f) :
  wpAny P .any ops Q f (Array.replicate ops.size false) a w:=by
 obtain⟨frs,sgs,res,eff,e1,e2,ht,hK⟩:=trace_of ops.toList 0 fr s rfl (zE _) h
 have hrep:∀j,(Array.replicate ops.size false).getD j false=false:=by
  intro j
  rw[Array.getD_eq_getD_getElem?]
  grind
 refine reg_drawn ht hd hQ hK.2 hK.1 f (Array.replicate ops.size false) G a _ (by simp) (λi o _ hl=>by simp_all) (Nat.le_trans (cnt_le _ _) hf) h0 ?_ ?_ hdf
 ·have e3:obsR sgs eff (Array.replicate ops.size false) ops.size=λk=>s.obs[k]?:=by
   funext k
   rw[kg (i:=0) (zE _) λj _ _ _=>hrep j]
   show (sgs 0).obs[k]? = _
   rw[e2]
  have e4:lnsL ops.size sgs eff (Array.replicate ops.size false)=λk=>s.lns[k]?:=by
   unfold lnsL
   rw[qU]
   ·rw[←e2];rfl
   simp_all
  rw[e3,e4]
  exact hH
 ·have:cfL ops frs res (Array.replicate ops.size false)=fr:=by
   rw[←e1]
   apply List.ext_getElem?
   intro t
   have hl1:=cf_len ops frs res (Array.replicate ops.size false)
   rcases zG t (frs 0).length with z | z
   ·have a1:(cfL ops frs res (Array.replicate ops.size false))[t]? = some ((cfL ops frs res (Array.replicate ops.size false)).getD t .undef):=by
     simp_all
    have a2:(frs 0)[t]? = some ((frs 0).getD t .undef):=by
     simp_all
    rw[a1,a2,pf]
    unfold valAt
    rw[lw_cut 0 ops.size (zE _) (λj _ _ _=>hrep j)]
    rfl
   simp_all
  simp_all
theorem put_self(a:Act)(t:Tmp):a.put (some t) (a.eval (.tmp t))=a:=by
 have:a.tmps.setIfInBounds t (a.tmps.getD t undef)=a.tmps:=by
  apply Array.ext<;>simp_all[Array.getElem_setIfInBounds]
 show { a with tmps:=a.tmps.setIfInBounds t (a.tmps.getD t undef) }=a
 rw[this]
theorem full_zero(n:Nat):full n 0=Array.replicate n false:=by
 apply Array.ext
 ·simp[lI]
 ·intro i h1 h2
  have:=jJ (n:=n) (i:=0) (j:=i) false (by simp_all)
  simp_all
theorem blank_run{B:Array Oper}{p:Nat}{Q:Exit→Act→World→Prop}{a:Act}{w:World}(hB:∀i,i<p→∃o,B[i]? = some (blankO o))(hpr:∀i o,B[i]? = some o→∀k∈ju o,k<i):∀(r i:Nat),i+r=p→∀f,wpAny P .any B Q (f+r) (full B.size i) a w→wpAny P .any B Q f (full B.size p) a w
 | 0,i,hi,f,h=>by
  simp_all
 | r+1,i,hi,f,h=>by
  obtain⟨o,ho⟩:=hB i (by omega)
  have hlt:=lZ ho
  have hready:i∈Region.ready .any B (full B.size i):=by
   rw[mem_ready]
   refine⟨by rw[jJ true hlt];simp,_,ho,λe he hb=>?_⟩
   have hk:e.on∈ju (blankO o):=by
    grind[ju]
   have:=hpr _ _ ho _ hk
   rw[jJ false (by omega)]
   simp_all
  have h1:=h.2 i hready
  unfold wpOp at h1
  rw[ho]at h1
  simp only at h1
  rw[qV (show Region.wanted (blankO o) (yielded B a.tmps)=true from rfl),full_set hlt]at h1
  have key:wpAny P .any B Q (f+r) (full B.size (i+1)) a w:=by
   rcases h1 with h1 | ⟨h1,_⟩
   grind[blankO,Oper.wp,execOp,Sem.run_pure,Oper.upon,Act.put,put_self]
   ·exfalso
    unfold Oper.asks execOp at h1
    cases hd:o.dst with
    | none =>
     have hop:(blankO o).op=.move (.const (.bool false)):=by simp_all[blankO]
     rw[hop]at h1
     simp[Sem.run_pure]at h1
     exact absurd (show noRoomEvent∈(#[]:Array _) from h1) (by simp)
    | some t =>
     have hop:(blankO o).op=.move (.tmp t):=by simp_all[blankO]
     rw[hop]at h1
     simp[Sem.run_pure]at h1
     exact absurd (show noRoomEvent∈(#[]:Array _) from h1) (by simp)
  exact blank_run hB hpr r (i+1) (by omega) f key
theorem blank_swap{p:Nat}(hp:p≤ops.size){Q:Exit→Act→World→Prop}:∀(f:Nat) (L:Array Bool) (a:Act) (w:World),L.size=ops.size→(∀j,j<p→L.getD j false=true)→wpAny P .any (p9 ops p) Q f L a w→wpAny P .any ops Q f L a w:=by
 have hge:∀(L:Array Bool) (i:Nat),L.size=ops.size→i<ops.size→(∀j,j<p→L.getD j false=true)→L.getD i true=false→p≤i:=by
  grind
 have hrdy:∀(L:Array Bool),L.size=ops.size→(∀j,j<p→L.getD j false=true)→∀i,(i∈Region.ready .any (p9 ops p) L↔i∈Region.ready .any ops L):=by
  intro L hL h1 i
  rw[mem_ready,mem_ready]
  constructor
  ·rintro⟨q1,o,ho,q2⟩
   have hi:=lZ ho
   rw[blank_size hp]at hi
   have:=hge L i hL hi h1 q1
   simp_all[blank_at,qU]
  ·rintro⟨q1,o,ho,q2⟩
   have:=hge L i hL (lZ ho) h1 q1
   simp_all[blank_at,qU]
 have hnil:∀(L:Array Bool),L.size=ops.size→(∀j,j<p→L.getD j false=true)→(Region.ready .any ops L=[]→Region.ready .any (p9 ops p) L=[])∧(Region.ready .any (p9 ops p) L=[]→Region.ready .any ops L=[]):=by
  simp_all[Region.ready,p9]
 intro f
 induction f with
 | zero=>intro L a w hL h1 h;exact⟨(hnil L hL h1).2 h.1,h.2⟩
 | succ f ih =>
  intro L a w hL h1 h
  refine⟨λhe=>h.1 ((hnil L hL h1).1 he),λi hi=>?_⟩
  have h2:=h.2 i ((hrdy L hL h1 i).2 hi)
  obtain⟨q1,o,ho,_⟩:=mem_ready.1 hi
  have hpi:=hge L i hL (lZ ho) h1 q1
  have hset:∀j,j<p→(L.setIfInBounds i true).getD j false=true:=λj hj=>by
   grind[nU]
  unfold wpOp at h2 ⊢
  rw[blank_at hp,qU (by omega),ho]at h2
  rw[ho]
  simp only at h2 ⊢
  rw[blank_yield hp]at h2
  have hk:∀a w,wpAny P .any (p9 ops p) Q f (L.setIfInBounds i true) a w→wpAny P .any ops Q f (L.setIfInBounds i true) a w:=λa w q=>ih _ a w (by simp_all) hset q
  split
  ·rename_i hw
   rw[qV hw]at h2
   grind[Oper.wp_mono]
  simp_all
theorem cnt_full(n p:Nat):∀m,m≤n→m≤cnt (full n p) m+p
 | 0,_=>by omega
 | m+1,h=>by
  have ih:=cnt_full n p m (by omega)
  unfold cnt
  rw[jJ false (by omega)]
  grind
theorem cnt_fullL(n p:Nat):∀m,m≤n→cnt (full n p) m+min p m≤m
 | 0,_=>by simp[cnt]
 | m+1,h=>by
  have ih:=cnt_fullL n p m (by omega)
  unfold cnt
  rw[jJ false (by omega)]
  grind
theorem blank_pred{B:Array Oper}(h:gu B=true):∀i o,B[i]? = some o→∀k∈ju o,k<i:=λi o ho k hk=>drawOk_pred h ho hk
theorem regA.draw{L:Array Bool}{fr:Fr}{s:Sg}(p:Nat)(Ls:List (Tmp×Tmp))(hc:(decide (L=full ops.size p),decide (p≤ops.size),gu (p9 ops p),seps (p9 ops p))=(true,true,true,Ls))(h:regS g true ops (ops.toList.drop p) fr s (λfr' s'=>sepL Ls fr'=true∧K fr' s')):regA g ops K L fr s:=by
  injection hc with c1 hc
  injection hc with c2 hc
  injection hc with c3 c4
  have c1:=ra c1
  have c2:=ra c2
  subst c1
  intro _ f hf w0 G0 G a w Q hQ h0 hH hfr hd
  refine blank_swap c2 f _ a w (lI _ _) (λj hj=>by rw[jJ false (by omega)];simp_all) ?_
  have hsz:=blank_size c2
  have h1:regS g true (p9 ops p) (p9 ops p).toList fr s (λfr' s'=>sepL (seps (p9 ops p)) fr'=true∧K fr' s'):=by
    rw[c4]
    exact regS_blank (ops.toList.take p) fr s (regS_same (λfr o=>blank_wanted c2 fr o) _ _ _ h)
  have hcf:=cnt_full ops.size p ops.size (zH _)
  have h2:=drawn_any h1 c3 hQ h0 hH hfr hd (f+p) (by omega)
  have h3:=blank_run (p:=p) (λi hi=>by
    rw[blank_at c2,qV hi]
    obtain⟨o,ho⟩:∃o,ops[i]? = some o:=⟨ops[i]'(by omega),Array.getElem?_eq_getElem (by omega)⟩
    exact⟨o,by rw[ho];rfl⟩) (blank_pred c3) p 0 (by omega) f (by rw[full_zero];exact h2)
  simp_all
end
theorem region_tailA     {fr:Fr} {s:Sg}  (m : Nat) (ht : tailW ops m = true) (hh : lH ops m = true) (hd : gu (dn ops m) = true)
    (h:regS g true (dn ops m) (dn ops m).toList fr s (λfr' s'=>sepL (seps (dn ops m)) fr'=true∧regA g ops K (full ops.size m) fr' s')) {w:World} {G0:Cx} {a:Act} {Q:Exit→Act→World→Prop} (hQ:∀a w,Post g w0 G0 K a w→Q .normal a w) (h0:G0.le G) (hH:HR P w0 w G s) (hfr:FR G fr a) (hdf:a.defers=[]) :
    (Code.region id ops true).wp P Q a w:=by
  have hm:m≤ops.size:=by simp_all[lH]
  obtain⟨frs,sgs,res,eff,e1,e2,htr,hK⟩:=trace_of (dn ops m).toList 0 fr s rfl (zE _) h
  refine wp_region_any g.mixed ?_
  have hrep:∀(n j:Nat),(Array.replicate n false).getD j false=false:=by
    intro n j
    rw[Array.getD_eq_getD_getElem?]
    grind
  have hsz:(dn ops m).size=m:=headA_size hm
  have key:=head_any (P:=P) (Q:=Q) (T:=λa w=>Post g w0 G0 (λfr' s'=>regA g ops K (full ops.size m) fr' s') a w) (λi o ho=>tailW_at ht ho) hh (λa w hp f hf=>by
    obtain⟨G',fr',s',q1,q2,q3,q4,q5⟩:=hp
    exact q5 (lI _ _) f (by have:=cnt_fullL ops.size m ops.size (zH _);omega) w0 G0 G' a w Q hQ q1 q2 q3 q4) m (Array.replicate ops.size false) (Array.replicate m false) a { w with drawn:=w.drawn+1 } (by simp) (by simp) (λj hj=>by simp_all) (λj hj=>hrep _ _) (λi o _ hl=>by simp_all)
  rw[show m+(ops.size-m)=ops.size by omega]at key
  refine key ?_
  have:=reg_drawn (Q:=λe a w=>e=.normal∧Post g w0 G0 (λfr' s'=>regA g ops K (full ops.size m) fr' s') a w) htr hd (λa w hp=>⟨rfl,hp⟩) hK.2 hK.1 (dn ops m).size (Array.replicate (dn ops m).size false) G a { w with drawn:=w.drawn+1 } (by simp) (λi o _ hl=>by simp_all) (cnt_le _ _) h0 ?_ ?_ hdf
  simp_all
  · have e3 : obsR sgs eff (Array.replicate (dn ops m).size false) (dn ops m).size = λk => s.obs[k]? := by
      funext k
      rw[kg (i:=0) (zE _) λj _ _ _=>hrep _ j]
      show (sgs 0).obs[k]? = _
      rw[e2]
    have e4:lnsL (dn ops m).size sgs eff (Array.replicate (dn ops m).size false)=λk=>s.lns[k]?:=by
      unfold lnsL
      rw[qU]
      · rw[←e2];rfl
      simp_all
    rw[e3,e4]
    exact hH.kept ((Kp.refl w).drew)
  · have : cfL (dn ops m) frs res (Array.replicate (dn ops m).size false) = fr := by
      rw[←e1]
      apply List.ext_getElem?
      intro t
      have hl1:=cf_len (dn ops m) frs res (Array.replicate (dn ops m).size false)
      rcases zG t (frs 0).length with z | z
      · have a1 : (cfL (dn ops m) frs res (Array.replicate (dn ops m).size false))[t]? = some ((cfL (dn ops m) frs res (Array.replicate (dn ops m).size false)).getD t .undef) := by
          simp_all
        have a2:(frs 0)[t]? = some ((frs 0).getD t .undef):=by
          simp_all
        rw[a1,a2,pf]
        unfold valAt
        rw[lw_cut 0 (dn ops m).size (zE _) (λj _ _ _=>hrep _ j)]
        rfl
      simp_all
    simp_all
def atF(F1:Fr)(S1:Sg)(fr:Fr)(s:Sg):Prop:=fr=F1∧s=S1
theorem SWs.regionA{fr:Fr}{s:Sg}(m:Nat)(L:List (Tmp×Tmp))(F1:Fr)(S1:Sg)(hL:(tailW ops m,lH ops m,gu (dn ops m),seps (dn ops m))=(true,true,true,L))
  (h:regS g true ops (ops.toList.take m) fr s (λfr' s'=>sepL L fr'=true∧regA g ops (atF F1 S1) (full ops.size m) fr' s')) (h2:Q .normal F1 S1):SWs g (.region id ops true) Q fr s:=by
 injection hL with ht hL
 injection hL with hh hL
 injection hL with hd hL
 refine λ_ w0 G0 G a w h0 hH hfr hdf=>region_tailA (K:=atF F1 S1) m ht hh hd (by rw[hL];exact regS_head hh _ _ _ (λo ho=>ho) h) (λ_ _ q=>?_) h0 hH hfr hdf
 obtain⟨G',fr',s',q1,q2,q3,q4,rfl,rfl⟩:=q
 exact⟨G',_,_,q1,q2,q3,q4,h2⟩
open Go.RowKit
set_option linter.unusedVariables false
set_option linter.unusedSimpArgs false
section
variable {P : Program} {g : Pg P} {d : Option Tmp} {t ty : TypeId} {p : String} {af : Array Edge} {gd : Option (Nat × Bool)} {fr : Fr} {s : Sg} {R : V → Sg → Prop}
theorem inv_gs{w0 w:World}{G:Cx}{k n off len:Nat}{v:Value}{e:TypeId}{es:List (List D)}(hH:HR P w0 w G s)(r:rel G (.gs k n off len) v)(ho:s.obs[k]? = some [.rowc e n es]) :
  ∃L A c,G.rv k=some L∧L.n=n∧L.sz=P.cellsOf e∧v=.slice A len c∧len≤c∧(len≠0→∃b,L.v.ownBlock=some b∧A=some ⟨b,off*L.sz,none⟩):=by
 cases r with
 | gs _ _ _ _ _ h1 L hL hl =>
  obtain⟨e',es',xs,a1,a2,a3,a4,a5,a6⟩:=hH.rvl k L hL
  grind
theorem gs_of_gr{w0 w:World}{G:Cx}{k n:Nat}{v:Value}{e:TypeId}{es:List (List D)}(hH:HR P w0 w G s)(r:rel G (.gr k n) v)(ho:s.obs[k]? = some [.rowc e n es]):rel G (.gs k n 0 es.length) v:=by
 obtain⟨L,xs,a1,a2,a3,a4,a5,a6⟩:=inv_gr hH r ho
 subst a2
 rcases a5.2 with⟨h1,h2⟩|⟨b,cap,cur,h1,_,_,h2,_⟩
 ·exact .gs k n 0 _ _ (by rw[h1];rfl) L a1 (.inl ⟨a3.symm,.inr ⟨h2,none,0,h1⟩⟩)
 ·exact .gs k n 0 _ _ (by rw[h1];rfl) L a1 (.inl ⟨a3.symm,.inl ⟨b,cap,by rw[h1];rfl,by simp_all,h2⟩⟩)
theorem rel_gs{G:Cx}{k n off len:Nat}{A:Option Addr}{c:Nat}{L:Lv}(hL:G.rv k=some L)(hn:L.n=n)(hc:len≤c)(h:len≠0→∃b,L.v.ownBlock=some b∧A=some ⟨b,off*L.sz,none⟩):rel G (.gs k n off len) (.slice A len c):=by
 by_cases h0:len=0
 ·subst h0;exact .gs k n off 0 _ rfl L hL (.inl ⟨hn.symm,.inr ⟨rfl,A,c,rfl⟩⟩)
 ·obtain⟨b,h1,h2⟩:=h h0
  exact .gs k n off len _ rfl L hL (.inl ⟨hn.symm,.inl ⟨b,c,h1,by rw[h2],hc⟩⟩)
theorem size_of{e:TypeId}{sz:Nat}(hs:bs P e=some sz):P.cellsOf e=sz:=by
 grind[bs,Program.cellsOf]
theorem slice_gs{x:Operand}{lo hi:Option Operand}{k n off len l h sz:Nat}{e:TypeId}{es:List (List D)}(hx:∀(w0 w:World) (G:Cx) (a:Act),HR P w0 w G s→FR G fr a→rel G (.gs k n off len) (a.eval x))(ho:s.obs[k]? = some [.rowc e n es])(ht:P.underlying t=some (.slice e))(hs:bs P e=some sz)
  (hl:bnd 0 (lo.map (aN fr))=some l) (hh:bnd len (hi.map (aN fr))=some h) (h1:l≤h) (h2:h≤len) (K:R (.gs k n (off+l) (h-l)) s):altR g ⟨d,.slice t x lo hi none,ty,p,af,gd⟩ fr s R:=by
 intro w0 w G a hH hfr
 obtain⟨L,A,c,a1,a2,a3,hv,hc,a4⟩:=inv_gs hH (hx w0 w G a hH hfr) ho
 have hsz:L.sz=sz:=a3.trans (size_of hs)
 have hb:=kN (P:=P) (len:=len) (cap:=c) (m:=c) (mx:=none) (vm:=none) (relO_map hfr lo) (relO_map hfr hi) trivial rfl hh hl (zH _) (by omega) h1 (by simp) true w
 refine⟨.value (.slice (if c=l then A else A.map (·.add (l*sz))) (h-l) (c-l)),w,_,s,G,?_,.inl ⟨_,rfl,rel_gs a1 a2 (by omega) λq=>?_⟩,Cx.le.refl G,hH,K⟩
 simp_all[execOp,Instr.sliceAt,Instr.slice,run_underlying,cn]
 ·obtain⟨b,q1,q2⟩:=a4 (by omega)
  (simp_all[Addr.add_lit,Nat.add_mul];omega)
theorem alt_sliceR{x:Operand}{lo hi:Option Operand}{k n l h sz:Nat}{e:TypeId}{es:List (List D)}(hx:aN fr x=.gr k n)(ho:s.obs[k]? = some [.rowc e n es])(ht:P.underlying t=some (.slice e))(hs:bs P e=some sz)
  (hl:bnd 0 (lo.map (aN fr))=some l) (hh:bnd es.length (hi.map (aN fr))=some h) (h1:l≤h) (h2:h≤es.length) (K:R (.gs k n (0+l) (h-l)) s):altR g ⟨d,.slice t x lo hi none,ty,p,af,gd⟩ fr s R :=
 slice_gs (λw0 w G a hH hfr=>gs_of_gr hH (hx▸aK hfr x) ho) ho ht hs hl hh h1 h2 K
theorem alt_lenG{x:Operand}{k n off len:Nat}{e e':TypeId}{es:List (List D)}(hx:aN fr x=.gs k n off len)(ho:s.obs[k]? = some [.rowc e n es])(ht:P.underlying t=some (.slice e'))(h:R (.d (.int .i64 (len:Int))) s):altR g ⟨d,.call ⟨.builtin .len,#[x],#[t]⟩,ty,p,af,gd⟩ fr s R:=by
 intro w0 w G a hH hfr
 obtain⟨L,A,c,a1,a2,a3,hv,hc,a4⟩:=inv_gs hH (hx▸aK hfr x) ho
 refine⟨.value (.int .i64 len),w,_,s,G,?_,.inl ⟨_,rfl,.d (.int _ _)⟩,Cx.le.refl G,hH,h⟩
 simp[execOp,resolve,invoke,builtin,Builtin.len_,hv,run_underlying ht]
 rfl
theorem pV{x i:Operand}{k n off len:Nat}{e:TypeId}{es:List (List D)}{ki:IntKind}{m:Int}{sz:Nat}(hx:aN fr x=.gs k n off len)(ho:s.obs[k]? = some [.rowc e n es])(hi:aN fr i=.d (.int ki m))(ht:P.underlying t=some (.slice e))(hs:bs P e=some sz)(h0:0≤m)(hm:m<(len:Int))(h:R (.gp k n (off+m.toNat) 0) s):altR g ⟨d,.indexAddr t x i,ty,p,af,gd⟩ fr s R:=by
 intro w0 w G a hH hfr
 obtain⟨L,A,c,a1,a2,a3,hv,hc,a4⟩:=inv_gs hH (hx▸aK hfr x) ho
 have hiv:=fw (hi▸aK hfr i)
 have hsz:L.sz=sz:=a3.trans (size_of hs)
 obtain⟨b,q1,rfl⟩:=a4 (by omega)
 refine⟨.value (.pointer (some ⟨b,off*L.sz+m.toNat*sz,none⟩)),w,_,s,G,?_,.inl ⟨_,rfl,.gp k n (off+m.toNat) 0 _ rfl L a1 (.inl ⟨a2.symm,b,q1,?_⟩)⟩,Cx.le.refl G,hH,h⟩
 ·simp[execOp,hv,hiv,Instr.indexAt,asIntOf,run_underlying ht,h0,hm,cn hs,Addr.add_lit]
 grind
theorem m8{tt e:TypeId}{sz:Nat}(h:appT P tt=some (e,sz)):∃i z,P.underlying tt=some (.slice e)∧P.info? e=some i∧i.zero=some z∧z.cells.size=sz∧i.size=sz∧0<sz∧i.bytes≤8000000:=by
 grind[appT]
theorem made_at(z:Array Value)(n j:Nat)(h:j<n):(madeCells z n).toList[j]? = some z[j % z.size]!:=by
 simp[madeCells,h]
theorem alt_makeRow{l c:Operand}{kl kc:IntKind}{n:Int}{sz:Nat}{e:TypeId}{zs:List V}{zd:V}{ds:List D}(hl:aN fr l=.d (.int kl n))(hc:aN fr c=.d (.int kc n))(ht:appT P t=some (e,sz))(hz:eT P e=some zd)(hzs:zd.cells? = some zs)(hds:ip zs=some ds)(h0:0≤n)(hn:cd n.toNat=true)(h:R (.gr s.obs.length 0) ⟨s.obs++[[.rowc e 0 (zF n.toNat ds)]],s.lns⟩):altR g ⟨d,.makeSlice t l c,ty,p,af,gd⟩ fr s R:=by
 intro w0 w G a hH hfr
 obtain⟨i,z,hu,hi,hiz,z1,z2,z3,z4⟩:=m8 ht
 have hlv:=fw (hl▸aK hfr l)
 have hcv:=fw (hc▸aK hfr c)
 have hn':=g8 hn
 have hbytes:(i.bytes:Int)*n≤281474976710656:=by
  have:i.bytes*n.toNat≤8000000*16777216:=zW z4 hn'
  grind
 have hrun:=run_make (P:=P) w t e i z hu hi hiz kl kc n n h0 (Int.le_refl _) hbytes (by omega)
 have hce:P.cellsOf e=sz:=by simp_all[Program.cellsOf]
 have hown:=World.ownsRow_lit (base:=w.heap.size) (e:=e) (size:=sz) w (madeCells z.cells (n.toNat*i.size)) n.toNat (zH _) (by grind[maxLen]) (by rw[size_madeCells,z2])
 obtain⟨zv,y1,y2,_⟩:=nc hz G w
 have hzv:zv=z:=by
  simp_all[zeroValue,typeInfo]
 subst hzv
 obtain⟨d1,d2⟩:=jl (gQ y2 hzs) hds
 have hdl:ds.length=sz:=by simp_all
 have hrow:kb G.F sz (zF n.toNat ds) (madeCells zv.cells (n.toNat*i.size)).toList:=by
  refine⟨λj c hj=>?_,λj q c x hj hx=>?_⟩
  grind
  ·rw[List.getElem?_replicate]at hj
   split at hj
   ·rename_i hjn
    injection hj with hj;subst hj
    have hq:=aF hx
    have hin:j*sz+q<n.toNat*i.size:=by
     have:(j+1)*sz≤n.toNat*sz:=zA _ (by omega)
     grind
    grind[made_at,Nat.mul_comm,Nat.mul_add_mod,Nat.mod_eq_of_lt]
   ·cases hj
 have hN:=HRp.newRow (w':=w.alloc (.cells (madeCells zv.cells (n.toNat*i.size)) e)) hH ((Kp.refl w).alloc _) s.obs.length (by simp) (e:=e) (es:=zF n.toNat ds) (v:=.slice (some ⟨w.heap.size,0,none⟩) n.toNat n.toNat) (xs:=(madeCells zv.cells (n.toNat*i.size)).toList) (by simp_all) (by simp_all)
 obtain⟨hle,hN⟩:=hN
 rw[sg_push]at hN
 have hN':HR P w0 (w.alloc (.cells (madeCells zv.cells (n.toNat*i.size)) e)) { G with rv:=upd G.rv s.obs.length ⟨0,P.cellsOf e,.slice (some ⟨w.heap.size,0,none⟩) n.toNat n.toNat⟩ } ⟨s.obs++[[.rowc e 0 (zF n.toNat ds)]],s.lns⟩:=hN
 refine⟨.value (.slice (some ⟨w.heap.size,0,none⟩) n.toNat n.toNat),_,_,⟨s.obs++[[.rowc e 0 (zF n.toNat ds)]],s.lns⟩,_,?_,.inl ⟨_,rfl,.gr _ _ _ rfl _ (aG _ _ _) (.inl ⟨rfl,rfl⟩)⟩,hle,hN',h⟩
 simp_all[execOp]
end
open Go.RowKit
set_option linter.unusedVariables false
set_option linter.unusedSimpArgs false
def lO(b:UInt8):List D:=[.int .u8 (b.toNat:Int)]
theorem byte_len(l:List UInt8):(Lib.byteCells l).length=l.length:=by simp[Lib.byteCells]
section
variable {P : Program}
theorem run_append_str(w:World)(t u ty e:TypeId)(i:TypeInfo)(base:Nat)(ht:P.underlying t=some (.slice e))(hu:P.underlying u=some .string)(hi:P.info? e=some i)(hz:i.zero=some (.int .u8 0))(hsize:i.size=1)(hby:i.bytes=1)
  (v:Value) (n:Nat) (xs:List Value) (hown:w.ownsRow base e 1 v n xs) (s:List UInt8) (hm:0<s.length) (hb:n+s.length≤16777216) (hbase:base≤w.heap.size) :
  ∃gg cap w',(Builtin.append_ #[t,u] ty #[v,.string ⟨s.toArray⟩]).run P w=.ok (.slice (some ⟨gg,0,none⟩) (n+s.length) cap) w' ∧
   w'.ownsRow base e 1 (.slice (some ⟨gg,0,none⟩) (n+s.length) cap) (n+s.length) (xs++Lib.byteCells s)∧((v.ownBlock=some gg∧w.grownBy w' (some gg))∨(gg=w.heap.size∧Kp w w')):=by
 have h63:n+s.length≤maxLen:=by grind[maxLen]
 have hss:(⟨s.toArray⟩:ByteArray).size=s.length:=rfl
 have hsc:Lib.strCells ⟨s.toArray⟩=Lib.byteCells s:=rfl
 have hxl:xs.length=n:=by simpa using hown.1
 have hlen:(xs++Lib.byteCells s).length=(n+s.length)*1:=by simp_all[byte_len]
 have grown:∀(old:Nat),old<n+s.length →
   (w.drew.alloc (.cells (xs.toArray++(Lib.byteCells s).toArray++Builtin.zeroCells (Value.int .u8 0).cells (grownCap w (n+s.length) old e-(n+s.length))) e)).ownsRow base e 1
    (.slice (some ⟨w.heap.size,0,none⟩) (n+s.length) (grownCap w (n+s.length) old e)) (n+s.length) (xs++Lib.byteCells s):=by
  intro old ho
  have hge:=grownCap_ge w (n+s.length) old e
  have hcm:grownCap w (n+s.length) old e≤maxLen:=grownCap_le_maxLen w (n+s.length) old e h63
  refine⟨hlen,.inr ⟨w.heap.size,_,_,rfl,hbase,heap_alloc_new w.drew _,hge,hcm,?_,?_⟩⟩
  ·have hz1:(Value.int IntKind.u8 0).cells.size=1:=rfl
   simp_all[size_zeroCells]
  grind
 rcases hown.2 with⟨rfl,rfl⟩|⟨g,cap,cur,rfl,hbg,hg,hnc,hcm,hcs,htake⟩
 ·have hx:xs=[]:=zB hxl
  subst hx
  have hr:=run_append_nil_string (P:=P) w t u ty e i (.int .u8 0) ht hu hi hz ⟨s.toArray⟩ (by omega) (by omega) (by grind)
  have hgr:=grown 0 (by omega)
  simp only[zR,List.nil_append,Array.empty_append]at hgr ⊢
  have e1:((⟨s.toArray⟩:ByteArray).data.map λb=>Value.int .u8 b.toNat)=(Lib.byteCells s).toArray:=by
   simp_all[Lib.byteCells]
  rw[e1,hss]at hr
  exact⟨_,_,_,hr,hgr,.inr ⟨rfl,((Kp.refl w).drew).alloc _⟩⟩
 ·by_cases hroom:n+s.length≤cap
  ·have hcs':cur.size=cap:=by omega
   have hr:=Lib.run_append_room_string (P:=P) w t u ty e i ht hu hi hsize g n cap cur hg ⟨s.toArray⟩ hroom (by omega)
   rw[hss,hsc]at hr
   refine⟨_,_,_,hr,⟨hlen,.inr ⟨g,cap,_,rfl,hbg,setRow_heap w g cur _ e _ hg,hroom,hcm,?_,?_⟩⟩,.inl ⟨rfl,⟨rfl,rfl,rfl,by simp,λk _ hk=>setRow_other w g k _ (λe=>hk (by simp[e]))⟩⟩⟩<;>grind
  ·have hh:∀j u,xs[j]? = some u→w.cell? ((⟨g,0,none⟩:Addr).add j)=some u:=hown.cells (g:=g) rfl
   have hr:=Lib.run_append_grow_string (P:=P) w t u ty e i (.int .u8 0) ht hu hi hz ⟨g,0,none⟩ n cap xs (by simp_all) hh ⟨s.toArray⟩ (by omega) (by omega) (by rw[hby,hss];exact growslice_fits (by omega) (by omega))
   rw[hss,hsc]at hr
   have hgr:=grown cap (by omega)
   exact⟨_,_,_,hr,hgr,.inr ⟨rfl,((Kp.refl w).drew).alloc _⟩⟩
theorem run_append_str0(w:World)(t u ty e:TypeId)(i:TypeInfo)(ht:P.underlying t=some (.slice e))(hu:P.underlying u=some .string)(hi:P.info? e=some i)(A:Option Addr)(n c:Nat)(hn:n≤c) :
  (Builtin.append_ #[t,u] ty #[.slice A n c,.string ⟨#[]⟩]).run P w=.ok (.slice A n c) w:=by
 have hf:=Lib.run_firstCells_string (P:=P) w i.size ⟨#[]⟩
 have hz:(⟨#[]⟩:ByteArray).size=0:=rfl
 have hs:Lib.strCells ⟨#[]⟩=[]:=rfl
 rw[hz,hs]at hf
 cases A<;>simp[Builtin.append_,run_underlying ht,run_underlying hu,sizeOf,typeInfo,hi,Builtin.lenOf,hz,hf,storeCells,hn]
def byteT(P:Program)(t:TypeId):Option TypeId :=
 match P.underlying t with
 | some (.slice e)=>match P.info? e with
  | some i=>match i.zero with
   | some (.int .u8 0)=>if i.size=1∧i.bytes=1 then some e else none
   | _=>none
  | none=>none
 | _=>none
theorem byteT_parts{t e:TypeId}(h:byteT P t=some e):∃i,P.underlying t=some (.slice e)∧P.info? e=some i∧i.zero=some (.int .u8 0)∧i.size=1∧i.bytes=1:=by
 grind[byteT]
theorem app_str{w0 w:World}{G:Cx}{obs:Nat→Option (List V)}{lns:Nat→Option (TypeId×Nat)}(h:HRp P w0 w G obs lns){t:Nat}{ty tt ut e:TypeId}{es:List (List D)}{s:List UInt8}{v:Value}(ht:byteT P tt=some e)(hut:P.underlying ut=some .string)(hl:lns t=some (e,es.length))
  (r:rel G (.own t es) v) (hb:es.length+s.length≤16777216) :
  ∃u w' G',(Builtin.append_ #[tt,ut] ty #[v,.string ⟨s.toArray⟩]).run P w=.ok u w'∧G.le G'∧HRp P w0 w' G' obs (upd lns t (e,es.length+s.length))∧rel G' (.own t (es++s.map lO)) u:=by
 have hF:=λb o v q=>(h.fs b o v q).2
 obtain⟨i,hu,hi,hz,hsz1,hby⟩:=byteT_parts ht
 obtain⟨v0,xs,g1,g2,g3⟩:=h.lvl t e es.length hl
 have hce:P.cellsOf e=1:=by simp_all[Program.cellsOf]
 cases r with
 | own _ _ _ q L hL hs hlast =>
  rw[g1]at hL;injection hL with hL;subst hL
  simp only at hs hlast
  have hv:v=v0:=by simp_all
  subst hv
  have g2:=g2.resolve_left (by rintro rfl;cases q)
  by_cases hy:s.length=0
  ·have:s=[]:=zB hy
   subst this
   obtain⟨A,c,rfl⟩:=gI g2
   have hn:es.length≤c:=by
    rcases g2.2 with⟨h1,h2⟩|⟨g,cap,cur,h1,_,_,h3,_⟩<;>simp_all
   refine⟨_,w,G,run_append_str0 w tt ut ty e i hu hut hi A es.length c hn,Cx.le.refl G,?_,?_⟩
   ·have:upd lns t (e,es.length+([]:List UInt8).length)=lns:=by
     grind[aG,aU]
    simp_all
   ·rw[List.map_nil,List.append_nil]
    exact .own t es _ q _ g1 hs (.inl ⟨rfl,rfl⟩)
  ·rw[hce]at g2
   obtain⟨gg,cap,w',a1,a2,a3⟩:=run_append_str (P:=P) w tt ut ty e i w0.heap.size hu hut hi hz hsz1 hby v es.length xs g2 s (by omega) hb h.kp.size
   rw[←hce]at g2 a2
   obtain⟨hle,hH⟩:=h.app hl g1 g2 a2 (by omega) a3
   refine⟨_,w',_,a1,hle,hH,?_⟩
   have hcap:es.length+s.length≤cap:=by
    rcases a2.2 with⟨h1,h2⟩|⟨g,cap',cur,h1,_,_,h3,_⟩<;>simp_all
   have hlen:(es++s.map lO).length=es.length+s.length:=by simp
   have hcl:∀(k:Nat) (c:List D),(es++s.map lO)[k]? = some c→c.length=P.cellsOf e:=by
    intro k c hk
    rcases zG k es.length with hlt | hge
    grind
    ·rw[List.getElem?_append_right hge,List.getElem?_map]at hk
     cases hq:s[k-es.length]? with
     | none=>simp_all
     | some b=>rw[hq]at hk;injection hk with hk;rw[←hk,hce];rfl
   have hval:∀(k j:Nat) (c:List D) (x:D),(es++s.map lO)[k]? = some c→c[j]? = some x→∃u,(xs++Lib.byteCells s)[k*P.cellsOf e+j]? = some u∧relD G.F x u:=by
    intro k j c x hk hx
    have hj:j<P.cellsOf e:=by grind
    rcases zG k es.length with hlt | hge
    grind[own_xs]
    ·rw[List.getElem?_append_right hge,List.getElem?_map]at hk
     cases hq:s[k-es.length]? with
     | none=>simp_all
     | some b =>
      rw[hq]at hk;injection hk with hk;subst hk
      have hj0:j=0:=by omega
      subst hj0
      simp only[lO,List.getElem?_cons_zero]at hx
      injection hx with hx;subst hx
      have e1:xs.length=es.length*P.cellsOf e:=g2.1
      refine⟨.int .u8 b.toNat,?_,.int _ _⟩
      simp_all[List.getElem?_append_right,Lib.byteCells]
   refine .own t (es++s.map lO) _ ?_ _ (aG _ _ _) hcl (.inl ⟨hlen,rfl⟩)
   have key:=relD.list (F:=λb o u=>G.F b o u∨(b=gg∧o<(es.length+s.length)*P.cellsOf e∧w'.cell? ⟨gg,o,none⟩=some u)) (es++s.map lO) gg 0 cap (P.cellsOf e) (λi j=>((xs++Lib.byteCells s)[i*P.cellsOf e+j]?).getD undef) (by omega) (by omega) hcl
    (λi j c x hc hx=>by
     obtain⟨u,u1,u2⟩:=hval i j c x hc hx
     rw[u1]
     right
     refine⟨rfl,?_,?_⟩
     grind
     ·have:=a2.cells (g:=gg) rfl _ u u1
      simp_all[Addr.add_lit])
    (λi j c x hc hx=>by
     grind[b8])
   simp_all
theorem HRp.gone{w0 w w':World}{G:Cx}{obs:Nat→Option (List V)}{lns:Nat→Option (TypeId×Nat)}(h:HRp P w0 w G obs lns){t n:Nat}{e:TypeId}(hl:lns t=some (e,n))(hg:∃L,G.lv t=some L∧w.grownBy w' L.v.ownBlock∧∀b o,L.v.ownBlock=some b→w'.cell? ⟨b,o,none⟩=w.cell? ⟨b,o,none⟩)(hkt:TK w w') :
  let G':Cx:={ G with lv:=upd G.lv t ⟨n+1,P.cellsOf e,Go.undef⟩ }
  G.le G'∧HRp P w0 w' G' obs (upd lns t (e,n+1)):=by
 intro G'
 obtain⟨L,hL,hg,hc⟩:=hg
 obtain⟨v,xs,g1,g2,g3⟩:=h.lvl t e n hl
 rw[hL]at g1;injection g1 with g1;subst g1
 simp only at hg hc
 have hbk:∀b',b'<w.heap.size→some b'≠v.ownBlock→w'.heap[b']? = w.heap[b']?:=λb' h1 h2=>hg.block b' h1 h2
 have hlv:∀j L,G'.lv j=some L→(j=t∧L=⟨n+1,P.cellsOf e,Go.undef⟩)∨(j≠t∧G.lv j=some L):=by
  grind[aG,aU]
 have hle:G.le G':=by
  refine⟨rfl,λ_ _ _ q=>q,λ_ _ q=>q,λj L q=>?_,λ_ _ q=>q,λ_ L q=>⟨L,q,rfl,.inl rfl⟩,λ_ _ q=>q⟩
  grind[upd]
 refine⟨hle,h.kp.grown hg (λj hj=>(jU g2 j hj).1),?_,h.fb,h.obd,?_,h.obi,?_,?_,?_,h.gb,h.obm,?_,h.mpi,h.obr,?_,h.rvi,λb t q=>hkt _ _ (h.tgs b t q)⟩
 ·intro b o u q
  have q1:=h.fs b o u q
  refine⟨zT q1.1 hg.size,?_⟩
  grind[World.cell?_of_block]
 ·intro k cs q hm hr
  obtain⟨b,vs,t',h1,h2,h3,h4,h5⟩:=h.obl k cs q hm hr
  grind[fF]
 ·intro j L q
  rcases hlv j L q with⟨rfl,_⟩|⟨e,q⟩
  grind[aG]
  ·rw[aU _ _ e];exact h.lvd j L q
 ·intro j e' n' q
  by_cases ej:j=t
  ·subst ej
   rw[aG]at q;injection q with q;injection q with q1 q2;subst q1;subst q2
   exact⟨Go.undef,[],aG _ _ _,.inl rfl,λb hb=>by grind[Go.undef,Value.ownBlock]⟩
  ·rw[aU _ _ ej]at q
   obtain⟨v',xs',h1,h2,h3⟩:=h.lvl j e' n' q
   refine⟨v',xs',(by grind[aU]),m5 h2 hg ?_,h3⟩
   cases hv:v'.ownBlock with
   | none=>simp_all
   | some b=>exact .inr λe2=>ej (h.lvi j t _ _ b h1 hL hv e2.symm)
 ·intro j j' L1 L2 b q q' h1 h2
  rcases hlv j L1 q with⟨_,rfl⟩|⟨_,q⟩
  simp_all[Go.undef,Value.ownBlock]
  ·rcases hlv j' L2 q' with⟨_,rfl⟩|⟨_,q'⟩
   simp_all[Go.undef,Value.ownBlock]
   ·exact h.lvi j j' L1 L2 b q q' h1 h2
 ·intro k b q
  obtain⟨h1,es,n',ik,kvs,h2,h3,h4⟩:=h.mpl k b q
  refine⟨h1,es,n',ik,kvs,h2,(hbk b (heap_lt' h3) (λe2=>?_)).trans h3,h4⟩
  rcases g2 with rfl | g2<;>grind[Go.undef,Value.ownBlock,own_at]
 ·intro k L' q
  obtain⟨e',es',xs',h1,h2,h3,h4,h5,h6⟩:=h.rvl k L' q
  refine⟨e',es',xs',h1,h2,h3,h4.kept hg ?_,h5,λb hb=>⟨(h6 b hb).1,(h6 b hb).2.1,λj L2 q2=>?_⟩⟩
  ·cases hv:L'.v.ownBlock<;>grind
  grind[Go.undef,Value.ownBlock]
theorem HRp.growRow {w0 w w' : World} {G : Cx} {obs : Nat → Option (List V)} {lns : Nat → Option (TypeId × Nat)} (h : HRp P w0 w G obs lns) {k gg cap : Nat} {L : Lv} (hk : G.rv k = some L) {e : TypeId} {es0 es : List (List D)} {xs : List Value} (he : obs k = some [.rowc e L.n es0])
    (hat:(L.v.ownBlock=some gg∧w.grownBy w' (some gg))∨(gg=w.heap.size∧Kp w w')) (ho:w'.ownsRow w0.heap.size e L.sz (.slice (some ⟨gg,0,none⟩) es.length cap) es.length xs) (hr:kb G.F L.sz es xs) :
    let G':Cx:={ G with rv:=upd G.rv k ⟨L.n+1,L.sz,.slice (some ⟨gg,0,none⟩) es.length cap⟩ }
    G.le G'∧HRp P w0 w' G' (upd obs k [.rowc e (L.n+1) es]) lns:=by
  intro G'
  obtain⟨e0,es1,xs0,g1,g2,g3,g4,g5,g6⟩:=h.rvl k L hk
  rw[he]at g1;injection g1 with g1;injection g1 with g1 _;injection g1 with e1 _ e2;subst e1;subst e2
  have hblk:∀b,b<w.heap.size→b≠gg→w'.heap[b]? = w.heap[b]?:=by
    intro b hb hn
    rcases hat with⟨_,hg⟩|⟨_,hk⟩
    · exact hg.block b hb (λe=>hn (by injection e))
    · exact hk.below.block b hb
  have hsize:w.heap.size≤w'.heap.size:=by
    rcases hat with⟨_,hg⟩|⟨_,hk⟩
    · exact hg.size
    grind
  have hnew:∀b,b<w.heap.size→L.v.ownBlock≠some b→b≠gg:=by
    grind
  have hobl:∀j b,G.ob j=some b→b<w.heap.size∧L.v.ownBlock≠some b:=by
    intro j b q
    refine⟨?_,λhb=>(g6 b hb).1 j q⟩
    cases hq:obs j with
    | none=>exact absurd hq (h.obd j b q)
    | some cs =>
      obtain⟨b',_,_,h1,_,h3,_⟩:=h.obl j cs hq (h.obm j b q) (h.obr j b q)
      grind
  have hlvl:∀t L' b,G.lv t=some L'→L'.v.ownBlock=some b→b<w.heap.size∧L.v.ownBlock≠some b:=by
    intro t L' b q hb
    refine⟨?_,λhb'=>(g6 b hb').2.2 t L' q hb⟩
    cases hq:lns t with
    | none=>exact absurd hq (h.lvd t L' q)
    | some en =>
      obtain⟨v',xs',h1,h2,_⟩:=h.lvl t en.1 en.2 hq
      rw[q]at h1;injection h1 with h1;subst h1
      exact (jU h2 b hb).2
  have hFn:∀b o u,G.F b o u→b<w.heap.size∧L.v.ownBlock≠some b:=λb o u q=>⟨(h.fs b o u q).1,λhb=>(g6 b hb).2.1 o u q⟩
  have hrv:∀j L',G'.rv j=some L'→(j=k∧L'=⟨L.n+1,L.sz,.slice (some ⟨gg,0,none⟩) es.length cap⟩)∨(j≠k∧G.rv j=some L'):=by
    grind[aG,aU]
  have hrvl:∀j L' b,j≠k→G.rv j=some L'→L'.v.ownBlock=some b→b<w.heap.size∧L.v.ownBlock≠some b:=by
    intro j L' b hj q hb
    obtain⟨_,_,_,_,_,_,h4,_⟩:=h.rvl j L' q
    exact⟨(h4.lt b hb).2,λhb'=>hj (h.rvi j k L' L b q hk hb hb')⟩
  have hle:G.le G':=by
    refine⟨rfl,λ_ _ _ q=>q,λ_ _ q=>q,λ_ L q=>⟨L,q,rfl,.inl rfl⟩,λ_ _ q=>q,λj L' q=>?_,λ_ _ q=>q⟩
    grind[upd]
  have hkp:Kp w0 w':=by
    rcases hat with⟨hb,hg⟩|⟨_,hk'⟩
    · exact h.kp.grown hg (λj hj=>by injection hj with hj;subst hj;exact (g4.lt _ hb).1)
    · exact h.kp.trans hk'
  refine⟨hle,hkp,?_,h.fb,?_,?_,h.obi,h.lvd,?_,h.lvi,h.gb,h.obm,?_,h.mpi,?_,?_,?_,λb t q=>(show TK w w' from by
    rcases hat with⟨hb,hg⟩|⟨_,hk'⟩
    · exact nk hg λt' q'=>by rw[tag_own g4 hb]at q';rw[tag_own ho (b:=gg) rfl];exact q'
    grind[tk_kp]) b t (h.tgs b t q)⟩
  · intro b o u q
    have q1:=h.fs b o u q
    grind[World.cell?_of_block]
  · intro j b q
    have e':j≠k:=λe'=>by rw[e']at q;rw[h.obr k b q]at hk;cases hk
    rw[aU _ _ e'];exact h.obd j b q
  · intro j cs q hm hq
    have e':j≠k:=λe'=>by
      grind[aG]
    rw[aU _ _ e']at q
    have hq':G.rv j=none:=by
      grind[aU]
    obtain⟨b,vs,t,h1,h2,h3,h4,h5⟩:=h.obl j cs q hm hq'
    grind[fF]
  · intro t e' n q
    obtain⟨v,xs',h1,h2,h3⟩:=h.lvl t e' n q
    refine⟨v,xs',h1,h2.imp id λh2=>?_,h3⟩
    rcases hat with⟨hb,hg⟩|⟨_,hk'⟩
    · exact h2.kept hg (.inr λhv=>(hlvl t _ gg h1 hv).2 hb)
    grind[own_kp]
  · intro j b q
    obtain⟨h1,es',n',ik',kvs',h2,h3,h4⟩:=h.mpl j b q
    grind[aU,own_at]
  · intro j b q
    have e':j≠k:=λe'=>by rw[e']at q;rw[h.obr k b q]at hk;cases hk
    show upd G.rv k _ j=none
    rw[aU _ _ e'];exact h.obr j b q
  · intro j L' q
    rcases hrv j L' q with⟨rfl,rfl⟩|⟨ej,q⟩
    · refine⟨e,es,xs,aG _ _ _,g2,trivial,ho,hr,λb hb=>?_⟩
      have hbg:gg=b:=by injection hb
      grind
    · obtain⟨e2,es2,xs2,h1,h2,h3,h4,h5,h6⟩:=h.rvl j L' q
      refine⟨e2,es2,xs2,by grind[aU],h2,h3,?_,h5,h6⟩
      rcases hat with⟨hb,hg⟩|⟨_,hk'⟩
      · exact h4.kept hg (.inr λhv=>(hrvl j L' gg ej q hv).2 hb)
      grind[own_kp]
  · intro j j' L1 L2 b q q' h1 h2
    rcases hrv j L1 q with⟨e1,r1⟩|⟨e1,q1⟩<;>rcases hrv j' L2 q' with⟨e2,r2⟩|⟨e2,q2⟩
    omega
    · subst r1
      have hbg:gg=b:=by injection h1
      grind
    · subst r2
      have hbg:gg=b:=by injection h2
      grind
    · exact h.rvi j j' L1 L2 b q1 q2 h1 h2
end
section
variable {P : Program} {g : Pg P} {d : Option Tmp} {t ty : TypeId} {p : String} {af : Array Edge} {gd : Option (Nat × Bool)} {fr : Fr} {s : Sg} {R : V → Sg → Prop}
theorem alt_appStr{x z:Operand}{j:Nat}{es:List (List D)}{l:List UInt8}{e ut:TypeId}(hx:aN fr x=.own j es)(hz:aN fr z=.d (.str l))(ht:byteT P t=some e)(hut:P.underlying ut=some .string)(hl:s.lns[j]? = some (e,es.length))(hb:cd (es.length+l.length)=true)
  (h:R (.own j (es++l.map lO)) ⟨s.obs,s.lns.set j (e,es.length+l.length)⟩):altR g ⟨d,.call ⟨.builtin .append,#[x,z],#[t,ut]⟩,ty,p,af,gd⟩ fr s R:=by
 intro w0 w G a hH hfr
 have r:=aK hfr x
 rw[hx]at r
 have hzv:=lx (hz▸aK hfr z)
 obtain⟨u,w',G',a1,a2,a3,a4⟩:=app_str (ty:=ty) hH ht hut hl r (g8 hb)
 rw[lns_set hl]at a3
 refine⟨.value u,w',_,⟨s.obs,s.lns.set j (e,es.length+l.length)⟩,G',?_,.inl ⟨_,rfl,a4⟩,a2,a3,h⟩
 simp_all[execOp,resolve,invoke,builtin]
theorem alt_appR{x z:Operand}{k n sz:Nat}{e e':TypeId}{es ys:List (List D)}(hx:aN fr x=.gr k n)(hz:(aN fr z).list? = some ys)(ho:s.obs[k]? = some [.rowc e n es])(ht:appT P t=some (e,sz))(hsz:ys.all (·.length==sz)=true)(hy:0<ys.length)(hb:cd (es.length+ys.length)=true)
  (h:R (.gr k (n+1)) ⟨s.obs.set k [.rowc e (n+1) (es++ys)],s.lns⟩):altR g ⟨d,.call ⟨.builtin .append,#[x,z],#[t,t]⟩,ty,p,af,gd⟩ fr s R:=by
 intro w0 w G a hH hfr
 obtain⟨i,zv,hu,hi,hiz,z1,z2,z3,z4⟩:=m8 ht
 obtain⟨L,xs,a1,a2,a3,a4,a5,a6⟩:=inv_gr hH (hx▸aK hfr x) ho
 have hce:P.cellsOf e=sz:=by simp_all[Program.cellsOf]
 have hLs:L.sz=i.size:=by omega
 have hzr:=nI (aK hfr z) hz
 obtain⟨b,off,c,news,q1,n1,n2,n3,n4⟩:=oW (λb o v q=>(hH.fs b o v q).2) hzr hy hsz
 have hb':=g8 hb
 have hby:(es.length+ys.length)*i.bytes≤140737488355328:=by
  have:=zW hb' z4
  omega
 rw[hLs,a2]at a5
 obtain⟨gg,cap,w',r1,r2,r3⟩:=qh (P:=P) w t ty e i zv w0.heap.size hu hi hiz (z1.trans z2.symm) L.v es.length xs a5 ⟨b,off,none⟩ ys.length c news (by rw[n1,z2]) n2 n3 hy (by grind[maxLen]) hby hH.kp.size
 rw[←hLs]at a5 r2
 have hlen:(es++ys).length=es.length+ys.length:=by simp
 have hrow:kb G.F L.sz (es++ys) (xs++news):=by
  have hLsz:L.sz=sz:=hLs.trans z2
  refine⟨λq c hq=>?_,λq j c x hq hx=>?_⟩
  ·rcases zG q es.length with hlt | hge
   ·rw[List.getElem?_append_left hlt]at hq;exact a6.1 _ _ hq
   grind
  ·rcases zG q es.length with hlt | hge
   ·rw[List.getElem?_append_left hlt]at hq
    obtain⟨u,u1,u2⟩:=a6.2 q j c x hq hx
    grind
   ·rw[List.getElem?_append_right hge]at hq
    obtain⟨u,u1,u2⟩:=n4 _ j c x hq hx
    refine⟨u,?_,u2⟩
    have e1:xs.length=es.length*L.sz:=a5.1
    have hc2:=List.all_eq_true.1 hsz c (List.mem_of_getElem? hq)
    have hj:=aF hx
    rw[List.getElem?_append_right (by rw[e1];exact Nat.le_trans (zA _ hge) (by omega))]
    rw[←u1,e1,hLsz,Nat.sub_mul]
    congr 1
    have:es.length*sz≤q*sz:=zA _ hge
    omega
 have hob:s.obs[k]? = some [.rowc e L.n es]:=by simp_all
 rw[←hlen]at r2
 obtain⟨hle,hN⟩:=hH.growRow a1 (es:=es++ys) hob r3 r2 hrow
 rw[sg_set hob,a3]at hN
 have hN':HR P w0 w' { G with rv:=upd G.rv k ⟨L.n+1,L.sz,.slice (some ⟨gg,0,none⟩) (es++ys).length cap⟩ } ⟨s.obs.set k [.rowc e (n+1) (es++ys)],s.lns⟩:=by rw[a3];exact hN
 refine⟨.value (.slice (some ⟨gg,0,none⟩) (es.length+ys.length) cap),w',_,_,_,?_,.inl ⟨_,rfl,.gr k (n+1) _ rfl _ (aG _ _ _) (.inl ⟨by rw[a3],by rw[hlen]⟩)⟩,hle,hN',h⟩
 simp_all[execOp,resolve,invoke,builtin]
end
open Go.RowKit
set_option linter.unusedVariables false
set_option linter.unusedSimpArgs false
section
variable {P : Program}
theorem HRp.beginRow{w0 w w':World}{G:Cx}{obs:Nat→Option (List V)}{lns:Nat→Option (TypeId×Nat)}(h:HRp P w0 w G obs lns)(hk:Kp w w')(t:Nat)(ht:lns t=none)(e:TypeId){v:Value}(ho:w'.ownsRow w.heap.size e (P.cellsOf e) v 0 []) :
  let G':Cx:={ G with lv:=upd G.lv t ⟨0,P.cellsOf e,v⟩ }
  G.le G'∧HRp P w0 w' G' obs (upd lns t (e,0)):=by
 intro G'
 have h':=h.kept hk
 have hnone:G.lv t=none:=by
  cases hq:G.lv t with
  | none=>rfl
  | some b=>exact absurd ht (h.lvd t b hq)
 have hlv:∀j L,G'.lv j=some L→(j=t∧L=⟨0,P.cellsOf e,v⟩)∨(j≠t∧G.lv j=some L):=by
  grind[aG,aU]
 have hnew:∀b,v.ownBlock=some b→w.heap.size≤b:=λb hb=>(ho.lt b hb).1
 have hle:G.le G':=by
  refine⟨rfl,λ_ _ _ q=>q,λ_ _ q=>q,λj L q=>⟨L,?_,rfl,.inl rfl⟩,λ_ _ q=>q,λ_ L q=>⟨L,q,rfl,.inl rfl⟩,λ_ _ q=>q⟩
  grind[aU]
 have hlvl:∀j L b,G.lv j=some L→L.v.ownBlock=some b→b<w.heap.size:=by
  intro j L b q hb
  cases hq:lns j with
  | none=>exact absurd hq (h.lvd j L q)
  | some en =>
   obtain⟨v',xs',h1,h2,_⟩:=h.lvl j en.1 en.2 hq
   rw[q]at h1;injection h1 with h1;subst h1
   exact (jU h2 b hb).2
 refine⟨hle,h'.kp,h'.fs,h'.fb,h'.obd,?_,h'.obi,?_,?_,?_,h'.gb,h'.obm,h'.mpl,h'.mpi,h'.obr,λk L q=>?_,h'.rvi,h'.tgs⟩
 ·intro k cs q hm hrv
  obtain⟨b,vs,t',h1,h2,h3,h4,h5⟩:=h'.obl k cs q hm hrv
  grind[fF]
 ·intro j L q
  rcases hlv j L q with⟨rfl,_⟩|⟨e,q⟩
  grind[aG]
  ·rw[aU _ _ e];exact h.lvd j L q
 ·intro j e' n q
  by_cases ej:j=t
  ·subst ej
   rw[aG]at q;injection q with q;injection q with q1 q2;subst q1;subst q2
   refine⟨v,[],aG _ _ _,.inr (own_mono ho h.kp.size),λb hb=>⟨λk q=>?_,λo u q=>?_⟩⟩
   ·have hb2:=hnew b hb
    cases hq:obs k with
    | none=>exact absurd hq (h.obd k b q)
    | some cs =>
     obtain⟨b',_,_,h1,_,h3,_⟩:=h.obl k cs hq (h.obm k b q) (h.obr k b q)
     grind
   ·have:=(h.fs b o u q).1;grind
  ·rw[aU _ _ ej]at q
   obtain⟨v',xs,h1,h2,h3⟩:=h'.lvl j e' n q
   grind[aU]
 ·intro j j' L L' b q q' h1 h2
  rcases hlv j L q with⟨e1,r1⟩|⟨e1,q1⟩<;>rcases hlv j' L' q' with⟨e2,r2⟩|⟨e2,q2⟩
  omega
  grind
  grind
  ·exact h.lvi j j' L L' b q1 q2 h1 h2
 ·obtain⟨e',es,xs,h1,h2,h3,h4,h5,h6⟩:=h'.rvl k L q
  refine⟨e',es,xs,h1,h2,h3,h4,h5,λb hb=>⟨(h6 b hb).1,(h6 b hb).2.1,λj L' q'=>?_⟩⟩
  rcases hlv j L' q' with⟨_,rfl⟩|⟨_,q'⟩
  ·intro hb2
   obtain⟨_,_,_,_,_,_,g4,_⟩:=h.rvl k L q
   have:=(g4.lt b hb).2;grind
  grind
end
section
variable {P : Program} {g : Pg P} {d : Option Tmp} {t ty : TypeId} {p : String} {af : Array Edge} {gd : Option (Nat × Bool)} {fr : Fr} {s : Sg} {R : V → Sg → Prop}
def SpecY(_:Pg P)(f:FuncId)(args:List V)(e:TypeId)(es:List (List D)):Prop :=
 cm P f=true∧∀(w:World) (F:Nat→Nat→Value→Prop) (vs:List Value),(∀b o v,F b o v→b<w.heap.size∧w.cell? ⟨b,o,none⟩=some v)→lP w F→rels (iz F) args vs →
  Calls P f ⟨vs⟩ w λen w'=>∃v xs,en=.returned v∧Kp w w'∧w'.ownsRow w.heap.size e (P.cellsOf e) v es.length xs∧∀F',kb F' (P.cellsOf e) es xs
theorem SpecY.toS{f:FuncId}{args args':List V}{e:TypeId}{es:List (List D)}(h:SpecY g f args' e es)(ha:args.map V.clean=args')(hR:R (.gr s.obs.length 0) ⟨s.obs++[[.rowc e 0 es]],s.lns⟩):bf g f args s R:=by
 subst ha
 refine⟨h.1,λw0 w G vs hH hr=>?_⟩
 refine (h.2 w G.F vs hH.fs (hH.gb.kp hH.kp) ?_).mono ?_
 ·refine⟨by simp[hr.1],λi x v h1 h2=>?_⟩
  rw[List.getElem?_map]at h1
  cases hq:args[i]? with
  | none=>simp_all
  | some y=>rw[hq]at h1;simp at h1;subst h1;exact jo (hr.2 i y v hq h2) G.F (λ_ _ _ q=>q)
 ·rintro en w' ⟨v,xs,rfl,hk,ho,hx⟩
  obtain⟨hle,hN⟩:=HRp.newRow hH hk s.obs.length (by simp) ho (hx G.F)
  rw[sg_push]at hN
  have hone:v.oneCell'=true:=by
   obtain⟨A,c,hv⟩:=gI ho
   rw[hv];rfl
  have hN':HR P w0 w' { G with rv:=upd G.rv s.obs.length ⟨0,P.cellsOf e,v⟩ } ⟨s.obs++[[.rowc e 0 es]],s.lns⟩:=hN
  exact⟨_,_,⟨s.obs++[[.rowc e 0 es]],s.lns⟩,_,rfl,hle,hN',.gr _ _ _ hone _ (aG _ _ _) (.inl ⟨rfl,rfl⟩),hR⟩
theorem alt_allocB{e:TypeId}{zv:Value}(ht:t=bT)(hz:(P.info? t).map (·.zero)=some (some zv))(hzc:zv.cells=#[.pointer none,.slice none 0 0])(h:R (.ptr s.obs.length 0) ⟨s.obs++[[.adr s.obs.length,.own s.lns.length []]],s.lns++[(e,0)]⟩):altR g ⟨d,.alloc t,ty,p,af,gd⟩ fr s R:=by
 intro w0 w G a hH hfr
 subst ht
 obtain⟨hle1,h1⟩:=HRp.begin hH s.lns.length (by simp) e
 rw[pK]at h1
 obtain⟨hle2,h2⟩:=HRp.new h1 s.obs.length (by simp) [.undef,.own s.lns.length []] [.pointer none,.slice none 0 0] bT
  (dM (.undef _) (dM (.own _ [] _ (.nil _ _) _ (aG _ _ _) (λi e h=>by simp at h) (.inl ⟨rfl,rfl⟩)) (i6 _)))
 generalize hW:w.alloc (.cells ⟨[.pointer none,.slice none 0 0]⟩ bT)=w' at h2
 let G1:Cx:={ G with lv:=upd G.lv s.lns.length ⟨0,P.cellsOf e,.slice none 0 0⟩,ob:=upd G.ob s.obs.length w.heap.size }
 let G2:Cx:={ G1 with tg:=upd G.tg w.heap.size bT }
 have hnew:w'.heap[w.heap.size]? = some (.cells ⟨[.pointer none,.slice none 0 0]⟩ bT (0,0)):=by grind[heap_alloc_new]
 have hfree:G.tg w.heap.size=none:=by
  cases hq:G.tg w.heap.size with
  | none=>rfl
  | some t=>have:=tag_lt (hH.tgs _ _ hq);omega
 have hle3:G1.le G2:=⟨rfl,λ_ _ _ q=>q,λ_ _ q=>q,λ_ L q=>⟨L,q,rfl,.inl rfl⟩,λ_ _ q=>q,λ_ L q=>⟨L,q,rfl,.inl rfl⟩,λb t q=>by
  grind[aU]⟩
 have h3:HRp P w0 w' G2 (upd (λk=>s.obs[k]?) s.obs.length [.undef,.own s.lns.length []]) (λj=>(s.lns++[(e,0)])[j]?):=by
  refine⟨h2.kp,h2.fs,h2.fb,h2.obd,λk cs q hm hr=>?_,h2.obi,h2.lvd,h2.lvl,h2.lvi,h2.gb,h2.obm,h2.mpl,h2.mpi,h2.obr,h2.rvl,h2.rvi,λb t q=>?_⟩
  ·obtain⟨b,vs,t',q1,q2,q3,q4,q5⟩:=h2.obl k cs q hm hr
   grind[fF]
  ·have q':upd G.tg w.heap.size bT b=some t:=q
   by_cases eb:b=w.heap.size
   simp_all[aG,nq]
   ·rw[aU _ _ eb]at q'
    exact h2.tgs b t q'
 have hrels:rels G2 [.adr s.obs.length,.own s.lns.length []] [.pointer none,.slice none 0 0] :=
  dM (.adr _ _ w.heap.size (aG _ _ _) (aG _ _ _) (.inl rfl)) (dM (.own _ [] _ (.nil _ _) _ (aG _ _ _) (λi e h=>by simp at h) (.inl ⟨rfl,rfl⟩)) (i6 _))
 have h4:=HRp.put (k:=s.obs.length) (b:=w.heap.size) h3 (aG _ _ _) (w':=w') ⟨rfl,rfl,rfl,zH _,λ_ _ _=>rfl⟩ (λ_ _ q=>q) hnew hrels
 have e1:upd (upd (λk=>s.obs[k]?) s.obs.length [.undef,.own s.lns.length []]) s.obs.length [.adr s.obs.length,.own s.lns.length []]=upd (λk=>s.obs[k]?) s.obs.length [.adr s.obs.length,.own s.lns.length []]:=by
  grind[aG,aU]
 rw[e1,sg_push]at h4
 have hrun:(Instr.alloc bT true (.tuple #[])).run P w=.ok (.pointer (some ⟨w.heap.size,0,none⟩)) w':=by
  obtain⟨i,hi,hz'⟩:=Option.map_eq_some_iff.1 hz
  simp_all[Instr.alloc,zeroValue,typeInfo,newVar,newRow]
 have h4':HR P w0 w' G2 ⟨s.obs++[[.adr s.obs.length,.own s.lns.length []]],s.lns++[(e,0)]⟩:=h4
 exact⟨.value (.pointer (some ⟨w.heap.size,0,none⟩)),w',_,⟨s.obs++[[.adr s.obs.length,.own s.lns.length []]],s.lns++[(e,0)]⟩,G2,by simp[execOp,hrun],.inl ⟨_,rfl,.ptr _ 0 _ (aG _ _ _)⟩,(hle1.trans hle2).trans hle3,h4',h⟩
end
open Go.RowKit
set_option linter.unusedVariables false
set_option linter.unusedSimpArgs false
def Ctx1(Y:V→V):Prop:=∀(G:Cx) (x:V) (u:Value),rel G (Y x) u→∃v,rel G x v∧∀(G':Cx) (x':V),rel G' x' v→rel G' (Y x') u
theorem ctx_id:Ctx1 (λx=>x):=λ_ x u r=>⟨u,r,λ_ _ q=>q⟩
def SpecZ{P:Program}(_:Pg P)(f:FuncId)(args:List V)(e:TypeId)(es:List (List D))(Y:V→V):Prop :=
 cm P f=true∧∀(w:World) (F:Nat→Nat→Value→Prop) (vs:List Value),(∀b o v,F b o v→b<w.heap.size∧w.cell? ⟨b,o,none⟩=some v)→lP w F→rels (iz F) args vs →
  Calls P f ⟨vs⟩ w λen w'=>∃u v xs,en=.returned u∧Kp w w'∧w'.ownsRow w.heap.size e (P.cellsOf e) v es.length xs∧(∀F',kb F' (P.cellsOf e) es xs)∧∀G x,rel G x v→rel G (Y x) u
variable {Y:V→V}
theorem SpecZ.toS(h:SpecZ g f args' e es Y)(ha:args.map V.clean=args')(hR:R (Y (.gr s.obs.length 0)) ⟨s.obs++[[.rowc e 0 es]],s.lns⟩):bf g f args s R:=by
 subst ha
 refine⟨h.1,λw0 w G vs hH hr=>?_⟩
 refine (h.2 w G.F vs hH.fs (hH.gb.kp hH.kp) ?_).mono ?_
 ·refine⟨by simp[hr.1],λi x v h1 h2=>?_⟩
  rw[List.getElem?_map]at h1
  cases hq:args[i]? with
  | none=>simp_all
  | some y=>rw[hq]at h1;simp at h1;subst h1;exact jo (hr.2 i y v hq h2) G.F (λ_ _ _ q=>q)
 ·rintro en w' ⟨u,v,xs,rfl,hk,ho,hx,hu⟩
  obtain⟨hle,hN⟩:=HRp.newRow hH hk s.obs.length (by simp) ho (hx G.F)
  rw[sg_push]at hN
  have hN':HR P w0 w' { G with rv:=upd G.rv s.obs.length ⟨0,P.cellsOf e,v⟩ } ⟨s.obs++[[.rowc e 0 es]],s.lns⟩:=hN
  have hone:v.oneCell'=true:=by
   obtain⟨A,c,hv⟩:=gI ho
   rw[hv];rfl
  exact⟨_,_,⟨s.obs++[[.rowc e 0 es]],s.lns⟩,_,rfl,hle,hN',hu _ _ (.gr _ _ _ hone _ (aG _ _ _) (.inl ⟨rfl,rfl⟩)),hR⟩
def ZRes(s:Sg)(y:V)(e:TypeId)(es:List (List D))(Y:V→V):Prop:=(y=Y .nil∧es=[])∨∃k n,y=Y (.gr k n)∧s.obs[k]? = some [.rowc e n es]
variable {y:V}
theorem zr_gr(k n:Nat)(h:y=Y (.gr k n))(he:s.obs[k]? = some [.rowc e n es]):ZRes s y e es Y:=.inr ⟨k,n,h,he⟩
theorem specZ_by(hf:P.funcs[f]? = some fn)(hb:fn.body=some c)(he:cm P f=true)(hdr:fg c=true)(hY:Ctx1 Y)(hes:scalE es=true)
  (h:SWs g c (retQ g fn.results.toList (λy s'=>ZRes s' y e es Y)) (args++zF (fn.ntmps-args.length) .undef) ⟨[],[]⟩):SpecZ g f args e es Y:=by
 refine⟨he,λw F vs hF hgl hr=>?_⟩
 have hs:=nt hf hb he hdr h
 have hH:HR P w w (iz F) ⟨[],[]⟩:=by
  refine⟨Kp.refl w,hF,λb o v q=>.inl q,?_,?_,?_,?_,?_,?_,hgl,λk b q=>(by cases q),λk b q=>(by cases q),λk k' b q=>(by cases q),λk b q=>(by cases q),λk L q=>(by cases q),λk k' L L' b q=>(by cases q),λb t q=>(by cases q)⟩
  ·intro k b q;cases q
  simp_all
  ·intro k k' b q;cases q
  ·intro t L q;cases q
  simp_all
  ·intro t t' L L' b q;cases q
 refine (hs.2 w w (iz F) vs hH hr).mono ?_
 rintro en w' ⟨u,y,s',G',rfl,q1,q2,q3,q4⟩
 rcases q4 with⟨rfl,rfl⟩|⟨k,n,rfl,ho⟩
 ·obtain⟨v,r,hu⟩:=hY G' _ u q3
  cases r
  exact⟨u,_,[],rfl,q2.kp,World.ownsRow_nil _ _ _ _,λF'=>⟨λi e h=>by simp at h,λi j e x h=>by simp at h⟩,hu⟩
 ·obtain⟨v,r,hu⟩:=hY G' _ u q3
  obtain⟨L,xs,a1,a2,a3,a4,a5,a6⟩:=inv_gr q2 r ho
  refine⟨u,v,xs,rfl,q2.kp,a4▸a5,λF'=>?_,hu⟩
  rw[←a4]
  exact⟨a6.1,λi j c x hc hx=>by
   obtain⟨u',u1,u2⟩:=a6.2 i j c x hc hx
   grind[scal_any,scalE_at]⟩
def V.cleanZ(s:Sg):V→V
 | .agg xs=>.agg (xs.map (V.cleanS s))
 | x=>V.cleanS s x
theorem cleanS_rel(hH:HR P w0 w G s)(ry:rel G y v):rel (iz λb o u=>G.F b o u∨w.cell? ⟨b,o,none⟩=some u) (V.cleanS s y) v:=by
 have dflt:rel (iz λb o u=>G.F b o u∨w.cell? ⟨b,o,none⟩=some u) y.clean v:=jo ry _ (λ_ _ _ q=>.inl q)
 unfold V.cleanS
 split
 ·rename_i k n
  split
  ·rename_i e ver es ho
   split
   ·rename_i hn
    obtain⟨L,xs,a1,a2,a3,a4,a5,a6⟩:=inv_gr hH ry (hn▸ho)
    by_cases h0:es.length=0
    ·have:es=[]:=zB h0
     subst this
     obtain⟨A,c,rfl⟩:=gI a5
     exact .d (.nil _ _)
    ·obtain⟨b,cap,rfl,_⟩:=a5.form (by omega)
     have hcap:es.length≤cap:=by
      rcases a5.2 with⟨z1,z2⟩|⟨g',cap',cur,z1,_,_,z3,_⟩<;>grind
     refine .d (.list es b 0 cap L.sz (λi j=>(xs[i*L.sz+j]?).getD Go.undef) (by omega) hcap a6.1 (λi j c x hc hx=>?_) (λi j c x hc hx=>?_))
     ·obtain⟨u,u1,u2⟩:=a6.2 i j c x hc hx
      rw[u1]
      have:=a5.cells (g:=b) rfl _ u u1
      rw[Addr.add_lit]at this
      refine .inr ?_
      simp_all
     ·obtain⟨u,u1,u2⟩:=a6.2 i j c x hc hx
      rw[u1]
      exact b8 (λ_ _ _ q=>.inl q) u2
   ·exact .undef _
  ·exact .undef _
 ·exact dflt
theorem cleanZ_rel(hH:HR P w0 w G s)(ry:rel G y v):rel (iz λb o u=>G.F b o u∨w.cell? ⟨b,o,none⟩=some u) (V.cleanZ s y) v:=by
 unfold V.cleanZ
 split
 ·rename_i ys
  cases ry with
  | agg _ vs hl h =>
   refine .agg _ vs (by simp_all) λi x v h1 h2=>?_
   grind[cleanS_rel]
 grind[cleanS_rel]
theorem bf.byZ{r:V}(h:Spec g f args' r)(ha:args.map (V.cleanZ s)=args')(hp:r.plainT=true)(hR:R r s):bf g f args s R:=by
 subst ha
 refine⟨h.1,λw0 w G vs hH hr=>?_⟩
 refine (h.2 w (λb o u=>G.F b o u∨w.cell? ⟨b,o,none⟩=some u) vs ?_ ((hH.gb.kp hH.kp).mono λ_ _ _ q=>.inl q) ?_).mono ?_
 ·rintro b o u (q | q)
  ·exact hH.fs b o u q
  ·exact⟨cell_lt q,q⟩
 ·refine⟨by simp[hr.1],λi x v h1 h2=>?_⟩
  rw[List.getElem?_map]at h1
  cases hq:args[i]? with
  | none=>simp_all
  | some y=>rw[hq]at h1;simp at h1;subst h1;exact cleanZ_rel hH (hr.2 i y v hq h2)
 ·rintro en w' ⟨v,rfl,hk,hv⟩
  exact⟨v,r,s,G,rfl,Cx.le.refl G,hH.kept hk,plainT_any hp hv,hR⟩
end Go.Proofs.YtphbhdoljnokkaaGreatDoor
