/-
  Szb, Szc, Szd, Sze, Szh in one text.
-/
import Derived.Test.YtphbhdoljnokkaaGreatDoorS4
import Derived.Test.YtphbhdoljnokkaaGreatDoorG1
import Derived.Still
open List renaming replicate → zA,eq_of_mem_replicate → zD,map_replicate → zE
open Nat renaming le_refl → zB,zero_add → zF,mul_le_mul → zH
namespace Go.Proofs.YtphbhdoljnokkaaGreatDoor
open Go.RowKit
set_option linter.unusedVariables false
set_option linter.unusedSimpArgs false
section
variable {P : Program}
theorem HRp.beginRowN{w0 w w':World}{G:Cx}{obs:Nat→Option (List V)}{lns:Nat→Option (TypeId×Nat)}(h:HRp P w0 w G obs lns)(hk:Kp w w')(t:Nat)(ht:lns t=none)(e:TypeId){v:Value}{n0:Nat}{xs0:List Value}(ho:w'.ownsRow w.heap.size e (P.cellsOf e) v n0 xs0)(hfr:∀b o u,v.ownBlock=some b→w'.cell? ⟨b,o,none⟩=some u→o<n0*P.cellsOf e) :
  let G':Cx:={ G.withF (fresh w w')with lv:=upd G.lv t ⟨n0,P.cellsOf e,v⟩ }
  G.le G'∧HRp P w0 w' G' obs (upd lns t (e,n0)):=by
 intro G'
 have h':=h.grow hk
 have hnone:G.lv t=none:=by
  cases hq:G.lv t with
  | none=>rfl
  | some b=>exact absurd ht (h.lvd t b hq)
 have hlv:∀j L,G'.lv j=some L→(j=t∧L=⟨n0,P.cellsOf e,v⟩)∨(j≠t∧G.lv j=some L):=by
  grind[aG,aU]
 have hnew:∀b,v.ownBlock=some b→w.heap.size≤b:=λb hb=>(ho.lt b hb).1
 have hle:G.le G':=by
  refine⟨rfl,λ_ _ _ q=>.inl q,λ_ _ q=>q,λj L q=>⟨L,?_,rfl,.inl rfl⟩,λ_ _ q=>q,λ_ L q=>⟨L,q,rfl,.inl rfl⟩,λ_ _ q=>q⟩
  grind[aU]
 have hle2:(G.withF (fresh w w')).le G':=by
  refine⟨rfl,λ_ _ _ q=>q,λ_ _ q=>q,λj L q=>⟨L,?_,rfl,.inl rfl⟩,λ_ _ q=>q,λ_ L q=>⟨L,q,rfl,.inl rfl⟩,λ_ _ q=>q⟩
  show upd G.lv t _ j=some L
  have q:G.lv j=some L:=q
  grind[aU]
 have hlvl:∀j L b,G.lv j=some L→L.v.ownBlock=some b→b<w.heap.size:=by
  intro j L b q hb
  cases hq:lns j with
  | none=>exact absurd hq (h.lvd j L q)
  | some en =>
   obtain⟨v',xs',h1,h2,_⟩:=h.lvl j en.1 en.2 hq
   rw[q]at h1;injection h1 with h1;subst h1
   exact (jU h2 b hb).2
 refine⟨hle,h'.kp,h'.fs,h'.fb,h'.obd,?_,h'.obi,?_,?_,?_,h'.gb,h'.obm,h'.mpl,h'.mpi,h'.obr,λk L q=>?_,h'.rvi,h'.tgs⟩
 ·intro k cs q hm hrv
  obtain⟨b,vs,t',h1,h2,h3,h4,h5⟩:=h'.obl k cs q hm hrv
  grind[fF]
 ·intro j L q
  rcases hlv j L q with⟨rfl,_⟩|⟨e,q⟩
  grind[aG]
  ·rw[aU _ _ e];exact h.lvd j L q
 ·intro j e' n q
  by_cases ej:j=t
  ·subst ej
   rw[aG]at q;injection q with q;injection q with q1 q2;subst q1;subst q2
   refine⟨v,xs0,aG _ _ _,.inr (own_mono ho h.kp.size),λb hb=>⟨λk q=>?_,λo u q=>?_⟩⟩
   ·have hb2:=hnew b hb
    cases hq:obs k with
    | none=>exact absurd hq (h.obd k b q)
    | some cs =>
     obtain⟨b',_,_,h1,_,h3,_⟩:=h.obl k cs hq (h.obm k b q) (h.obr k b q)
     have q':G.ob k=some b:=q
     simp_all
   ·rcases q with q | q
    ·have:=(h.fs b o u q).1;grind
    ·exact hfr b o u hb q.2
  ·rw[aU _ _ ej]at q
   obtain⟨v',xs,h1,h2,h3⟩:=h'.lvl j e' n q
   exact⟨v',xs,(by show upd G.lv t _ j=_;rw[aU _ _ ej];exact h1),h2,h3⟩
 ·intro j j' L L' b q q' h1 h2
  rcases hlv j L q with⟨e1,r1⟩|⟨e1,q1⟩<;>rcases hlv j' L' q' with⟨e2,r2⟩|⟨e2,q2⟩
  omega
  grind
  grind
  ·exact h.lvi j j' L L' b q1 q2 h1 h2
 ·obtain⟨e',es,xs,h1,h2,h3,h4,h5,h6⟩:=h'.rvl k L q
  refine⟨e',es,xs,h1,h2,h3,h4,h5,λb hb=>⟨(h6 b hb).1,(h6 b hb).2.1,λj L' q'=>?_⟩⟩
  rcases hlv j L' q' with⟨_,rfl⟩|⟨_,q'⟩
  ·intro hb2
   obtain⟨_,_,_,_,_,_,g4,_⟩:=h.rvl k L q
   have:=(g4.lt b hb).2;grind
  ·exact (h6 b hb).2.2 j L' q'
end
variable {G:Cx}{P:Program}{lns:Nat→Option (TypeId×Nat)}{obs:Nat→Option (List V)}
theorem rowV_full{w0 w:World}(h:HRp P w0 w G obs lns){k:Nat}(hk:obs k=none){ty:TypeId}{len:Nat}{parts:List (Nat×V)}{us:List (Nat×Value)}{y:V}{f:Ef}
  (hl:parts.length=us.length) (hp:∀(i:Nat) (p:Nat×V) (q:Nat×Value),parts[i]? = some p→us[i]? = some q→p.1=q.1∧rel G p.2 q.2) {es:List (List D)} (hr:rowV P ty len k parts=some (.full es,.none)) :
  ∃e ws sz,P.underlying ty=some (.slice e)∧bs P e=some sz∧ws.length=len*sz∧cd (len*sz)=true∧es.length=len∧(∀(i:Nat) (c:List D),es[i]? = some c→c.length=sz)∧(Instr.buildSlice ty len ⟨us⟩).run P w=.ok (.slice (some ⟨w.heap.size,0,none⟩) len len) (w.alloc (.cells ⟨ws⟩ e))∧relD (G.withF (fresh w (w.alloc (.cells ⟨ws⟩ e)))).F (.list es) (.slice (some ⟨w.heap.size,0,none⟩) len len):=by
 unfold rowV at hr
 split at hr
 ·rename_i e hu
  split at hr
  ·rename_i sz z hs hz
   split at hr
   ·rename_i zs hzs
    split at hr
    ·rename_i hc
     split at hr
     ·rename_i out hf
      obtain⟨zv,z1,z2,_⟩:=nc hz G w
      have hzr:=gQ z2 hzs
      have hzl:zv.cells.size=sz:=by rw[←hc.1,hzr.1];simp
      -- the cells ahead of the parts
      have hini:rels G (reps len zs) ((List.range (len*sz)).map λq=>zv.cells[q % sz]!):=by
       refine⟨by grind[reps_len],λi x v h1 h2=>?_⟩
       have h3:=reps_at zs x len i h1
       have hi:i<len*sz:=by grind
       rw[List.getElem?_map,List.getElem?_range hi]at h2
       simp at h2
       have hsz:0<sz:=Nat.pos_of_ne_zero (λe=>by simp_all)
       have hm2:i % sz<zv.cells.size:=by grind
       rw[hc.1]at h3
       subst h2
       refine hzr.2 (i % sz) x _ h3 ?_
       simp_all
      obtain⟨ws,w1,w2⟩:=fillV_ok parts us _ _ out hf hini hl hp
      have hol:out.length=len*sz∧ws.length=len*sz:=by
       have:∀(parts:List (Nat×V)) (cells out:List V),nV (λi=>some (i*sz,sz)) cells parts=some out→out.length=cells.length:=by
        intro parts
        induction parts<;>grind[nV,lS]
       have h1:=this _ _ _ hf
       rw[reps_len,hc.1]at h1
       exact⟨h1,by rw[←w2.1];exact h1⟩
      have hrun:(Instr.buildSlice ty len ⟨us⟩).run P w=.ok (.slice (some ⟨w.heap.size,0,none⟩) len len) (w.alloc (.cells ⟨ws⟩ e)):=by
       have hbig:¬(len*sz>2 ^ 24):=by simp_all[g8]
       by_cases h0:len*sz=0
       ·have hw:Instr.fill (λi=>some (i*sz,sz)) ((Array.range (len*sz)).map λq=>(#[]:Array Value)[q % 0]!) us=some ⟨ws⟩:=by
         grind
        simp only[Instr.buildSlice,Sem.run_bind,run_underlying hu,Result.andThen_ok,cn hs,Sem.run_ite,hbig,qW,h0,qX,Sem.run_pure]
        simp_all[qz]
       ·have hw:Instr.fill (λi=>some (i*sz,sz)) ((Array.range (len*sz)).map λq=>zv.cells[q % zv.cells.size]!) us=some ⟨ws⟩:=by
         rw[←w1];congr 1;grind
        simp only[Instr.buildSlice,Sem.run_bind,run_underlying hu,Result.andThen_ok,cn hs,Sem.run_ite,hbig,qW,h0,Sem.run_pure,z1,hw]
        simp_all[qz]
      split at hr
      ·rename_i ds hd
       injection hr with hr;injection hr with e1 e2;injection e1 with e1;subst e1
       obtain⟨d1,d2⟩:=jl w2 hd
       have hrow:=fresh_row (G:=G) (w:=w) (e:=e) (sz:=sz) (len:=len) d1 d2 (by omega)
       exact⟨e,ws,sz,hu,hs,hol.2,hc.2,pS sz len ds,(λi c hc=>(pb sz len ds i 0 c (by omega) hc).1),hrun,hrow⟩
      simp_all
     ·cases hr
    ·cases hr
   ·cases hr
  ·cases hr
 ·cases hr
section
variable {P : Program} {g : Pg P} {d : Option Tmp} {t ty : TypeId} {p : String} {af : Array Edge} {gd : Option (Nat × Bool)} {fr : Fr} {s : Sg} {R : V → Sg → Prop}
theorem alt_litOwn{e:TypeId}{sz len:Nat}{parts:Array (Nat×Operand)}{es:List (List D)}(ht:appT P t=some (e,sz))(hr:rowV P t len s.obs.length (parts.toList.map λp=>(p.1,aN fr p.2))=some (.full es,.none))(hpos:0<len)(h:R (.own s.lns.length es) ⟨s.obs,s.lns++[(e,es.length)]⟩):altR g ⟨d,.buildSlice t len parts,ty,p,af,gd⟩ fr s R:=by
  intro w0 w G a hH hfr
  obtain⟨i,z,hu,hi,hiz,z1,z2,z3,z4⟩:=m8 ht
  have hce:P.cellsOf e=sz:=by simp_all[Program.cellsOf]
  obtain⟨e',ws,sz',hu',hs',hwl,hok,hel,hcs,hrun,hrel⟩:=rowV_full (y:=.undef) (f:=.none) (G:=G) (us:=parts.toList.map λp=>(p.1,a.eval p.2)) hH (k:=s.obs.length) (by simp) (by simp) (λi p q h1 h2=>by
    grind[aK]) hr
  have he:e'=e:=by simp_all
  subst he
  have hsz:sz'=P.cellsOf e':=by
    simp_all[bs]
  subst hsz
  have hb:=g8 hok
  have hlen:len≤maxLen:=by
    rcases Nat.eq_zero_or_pos (P.cellsOf e')with q | q
    omega
    · have:=Nat.le_mul_of_pos_right len q
      grind[maxLen]
  have hown:(w.alloc (.cells ⟨ws⟩ e')).ownsRow w.heap.size e' (P.cellsOf e') (.slice (some ⟨w.heap.size,0,none⟩) len len) len ws:=⟨hwl,.inr ⟨w.heap.size,len,⟨ws⟩,rfl,zB _,heap_alloc_new w _,zB _,hlen,by omega,by grind⟩⟩
  obtain⟨hle,hN⟩:=hH.beginRowN ((Kp.refl w).alloc _) s.lns.length (by simp) e' hown (λb o u hb hc=>by
    grind[Value.ownBlock,World.cell?_alloc_new])
  rw[pK]at hN
  refine⟨.value (.slice (some ⟨w.heap.size,0,none⟩) len len),_,.own s.lns.length es,⟨s.obs,s.lns++[(e',es.length)]⟩,{ G.withF (fresh w (w.alloc (.cells ⟨ws⟩ e')))with lv:=upd G.lv s.lns.length ⟨len,P.cellsOf e',.slice (some ⟨w.heap.size,0,none⟩) len len⟩ },?_,.inl ⟨_,rfl,.own _ es _ hrel _ (aG _ _ _) hcs (.inl ⟨hel,rfl⟩)⟩,hle,by rw[hel];exact hN,h⟩
  have hm:parts.map (λx=>(x.1,a.eval x.2))=⟨parts.toList.map λx=>(x.1,a.eval x.2)⟩:=by
    grind
  simp_all[execOp]
end
section
variable {P : Program} {g : Pg P} {d : Option Tmp} {t ty : TypeId} {p : String} {af : Array Edge} {gd : Option (Nat × Bool)} {fr : Fr} {s : Sg} {R : V → Sg → Prop}
end
section
variable {P : Program}
theorem HRp.beginRowP{w0 w w':World}{G:Cx}{obs:Nat→Option (List V)}{lns:Nat→Option (TypeId×Nat)}(h:HRp P w0 w G obs lns)(hk:Kp w w')(t:Nat)(ht:lns t=none)(e:TypeId){v:Value}{n0:Nat}{xs0:List Value}(ho:w'.ownsRow w.heap.size e (P.cellsOf e) v n0 xs0) :
  let G':Cx:={ G with F:=λb o u=>G.F b o u∨(fresh w w' b o u∧(v.ownBlock=some b→o<n0*P.cellsOf e)),lv:=upd G.lv t ⟨n0,P.cellsOf e,v⟩ }
  G.le G'∧HRp P w0 w' G' obs (upd lns t (e,n0)):=by
 intro G'
 have h':=h.kept hk
 have hnone:G.lv t=none:=by
  cases hq:G.lv t with
  | none=>rfl
  | some b=>exact absurd ht (h.lvd t b hq)
 have hlv:∀j L,G'.lv j=some L→(j=t∧L=⟨n0,P.cellsOf e,v⟩)∨(j≠t∧G.lv j=some L):=by
  grind[aG,aU]
 have hnew:∀b,v.ownBlock=some b→w.heap.size≤b:=λb hb=>(ho.lt b hb).1
 have hle:G.le G':=by
  refine⟨rfl,λ_ _ _ q=>.inl q,λ_ _ q=>q,λj L q=>⟨L,?_,rfl,.inl rfl⟩,λ_ _ q=>q,λ_ L q=>⟨L,q,rfl,.inl rfl⟩,λ_ _ q=>q⟩
  grind[aU]
 have hlvl:∀j L b,G.lv j=some L→L.v.ownBlock=some b→b<w.heap.size:=by
  intro j L b q hb
  cases hq:lns j with
  | none=>exact absurd hq (h.lvd j L q)
  | some en =>
   obtain⟨v',xs',h1,h2,_⟩:=h.lvl j en.1 en.2 hq
   rw[q]at h1;injection h1 with h1;subst h1
   exact (jU h2 b hb).2
 have hobl:∀k b,G.ob k=some b→b<w.heap.size:=by
  intro k b q
  cases hq:obs k with
  | none=>exact absurd hq (h.obd k b q)
  | some cs =>
   obtain⟨b',_,_,h1,_,h3,_⟩:=h.obl k cs hq (h.obm k b q) (h.obr k b q)
   grind
 have hrvl:∀k L b,G.rv k=some L→L.v.ownBlock=some b→b<w.heap.size:=by
  intro k L b q hb
  obtain⟨_,_,_,_,_,_,g4,_⟩:=h.rvl k L q
  exact (g4.lt b hb).2
 refine⟨hle,h'.kp,?_,?_,h'.obd,?_,h'.obi,?_,?_,?_,h'.gb.mono λ_ _ _ q=>.inl q,h'.obm,?_,h'.mpi,h'.obr,λk L q=>?_,h'.rvi,h'.tgs⟩
 ·rintro b o u (q | ⟨q,_⟩)
  ·exact h'.fs b o u q
  ·exact⟨cell_lt q.2,q.2⟩
 ·rintro b o u (q | ⟨q,_⟩)
  ·exact h'.fb b o u q
  ·exact .inr (Nat.le_trans h.kp.size q.1)
 ·intro k cs q hm hrv
  obtain⟨b,vs,t',h1,h2,h3,h4,h5⟩:=h'.obl k cs q hm hrv
  refine⟨b,vs,t',h1,h2,h3,fF hle h4,?_⟩
  rintro o u (q | ⟨q,_⟩)
  simp_all
  ·have:=q.1;grind
 ·intro j L q
  rcases hlv j L q with⟨rfl,_⟩|⟨e,q⟩
  grind[aG]
  ·rw[aU _ _ e];exact h.lvd j L q
 ·intro j e' n q
  by_cases ej:j=t
  ·subst ej
   rw[aG]at q;injection q with q;injection q with q1 q2;subst q1;subst q2
   refine⟨v,xs0,aG _ _ _,.inr (own_mono ho h.kp.size),λb hb=>⟨λk q=>?_,λo u q=>?_⟩⟩
   grind
   ·rcases q with q | q
    ·have:=(h.fs b o u q).1;grind
    simp_all
  ·rw[aU _ _ ej]at q
   obtain⟨v',xs,h1,h2,h3⟩:=h'.lvl j e' n q
   refine⟨v',xs,(by grind[aU]),h2,λb hb=>⟨(h3 b hb).1,λo u q=>?_⟩⟩
   rcases q with q | ⟨q,_⟩
   grind
   ·have:=q.1;grind
 ·intro j j' L L' b q q' h1 h2
  rcases hlv j L q with⟨e1,r1⟩|⟨e1,q1⟩<;>rcases hlv j' L' q' with⟨e2,r2⟩|⟨e2,q2⟩
  omega
  grind
  grind
  ·exact h.lvi j j' L L' b q1 q2 h1 h2
 ·intro j b q
  obtain⟨h1,es',n',ik',kvs',h2,h3,h4⟩:=h'.mpl j b q
  grind[relM_mono]
 ·obtain⟨e',es,xs,h1,h2,h3,h4,h5,h6⟩:=h'.rvl k L q
  refine⟨e',es,xs,h1,h2,h3,h4,ny (λ_ _ _ q=>.inl q) h5,λb hb=>⟨(h6 b hb).1,?_,λj L' q'=>?_⟩⟩
  ·rintro o u (q' | ⟨q',_⟩)
   simp_all
   ·have:=q'.1;grind
  grind
end
def SpecO{P:Program}(_:Pg P)(f:FuncId)(args:List V)(e:TypeId)(es:List (List D)):Prop :=
 cm P f=true∧∀(w:World) (F:Nat→Nat→Value→Prop) (vs:List Value),(∀b o v,F b o v→b<w.heap.size∧w.cell? ⟨b,o,none⟩=some v)→lP w F→rels (iz F) args vs →
  Calls P f ⟨vs⟩ w λen w'=>∃v xs F2,en=.returned v∧Kp w w'∧w'.ownsRow w.heap.size e (P.cellsOf e) v es.length xs∧(∀(i:Nat) (c:List D),es[i]? = some c→c.length=P.cellsOf e)∧relD F2 (.list es) v∧∀b o u,F2 b o u→F b o u∨(fresh w w' b o u∧(v.ownBlock=some b→o<es.length*P.cellsOf e))
section
variable {P : Program} {g : Pg P} {s : Sg} {R : V → Sg → Prop}
theorem SpecO.toS{f:FuncId}{args args':List V}{e:TypeId}{es:List (List D)}(h:SpecO g f args' e es)(ha:args.map V.clean=args')(hR:R (.own s.lns.length es) ⟨s.obs,s.lns++[(e,es.length)]⟩):bf g f args s R:=by
 subst ha
 refine⟨h.1,λw0 w G vs hH hr=>?_⟩
 refine (h.2 w G.F vs hH.fs (hH.gb.kp hH.kp) ?_).mono ?_
 ·refine⟨by simp[hr.1],λi x v h1 h2=>?_⟩
  rw[List.getElem?_map]at h1
  cases hq:args[i]? with
  | none=>simp_all
  | some y=>rw[hq]at h1;simp at h1;subst h1;exact jo (hr.2 i y v hq h2) G.F (λ_ _ _ q=>q)
 ·rintro en w' ⟨v,xs,F2,rfl,hk,ho,hel,hx,hF⟩
  obtain⟨hle,hN⟩:=HRp.beginRowP hH hk s.lns.length (by simp) e ho
  rw[pK]at hN
  exact⟨v,.own s.lns.length es,⟨s.obs,s.lns++[(e,es.length)]⟩,_,rfl,hle,hN,.own _ es v (b8 hF hx) ⟨es.length,P.cellsOf e,v⟩ (aG _ _ _) hel (.inl ⟨rfl,rfl⟩),hR⟩
theorem SpecO.nilcase{f:FuncId}{e:TypeId}{es:List (List D)}(h:∀A c,SpecO g f [.d (.other (.slice A 0 c))] e es):SpecO g f [.d (.list [])] e es:=by
 refine⟨(h none 0).1,λw F vs hF hg hr=>?_⟩
 match vs,hr with
 | [v],hr =>
  have r:=(aV hr).1
  cases r with
  | d q=>cases q with
   | nil A c=>exact (h A c).2 w F _ hF hg (dM (.d (.other _ rfl)) (i6 _))
   | list _ b o c sz f h1=>simp_all
 | [],hr=>have:=hr.1;simp at this
 | _::_::_,hr=>have:=hr.1;simp at this
end
section
variable {P : Program} {g : Pg P} {d : Option Tmp} {t ty : TypeId} {p : String} {af : Array Edge} {gd : Option (Nat × Bool)} {fr : Fr} {s : Sg} {R : V → Sg → Prop}
theorem alt_makeOwn{l c:Operand}{kl kc:IntKind}{n:Int}{sz:Nat}{e:TypeId}(hl:aN fr l=.d (.int kl 0))(hc:aN fr c=.d (.int kc n))(ht:appT P t=some (e,sz))(h0:0≤n)(hn:cd n.toNat=true)(h:R (.own s.lns.length []) ⟨s.obs,s.lns++[(e,0)]⟩):altR g ⟨d,.makeSlice t l c,ty,p,af,gd⟩ fr s R:=by
 intro w0 w G a hH hfr
 obtain⟨i,z,hu,hi,hiz,z1,z2,z3,z4⟩:=m8 ht
 have hlv:=fw (hl▸aK hfr l)
 have hcv:=fw (hc▸aK hfr c)
 have hn':=g8 hn
 have hbytes:(i.bytes:Int)*n≤281474976710656:=by
  have:i.bytes*n.toNat≤8000000*16777216:=zH z4 hn'
  grind
 have hrun:=run_make (P:=P) w t e i z hu hi hiz kl kc 0 n (Int.le_refl _) h0 hbytes (by omega)
 have hce:P.cellsOf e=sz:=by simp_all[Program.cellsOf]
 have hsz:(madeCells z.cells (n.toNat*i.size)).size=n.toNat*sz:=by rw[size_madeCells,z2]
 have hown:(w.alloc (.cells (madeCells z.cells (n.toNat*i.size)) e)).ownsRow w.heap.size e (P.cellsOf e) (.slice (some ⟨w.heap.size,0,none⟩) 0 n.toNat) 0 [] :=
  ⟨by simp,.inr ⟨w.heap.size,n.toNat,madeCells z.cells (n.toNat*i.size),rfl,zB _,heap_alloc_new w _,Nat.zero_le _,by grind[maxLen],by simp_all,by simp⟩⟩
 obtain⟨hle,hN⟩:=hH.beginRow ((Kp.refl w).alloc _) s.lns.length (by simp) e hown
 rw[pK]at hN
 refine⟨.value (.slice (some ⟨w.heap.size,0,none⟩) 0 n.toNat),_,.own s.lns.length [],⟨s.obs,s.lns++[(e,0)]⟩,{ G with lv:=upd G.lv s.lns.length ⟨0,P.cellsOf e,.slice (some ⟨w.heap.size,0,none⟩) 0 n.toNat⟩ },?_,.inl ⟨_,rfl,.own _ [] _ (.nil _ _) _ (aG _ _ _) (λi c hc=>by simp at hc) (.inl ⟨rfl,rfl⟩)⟩,hle,hN,h⟩
 simp_all[execOp]
theorem kj{α:Type}{en:α→List D}{z:α}{l c:Operand}{kl kc:IntKind}{n:Int}{sz:Nat}{e:TypeId}{zs:List V}{zd:V}(hl:aN fr l=.d (.int kl n))(hc:aN fr c=.d (.int kc n))(ht:appT P t=some (e,sz))(hz:eT P e=some zd)(hzs:zd.cells? = some zs)(hds:ip zs=some (en z))(h0:0≤n)(hn:cd n.toNat=true)(h:R (.gr s.obs.length 0) ⟨s.obs++[[.rowc e 0 (List.map en (zA n.toNat z))]],s.lns⟩):altR g ⟨d,.makeSlice t l c,ty,p,af,gd⟩ fr s R:=by
 grind[alt_makeRow,zE]
theorem alt_makeOwnN{l c:Operand}{kl kc:IntKind}{n:Int}{sz:Nat}{e:TypeId}{zs:List V}{zd:V}{ds:List D}(hl:aN fr l=.d (.int kl n))(hc:aN fr c=.d (.int kc n))(ht:appT P t=some (e,sz))(hz:eT P e=some zd)(hzs:zd.cells? = some zs)(hds:ip zs=some ds)(h0:0≤n)(hn:cd n.toNat=true)(h:R (.own s.lns.length (zA n.toNat ds)) ⟨s.obs,s.lns++[(e,n.toNat)]⟩):altR g ⟨d,.makeSlice t l c,ty,p,af,gd⟩ fr s R:=by
  intro w0 w G a hH hfr
  obtain⟨i,z,hu,hi,hiz,z1,z2,z3,z4⟩:=m8 ht
  have hlv:=fw (hl▸aK hfr l)
  have hcv:=fw (hc▸aK hfr c)
  have hn':=g8 hn
  have hbytes:(i.bytes:Int)*n≤281474976710656:=by
    have:i.bytes*n.toNat≤8000000*16777216:=zH z4 hn'
    grind
  have hrun:=run_make (P:=P) w t e i z hu hi hiz kl kc n n h0 (Int.le_refl _) hbytes (by omega)
  have hce:P.cellsOf e=sz:=by simp_all[Program.cellsOf]
  have hown:=World.ownsRow_lit (base:=w.heap.size) (e:=e) (size:=sz) w (madeCells z.cells (n.toNat*i.size)) n.toNat (zB _) (by grind[maxLen]) (by rw[size_madeCells,z2])
  obtain⟨zv,y1,y2,_⟩:=nc hz G w
  have hzv:zv=z:=by
    simp_all[zeroValue,typeInfo]
  subst hzv
  obtain⟨d1,d2⟩:=jl (gQ y2 hzs) hds
  have hdl:ds.length=sz:=by simp_all
  generalize hw':w.alloc (.cells (madeCells zv.cells (n.toNat*i.size)) e)=w' at hown hrun
  have hcell:∀j,j<n.toNat*sz→w'.cell? ⟨w.heap.size,j,none⟩=some (zv.cells[j % sz]!):=by
    intro j hj
    rw[←hw',World.cell?_alloc_new]
    rw[←Array.getElem?_toList,made_at _ _ _ (by simp_all),z1]
  obtain⟨hle,hN⟩:=hH.beginRowN (w':=w') (by rw[←hw'];exact (Kp.refl w).alloc _) s.lns.length (by simp) e (v:=.slice (some ⟨w.heap.size,0,none⟩) n.toNat n.toNat) (n0:=n.toNat) (xs0:=(madeCells zv.cells (n.toNat*i.size)).toList) (by simp_all) (λb o u hb hc=>by
    grind[Value.ownBlock,World.cell?_alloc_new,size_madeCells])
  rw[pK]at hN
  have hrel:relD (G.withF (fresh w w')).F (.list (zA n.toNat ds)) (.slice (some ⟨w.heap.size,0,none⟩) n.toNat n.toNat):=by
    by_cases hz0:n.toNat=0
    · rw[hz0];exact .nil _ _
    · have := relD.list (F := (G.withF (fresh w w')).F) (zA n.toNat ds) w.heap.size 0 n.toNat sz (λi j => (zv.cells[j]!)) (by simp_all) (by simp) (λi c hc => by
        grind) (λi j c x hc hx=>by
        have hi':=aF hc
        rw[List.length_replicate]at hi'
        have hc':=zD (List.mem_of_getElem? hc)
        subst hc'
        have hj:=aF hx
        refine .inr ⟨zB _,?_⟩
        have hin:i*sz+j<n.toNat*sz:=by
          have:(i+1)*sz≤n.toNat*sz:=Nat.mul_le_mul_right _ (by omega)
          grind
        simp_all[Nat.mod_eq_of_lt]) (λi j c x hc hx=>by
        have hc':=zD (List.mem_of_getElem? hc)
        subst hc'
        have hj:=aF hx
        refine b8 (λb o u q=>.inl q) (d2 j x _ hx ?_)
        simp_all)
      simp_all
  refine⟨.value (.slice (some ⟨w.heap.size,0,none⟩) n.toNat n.toNat),w',.own s.lns.length (zA n.toNat ds),⟨s.obs,s.lns++[(e,n.toNat)]⟩,{ G.withF (fresh w w')with lv:=upd G.lv s.lns.length ⟨n.toNat,P.cellsOf e,.slice (some ⟨w.heap.size,0,none⟩) n.toNat n.toNat⟩ },?_,.inl ⟨_,rfl,.own _ _ _ hrel _ (aG _ _ _) (λi c hc=>by grind) (.inl ⟨by simp,rfl⟩)⟩,hle,hN,h⟩
  simp_all[execOp]
theorem alt_makeOM{α:Type}{en:α→List D}{z:α}{l c:Operand}{kl kc:IntKind}{n:Int}{sz:Nat}{e:TypeId}{zs:List V}{zd:V}(hl:aN fr l=.d (.int kl n))(hc:aN fr c=.d (.int kc n))(ht:appT P t=some (e,sz))(hz:eT P e=some zd)(hzs:zd.cells? = some zs)(hds:ip zs=some (en z))(h0:0≤n)(hn:cd n.toNat=true)(h:R (.own s.lns.length (List.map en (zA n.toNat z))) ⟨s.obs,s.lns++[(e,(zA n.toNat z).length)]⟩):altR g ⟨d,.makeSlice t l c,ty,p,af,gd⟩ fr s R:=by
 grind[alt_makeOwnN,zE]
end
def qj(P:Program)(o:Oper):Bool:=match o.op with
 | .move _ | .assign _ | .pick _ _ _ | .build _ _ | .nilCheck _ | .unOp _ _ _ | .fieldAddr _ _ _ | .field _ _ _ | .indexAddr _ _ _ | .index _ _ _ | .extract _ _ | .load _ _ | .slice _ _ _ _ _=>true
 | .binOp _ t _ z _=>!sliceT P t&&!isNilC z
 | .convert _ d _=>match P.underlying d with | some (.int _)=>true | _=>false
 | .call ⟨.builtin .len,_,_⟩=>true
 | _=>false
def stW{P:Program}(g:Pg P)(ops:Array Oper)(l:List Oper)(fr:Fr)(s:Sg)(K:Fr→Sg→Prop):Prop :=
 ∀(w0:World) (G0 G:Cx) (a:Act) (w:World) (Q:Act→Prop),(∀a,Post g w0 G0 K a w→Q a)→G0.le G→HR P w0 w G s→FR G fr a→a.defers=[]→wpStill P ops w Q l a
def stR{P:Program}(_:Pg P)(o:Oper)(fr:Fr)(s:Sg)(R:V→Prop):Prop :=
 ∃y,R y∧∀(w0 w:World) (G:Cx) (a:Act),HR P w0 w G s→FR G fr a→∃v,(execOp a.eval o).run P w=.ok (.value v) w∧rel G y v
section
variable {P : Program} {g : Pg P}
theorem read_ok {w0 w : World} {G : Cx} {s : Sg} {o : Oper} {fr : Fr} {a : Act} {y : V} {f : Ef} (hr : qj P o = true) (hH : HR P w0 w G s) (hfr : FR G fr a) (hs : il g (λk => s.obs[k]?) (λt => s.lns[t]?) s.obs.length s.lns.length o (aN fr) = some (y, f)) :
    f.sg s=s∧∃v,(execOp a.eval o).run P w=.ok (.value v) w∧rel G y v:=by
  have hF:=λb o v q=>(hH.fs b o v q).2
  have ev:=λx=>aK hfr x
  have pure:∀z,oK g o (aN fr)=some z→y=z→f=.none→f.sg s=s∧∃v,(execOp a.eval o).run P w=.ok (.value v) w∧rel G y v:=by
    rintro z hz rfl rfl
    exact⟨rfl,pureS_ok hF hfr hz⟩
  obtain⟨dst,op,ty,p,af,gd⟩:=o
  cases op
  case load t x =>
    simp only[il,extS,fJ]at hs
    split at hs
    · rename_i j off hx
      split at hs
      · rename_i cs hcs
        split at hs
        · rename_i z hz
          injection hs with hs;injection hs with e1 e2;subst e1;subst e2
          obtain⟨b,q,hv⟩:=ly (hx▸ev x)
          obtain⟨b',vs,tt,h1,h2,h3,h4,h5⟩:=hH.obl j cs hcs (hH.obm j b q) (hH.obr j b q)
          rw[q]at h1;injection h1 with h1;subst h1
          obtain⟨v,r1,r2⟩:=me (P:=P) (b:=b) (o:=0) (w:=w) hz h4 (λi v hi=>by
            rw[cell_of_row w b _ _ _ _ h3];simpa using hi)
          refine⟨rfl,v,?_,r2⟩
          rw[zF]at r1
          simp only[execOp,Instr.loadAt,hv,Instr.sureAddr,Sem.run_bind,Sem.run_pure,Result.andThen_ok,r1]
        · cases hs
      · cases hs
    · rename_i cs off hx
      split at hs
      · rename_i z hz
        injection hs with hs;injection hs with e1 e2
        exact pure z (by simp only[oK,hx];exact hz) e1.symm e2.symm
      · cases hs
    · rename_i b off hx
      split at hs
      · rename_i cs hg
        split at hs
        · rename_i z hz
          injection hs with hs;injection hs with e1 e2;subst e1;subst e2
          have hr:=ev x
          rw[hx]at hr
          have hv:a.eval x=.pointer (some ⟨b,off,none⟩):=by
            generalize a.eval x=q at hr
            cases hr with | d q=>cases q;rfl
          obtain⟨u,hu⟩:=(hH.gb.1 b cs hg)
          obtain⟨v,r1,r2⟩:=me (P:=P) (b:=b) (o:=0) (w:=w) hz (mQ (G:=G) (u:=u) (λj x hx=>(hu j x hx).2)) (λj v hj=>by
            rw[List.getElem?_map]at hj
            cases hc:cs[j]? with
            | none =>
              rw[List.getElem?_eq_none (by rw[List.length_range];exact List.getElem?_eq_none_iff.1 hc)]at hj
              cases hj
            | some y =>
              rw[List.getElem?_range (aF hc)]at hj
              simp at hj;subst hj
              rw[zF]
              exact hF _ _ _ (hu j y hc).1)
          refine⟨rfl,v,?_,r2⟩
          rw[zF]at r1
          simp only[execOp,Instr.loadAt,hv,Instr.sureAddr,Sem.run_bind,Sem.run_pure,Result.andThen_ok,r1]
        · cases hs
      · cases hs
    · cases hs
  case call c =>
    obtain⟨cal,args,tys⟩:=c
    cases cal
    case builtin b =>
      cases b<;>simp[qj]at hr
      simp only[il,extS,fJ]at hs
      split at hs
      · rename_i h1 _ _;cases h1
      · rename_i x t h1 h2 h3
        split at hs
        · rename_i z hz
          injection hs with hs;injection hs with e1 e2
          exact pure z (by simp only[oK,h2,h3];exact hz) e1.symm e2.symm
        · cases hs
      · cases hs
    all_goals simp[qj]at hr
  case convert sr d x =>
    have hn:extS P ⟨dst,.convert sr d x,ty,p,af,gd⟩ (aN fr)=none:=by
      simp only[qj]at hr
      simp only[extS]
      split at hr
      · rename_i k hu
        split
        · rw[qU (by simp[bytesT,hu])]
        · rw[qU (by simp[strT,hu])]
        · rfl
      · cases hr
    simp only[il,hn,fJ]at hs
    split at hs
    · rename_i z hz
      injection hs with hs;injection hs with e1 e2
      exact pure z hz e1.symm e2.symm
    · cases hs
  case binOp op t x z t' =>
    have hn:extS P ⟨dst,.binOp op t x z t',ty,p,af,gd⟩ (aN fr)=none:=by
      simp only[qj,Bool.and_eq_true,Bool.not_eq_true']at hr
      simp[extS,hr.1,hr.2]
    simp only[il,hn,fJ]at hs
    split at hs
    · rename_i z hz
      injection hs with hs;injection hs with e1 e2
      exact pure z hz e1.symm e2.symm
    · cases hs
  all_goals first
    | (simp[qj]at hr;done)
    | (simp only [il, extS, fJ] at hs
       split at hs
       · rename_i z hz
         injection hs with hs;injection hs with e1 e2
         exact pure z hz e1.symm e2.symm
       · cases hs)
variable {ops : Array Oper} {fr : Fr} {s : Sg} {K : Fr → Sg → Prop}
theorem st_seq{w0:World}{G0 G:Cx}{w:World}{Q:Act→Prop}(h0:G0.le G)(hH:HR P w0 w G s)(l2:List Oper)(hQ:∀a,Post g w0 G0 K a w→(∃fr',FR G fr' a∧a.defers=[]∧K fr' s)→wpStill P ops w Q l2 a) :
  ∀(l:List Oper) (fr:Fr) (a:Act),(l.all (qj P))=true→regS g true ops l fr s K→FR G fr a→a.defers=[]→wpStill P ops w Q (l++l2) a
 | [],fr,a,_,h,hfr,hd=>hQ a ⟨G,fr,s,h0,hH,hfr,hd,h⟩ ⟨fr,hfr,hd,h⟩
 | o::rest,fr,a,hr,h,hfr,hd=>by
  simp only[List.all_cons,Bool.and_eq_true]at hr
  unfold regS at h
  rw[List.cons_append]
  unfold wpStill
  cases hw:bo ops fr o with
  | none=>simp_all
  | some b =>
   rw[hw]at h
   simp only at h
   rw[fK hfr hw]
   cases b with
   | false =>
    rw[qU (by simp)]at h
    rw[qU (by simp)]
    exact st_seq h0 hH l2 hQ rest _ _ hr.2 h (ii hfr .skip o.dst) (by simp_all[cg])
   | true =>
    rw[qV rfl]at h
    rw[qV rfl]
    split at h
    simp_all[qj]
    ·split at h
     ·rename_i y f hs
      obtain⟨e1,v,h1,h2⟩:=read_ok hr.1 hH hfr hs
      rw[e1]at h
      unfold Oper.still
      rw[h1,Oper.stillUpon_value]
      exact st_seq h0 hH l2 hQ rest _ _ hr.2 h (ii hfr h2 o.dst) (by simp_all[cg])
     simp_all
theorem stW.of{l:List Oper}(hr:l.all (qj P)=true)(h:regS g true ops l fr s K):stW g ops l fr s K:=by
 intro w0 G0 G a w Q hQ h0 hH hfr hd
 have:=st_seq (Q:=Q) h0 hH [] (λa q _=>by exact hQ a q) l fr a hr h hfr hd
 simp_all
theorem stW.alt{l:List Oper}(n:Nat){o:Oper}(ho:l[n]? = some o)(hr:(l.take n).all (qj P)=true)
  (h:regS g true ops (l.take n) fr s (λfr' s'=>bo ops fr' o=some true∧stR g o fr' s' (λy=>stW g ops (l.drop (n+1)) (putF fr' o.dst y) s' K))):stW g ops l fr s K:=by
 intro w0 G0 G a w Q hQ h0 hH hfr hd
 have hl:l=l.take n++(o::l.drop (n+1)):=by
  grind[List.drop_eq_getElem_cons,List.take_append_drop]
 rw[hl]
 refine st_seq (Q:=Q) h0 hH (o::l.drop (n+1)) ?_ (l.take n) fr a hr h hfr hd
 rintro a _ ⟨fr',q3,q4,hw,y,hy,hx⟩
 unfold wpStill
 rw[fK q3 hw,qV rfl]
 obtain⟨v,h1,h2⟩:=hx w0 w G a hH q3
 unfold Oper.still
 rw[h1,Oper.stillUpon_value]
 exact hy w0 G0 G _ w Q hQ h0 hH (ii q3 h2 o.dst) (by grind[cg])
theorem SWs.regionS{id:Nat}{Q:SQ}(hB:Region.lexB .any ops=true)(h:stW g ops ops.toList fr s (Q .normal)):SWs g (.region id ops true) Q fr s :=
 λ_ w0 G0 G a w h0 hH hfr hd=>wp_region_still g.mixed hB (h w0 G0 G a _ _ (λa q=>q) h0 (hH.kept ((Kp.refl w).drew)) hfr hd)
theorem Mir.regionS{ε:Type}{Φ:ε→SQ}{m:Option ε}{id:Nat}(hB:Region.lexB .any ops=true)(h:∀e,m=some e→stW g ops ops.toList fr s (Φ e .normal)):Mir g (.region id ops true) fr s m Φ:=λe he=>SWs.regionS hB (h e he)
end
section
variable {P : Program} {g : Pg P} {d : Option Tmp} {t ty : TypeId} {p : String} {af : Array Edge} {gd : Option (Nat × Bool)} {fr : Fr} {s : Sg} {R : V → Prop}
theorem st_indexR{x i:Operand}{k n:Nat}{e:TypeId}{es:List (List D)}{ki:IntKind}{m:Int}{sz:Nat}(hx:aN fr x=.gr k n)(ho:s.obs[k]? = some [.rowc e n es])(hi:aN fr i=.d (.int ki m))(ht:P.underlying t=some (.slice e))(hs:bs P e=some sz)(h0:0≤m)(hm:m<(es.length:Int))(h:R (.gp k n m.toNat 0)):stR g ⟨d,.indexAddr t x i,ty,p,af,gd⟩ fr s R:=by
 refine⟨_,h,λw0 w G a hH hfr=>?_⟩
 obtain⟨L,xs,a1,a2,a3,a4,a5,_⟩:=inv_gr hH (hx▸aK hfr x) ho
 have hiv:=fw (hi▸aK hfr i)
 obtain⟨b,cap,hv,_⟩:=a5.form (by omega)
 have hsz:L.sz=sz:=a4.trans (size_of hs)
 refine⟨.pointer (some ⟨b,m.toNat*sz,none⟩),?_,.gp k n m.toNat 0 _ rfl L a1 (.inl ⟨a3.symm,b,?_,?_⟩)⟩
 ·simp[execOp,hv,hiv,Instr.indexAt,asIntOf,run_underlying ht,h0,hm,cn hs,Addr.add_lit]
 ·rw[←a2,hv];rfl
 simp_all
theorem st_loadR{x:Operand}{k n i off:Nat}{e:TypeId}{es:List (List D)}{c:List D}{y:V}(hx:aN fr x=.gp k n i off)(ho:s.obs[k]? = some [.rowc e n es])(hc:es[i]? = some c)(hy:jv P t (gM c) off=some y)(h:R y):stR g ⟨d,.load t x,ty,p,af,gd⟩ fr s R:=by
 refine⟨_,h,λw0 w G a hH hfr=>?_⟩
 obtain⟨nx,w',y',s',G',h1,h2,h3,h4,h5⟩:=pl (g:=g) (d:=d) (ty:=ty) (p:=p) (af:=af) (gd:=gd) (R:=λy'' s''=>y''=y) hx ho hc hy rfl w0 w G a hH hfr
 obtain⟨L,xs,b,a1,a3,a4,a5,a6,a7,a8⟩:=inv_gp hH (hx▸aK hfr x) ho
 obtain⟨cap,cur,c1,c2,c3,c4,c5,c6,c7⟩:=own_at a7 a5
 have hlen:=a8.1 i c hc
 have hg:∀j,j<c.length→∃v,xs[i*L.sz+j]? = some v:=by
  intro j hj
  obtain⟨v,h1,h2⟩:=a8.2 i j c c[j] hc (List.getElem?_eq_getElem hj)
  simp_all
 have hr:rels G (gM c) ((List.range c.length).map λj=>(xs[i*L.sz+j]?).getD Go.undef):=by
  refine⟨by simp[gM],λj y v h1 h2=>?_⟩
  unfold gM at h1
  rw[List.getElem?_map]at h1
  cases hq:c[j]? with
  | none=>simp_all
  | some z =>
   rw[hq]at h1;simp at h1;subst h1
   have hj:=aF hq
   rw[List.getElem?_map,List.getElem?_range hj]at h2
   simp at h2;subst h2
   obtain⟨v,u1,u2⟩:=a8.2 i j c z hc hq
   rw[u1];exact .d u2
 obtain⟨v,r1,r2⟩:=me (P:=P) (b:=b) (o:=i*L.sz) (w:=w) hy hr (λj v hj=>by
  grind[cell_of_row])
 simp_all[execOp,Instr.loadAt,Instr.sureAddr]
end
theorem jW{P:Program}{ops:Array Oper}{Q:Exit→Act→World→Prop}:∀(f:Nat) (L:Array Bool) (a:Act) (w:World),wpAny P .any ops (λe a w=>e=.normal∧Q .normal a w) f L a w→wpAny P .any ops Q f L a w
 | 0,L,a,w,h=>⟨h.1,h.2.2⟩
 | f+1,L,a,w,h=>by
  refine⟨λq=>(h.1 q).2,λi hi=>?_⟩
  have h2:=h.2 i hi
  unfold wpOp at h2 ⊢
  cases ho:ops[i]? with
  | none=>rw[ho]at h2;exact jW f _ a w h2
  | some o =>
   rw[ho]at h2
   simp only at h2 ⊢
   split
   ·rename_i hw
    rw[qV hw]at h2
    exact qt (λe a w he q=>he q.1) (λa w q=>jW f _ a w q) h2
   ·rename_i hw
    rw[qU hw]at h2
    exact jW f _ _ w h2
def nF(P:Program)(o:Oper):Bool:=match o.op with
 | .move _ | .assign _ | .pick _ _ _ | .unOp _ _ _ | .extract _ _=>true
 | .binOp _ t _ z _=>!sliceT P t&&!isNilC z
 | .convert _ d _=>match P.underlying d with | some (.int _)=>true | _=>false
 | _=>false
variable {y:V}
theorem pure_of{g:Pg P}{k t:Nat}{o:Oper}{ρ:Operand→V}{f:Ef}(hk:nF P o=true)(hs:il g obs lns k t o ρ=some (y,f)):oK g o ρ=some y∧f=.none:=by
 have fin:∀z,oK g o ρ=some z→some (z,Ef.none)=some (y,f)→oK g o ρ=some y∧f=.none:=by
  simp_all
 obtain⟨dst,op,ty,p,af,gd⟩:=o
 cases op
 case convert sr d x =>
  have hn:extS P ⟨dst,.convert sr d x,ty,p,af,gd⟩ ρ=none:=by
   simp only[nF]at hk
   simp only[extS]
   split at hk
   ·rename_i k hu
    split<;>simp_all[bytesT,strT]
   ·cases hk
  grind[il,fJ]
 case binOp op t x z t' =>
  have hn:extS P ⟨dst,.binOp op t x z t',ty,p,af,gd⟩ ρ=none:=by
   simp_all[nF,extS]
  grind[il,fJ]
 all_goals first
  | (simp[nF]at hk;done)
  | (grind[il,extS,fJ])
variable {v':Value}
theorem plainD_det{F F':Nat→Nat→Value→Prop}{x:D}{v:Value}(h:x.scal=true)(r:relD F x v)(r':relD F' x v'):v=v':=by
 cases r with
 | int k n=>cases r';rfl
 | bool b=>cases r';rfl
 | str s=>cases r';rfl
 | nil A c=>grind[D.scal,D.kind?]
 | list=>grind[D.scal,D.kind?]
 | other v h1=>grind[D.scal,D.kind?]
theorem plain_det{G':Cx}{x:V}{v:Value}(h:x.plainR=true)(r:rel G x v)(r':rel G' x v'):v=v':=by
 cases r with
 | d q =>
  cases r' with
  | d q'=>exact plainD_det h q q'
 | agg cs vs hl hr =>
  cases r' with
  | agg _ vs' hl' hr' =>
   simp only[V.plainR,List.all_eq_true]at h
   congr 1
   have:vs=vs':=by
    apply List.ext_getElem?
    intro i
    rcases Nat.lt_or_ge i cs.length with q | q
    ·have hc:=List.getElem?_eq_getElem q
     have h1:vs[i]? = some vs[i]:=List.getElem?_eq_getElem (by omega)
     have h2:vs'[i]? = some vs'[i]:=List.getElem?_eq_getElem (by omega)
     have hp:=h _ (List.mem_of_getElem? hc)
     have r1:=hr i _ _ hc h1
     have r2:=hr' i _ _ hc h2
     generalize cs[i]=y at hp r1 r2
     rw[h1,h2]
     cases y with
     | d z =>
      cases r1 with
      | d q1=>cases r2<;>grind[plainD_det]
     | _=>simp at hp
    simp_all
   rw[this]
 | _=>simp[V.plainR]at h
theorem yields_plain{g:Pg P}{fr:Fr}{a:Act}{o:Oper}(hfr:FR G fr a)(hp:∀x∈o.op.operands,(aN fr x).plainR=true)(h:oK g o (aN fr)=some y)(hy:y.plainR=true):∃v,(∀w,(execOp a.eval o).run P w=.ok (.value v) w)∧rel G y v:=by
 let fr0:Fr:=fr.map λx=>if x.plainR=true then x else .undef
 have hget:∀t,fr0.getD t .undef=if (fr.getD t .undef).plainR=true then fr.getD t .undef else .undef:=by
  grind
 have hF0:FR (iz λ_ _ _=>False) fr0 a:=by
  refine⟨by simpa [fr0] using hfr.1,λt=>?_⟩
  rw[hget]
  split
  ·rename_i q;exact mJ q (hfr.2 t)
  ·exact .undef _
 have hρ:∀x∈o.op.operands,aN fr x=aN fr0 x:=by
  intro x hx
  have hpx:=hp x hx
  cases x with
  | tmp t =>
   show fr.getD t .undef=fr0.getD t .undef
   have hpx':(fr.getD t .undef).plainR=true:=hpx
   simp_all
  | _=>rfl
 rw[pureS_congr g o _ _ hρ]at h
 have key:∀w,∃v,(execOp a.eval o).run P w=.ok (.value v) w∧rel (iz λ_ _ _=>False) y v:=λw=>pureS_ok (λb o v q=>q.elim) hF0 h
 obtain⟨v,h1,h2⟩:=key default
 refine⟨v,λw=>?_,mJ hy h2⟩
 obtain⟨v',h3,h4⟩:=key w
 grind[plain_det]
section
variable {P : Program} {g : Pg P} {ops : Array Oper} {K : Fr → Sg → Prop} {L : Array Bool} {fr : Fr} {s : Sg}
theorem regA.pure{j:Nat}{o:Oper}{d:Tmp}(hr:((Region.ready .any ops L).contains j,Region.free .any ops L j,Region.noSelect ops)=(true,true,true))(ho:ops.toList[j]? = some o)(hd:o.dst=some d)(hk:nF P o=true)(hw:bo ops fr o=some true)(hp:∀x∈o.op.operands,(aN fr x).plainR=true)
  (hdl:d<fr.length) (h:regS g false ops [o] fr s (λfr' s'=>(fr'.getD d .undef).plainR=true∧regA g ops K (L.setIfInBounds j true) fr' s')):regA g ops K L fr s:=by
 intro hL f hf w0 G0 G a w Q hQ h0 hH hfr hdf
 injection hr with hr1 hr2
 injection hr2 with hr2 hr3
 have hj:j∈Region.ready .any ops L:=by simp_all
 obtain⟨h1,o',ho',_⟩:=mem_ready.1 hj
 have hlt:j<L.size:=by grind
 have hun:L.getD j false=false:=by
  simp_all
 have ho2:ops[j]? = some o:=by simp_all
 have hcnt:=(lM L j hlt hun ops.size).1 (by omega)
 obtain⟨f,rfl⟩:∃q,f=q+1:=⟨f-1,by omega⟩
 unfold regS at h
 rw[hw]at h
 simp only[qX]at h
 have hnc:∀fn args tys,o.op≠.call ⟨.value fn,args,tys⟩:=λfn args tys q=>by simp_all[nF]
 split at h
 simp_all
 ·split at h
  ·rename_i y fz hs
   obtain⟨hps,rfl⟩:=pure_of hk hs
   unfold regS at h
   obtain⟨hy,hA⟩:=h
   have hyp:y.plainR=true:=by
    simp_all[putF]
   obtain⟨v,hv,hrel⟩:=yields_plain (g:=g) hfr hp hps hyp
   have hY:Yields P ops o v a:=.inl ⟨fK hfr hw,hv⟩
   refine jW _ _ _ _ (wpAny_first (Q:=λe a w=>e=.normal∧Q .normal a w) ho2 (Region.noSelect_spec hr3) (λc a w q=>by cases q.1) f L a w (Region.free_spec ho2 hr2) hj hY ?_)
   exact hA (by simp_all) f (by omega) w0 G0 G _ w _ (λa w q=>⟨rfl,hQ a w q⟩) h0 hH (ii hfr hrel o.dst) (by simp_all[cg])
  simp_all
theorem regA.pureB{j:Nat}{o:Oper}{d:Tmp}(hr:((Region.ready .any ops L).contains j,Region.free .any ops L j,Region.noSelect ops)=(true,true,true))(ho:ops.toList[j]? = some o)(hd:o.dst=some d)(hk:nF P o=true)(hw:bo ops fr o=some true)(hp:(o.op.operands.toList.all λx=>(aN fr x).plainR)=true)
  (hdl:d<fr.length) (h:regS g false ops [o] fr s (λfr' s'=>(fr'.getD d .undef).plainR=true∧regA g ops K (L.setIfInBounds j true) fr' s')):regA g ops K L fr s :=
 regA.pure hr ho hd hk hw (λx hx=>List.all_eq_true.1 hp x (by simp_all)) hdl h
end
section
variable {P : Program} {g : Pg P} {ops : Array Oper} {K : Fr → Sg → Prop} {L : Array Bool} {fr : Fr} {s : Sg}
theorem regA.firstV{j:Nat}{o:Oper}{d:Tmp}{y:V}(hr:((Region.ready .any ops L).contains j,Region.free .any ops L j,Region.noSelect ops)=(true,true,true))(ho:ops.toList[j]? = some o)(hw:bo ops fr o=some true)
  (hst:∀G a,FR G fr a→∃v,(∀w,(execOp a.eval o).run P w=.ok (.value v) w)∧rel G y v) (h:regA g ops K (L.setIfInBounds j true) (putF fr o.dst y) s):regA g ops K L fr s:=by
 intro hL f hf w0 G0 G a w Q hQ h0 hH hfr hdf
 injection hr with hr1 hr2
 injection hr2 with hr2 hr3
 have hj:j∈Region.ready .any ops L:=by simp_all
 obtain⟨h1,o',ho',_⟩:=mem_ready.1 hj
 have hlt:j<L.size:=by grind
 have hun:L.getD j false=false:=by
  simp_all
 have ho2:ops[j]? = some o:=by simp_all
 have hcnt:=(lM L j hlt hun ops.size).1 (by omega)
 obtain⟨f,rfl⟩:∃q,f=q+1:=⟨f-1,by omega⟩
 obtain⟨v,hv,hrel⟩:=hst G a hfr
 have hY:Yields P ops o v a:=.inl ⟨fK hfr hw,hv⟩
 refine jW _ _ _ _ (wpAny_first (Q:=λe a w=>e=.normal∧Q .normal a w) ho2 (Region.noSelect_spec hr3) (λc a w q=>by cases q.1) f L a w (Region.free_spec ho2 hr2) hj hY ?_)
 exact h (by simp_all) f (by omega) w0 G0 G _ w _ (λa w q=>⟨rfl,hQ a w q⟩) h0 hH (ii hfr hrel o.dst) (by simp_all[cg])
theorem regA.moveB{j:Nat}{d:Tmp}{x:Operand}{ty:TypeId}{p:String}{af:Array Edge}{gd:Option (Nat×Bool)}(hr:((Region.ready .any ops L).contains j,Region.free .any ops L j,Region.noSelect ops)=(true,true,true))(ho:ops.toList[j]? = some ⟨some d,.move x,ty,p,af,gd⟩)(hw:bo ops fr ⟨some d,.move x,ty,p,af,gd⟩=some true)
  (h:regA g ops K (L.setIfInBounds j true) (putF fr (some d) (aN fr x)) s):regA g ops K L fr s :=
 regA.firstV (d:=d) hr ho hw (λG a hfr=>⟨a.eval x,λw=>by simp[execOp],aK hfr x⟩) h
theorem regA.fieldB{j:Nat}{d:Tmp}{t:TypeId}{x:Operand}{i k n:Nat}{ty:TypeId}{p:String}{af:Array Edge}{gd:Option (Nat×Bool)}(hr:((Region.ready .any ops L).contains j,Region.free .any ops L j,Region.noSelect ops)=(true,true,true))(ho:ops.toList[j]? = some ⟨some d,.fieldAddr t x i,ty,p,af,gd⟩)(hw:bo ops fr ⟨some d,.fieldAddr t x i,ty,p,af,gd⟩=some true)
  (hp:gw P t (aN fr x) i=some (.ptr k n)) (h:regA g ops K (L.setIfInBounds j true) (putF fr (some d) (.ptr k n)) s):regA g ops K L fr s:=by
 refine regA.firstV (d:=d) hr ho hw (λG a hfr=>?_) h
 obtain⟨u,h1,h2⟩:=nW (P:=P) (aK hfr x) hp default
 refine⟨u,λw=>?_,h2⟩
 obtain⟨u',h3,h4⟩:=nW (P:=P) (aK hfr x) hp w
 have:u'=u:=by
  cases h2 with
  | ptr _ _ b q =>
   cases h4<;>simp_all
 simp_all[execOp]
end
end Go.Proofs.YtphbhdoljnokkaaGreatDoor
