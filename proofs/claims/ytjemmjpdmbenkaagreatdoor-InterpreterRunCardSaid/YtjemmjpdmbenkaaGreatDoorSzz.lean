/-
  Szb, Szc, Szd, Sze, Szh in one text.
-/
import Derived.Test.YtjemmjpdmbenkaaGreatDoorS4
import Derived.Test.YtjemmjpdmbenkaaGreatDoorG1
import Derived.Still
open Nat renaming zero_add → zB,le_refl → zD
namespace Go.Proofs.YtjemmjpdmbenkaaGreatDoor
open Go.RowKit
set_option linter.unusedVariables false
set_option linter.unusedSimpArgs false
section
variable {P : Program}
theorem HRp.beginRowN{w0 w w':World}{G:Cx}{obs:Nat→Option (List V)}{lns:Nat→Option (TypeId×Nat)}(h:HRp P w0 w G obs lns)(hk:Kp w w')(t:Nat)(ht:lns t=none)(e:TypeId){v:Value}{n0:Nat}{xs0:List Value}(ho:w'.ownsRow w.heap.size e (P.cellsOf e) v n0 xs0)(hfr:∀b o u,v.ownBlock=some b→w'.cell? ⟨b,o,none⟩=some u→o<n0*P.cellsOf e) :
  let G':Cx:={ G.withF (ga w w')with lv:=upd G.lv t ⟨n0,P.cellsOf e,v⟩ }
  G.le G'∧HRp P w0 w' G' obs (upd lns t (e,n0)):=by
 intro G'
 have h':=h.grow hk
 have hnone:G.lv t=none:=by
  cases hq:G.lv t with
  | none=>rfl
  | some b=>exact absurd ht (h.lvd t b hq)
 have hlv:∀j L,G'.lv j=some L→(j=t∧L=⟨n0,P.cellsOf e,v⟩)∨(j≠t∧G.lv j=some L):=by
  intro j L q
  have q':upd G.lv t ⟨n0,P.cellsOf e,v⟩ j=some L:=q
  by_cases e:j=t
  ·subst e;rw[aG]at q';injection q' with q';exact .inl ⟨rfl,q'.symm⟩
  ·rw[aP _ _ e]at q';exact .inr ⟨e,q'⟩
 have hnew:∀b,v.ownBlock=some b→w.heap.size≤b:=λb hb=>(ho.lt b hb).1
 have hle:G.le G':=by
  refine⟨rfl,λ_ _ _ q=>.inl q,λ_ _ q=>q,λj L q=>⟨L,?_,rfl,.inl rfl⟩,λ_ _ q=>q,λ_ L q=>⟨L,q,rfl,.inl rfl⟩,λ_ _ q=>q⟩
  show upd G.lv t _ j=some L
  rw[aP _ _ (λe=>by rw[e,hnone]at q;cases q)];exact q
 have hle2:(G.withF (ga w w')).le G':=by
  refine⟨rfl,λ_ _ _ q=>q,λ_ _ q=>q,λj L q=>⟨L,?_,rfl,.inl rfl⟩,λ_ _ q=>q,λ_ L q=>⟨L,q,rfl,.inl rfl⟩,λ_ _ q=>q⟩
  show upd G.lv t _ j=some L
  have q:G.lv j=some L:=q
  rw[aP _ _ (λe=>by rw[e,hnone]at q;cases q)];exact q
 have hlvl:∀j L b,G.lv j=some L→L.v.ownBlock=some b→b<w.heap.size:=by
  intro j L b q hb
  cases hq:lns j with
  | none=>exact absurd hq (h.lvd j L q)
  | some en =>
   obtain⟨v',xs',h1,h2,_⟩:=h.lvl j en.1 en.2 hq
   rw[q]at h1;injection h1 with h1;subst h1
   exact (iq h2 b hb).2
 refine⟨hle,h'.kp,h'.fs,h'.fb,h'.obd,?_,h'.obi,?_,?_,?_,h'.gb,h'.obm,h'.mpl,h'.mpi,h'.obr,λk L q=>?_,h'.rvi,h'.tgs⟩
 ·intro k cs q hm hrv
  obtain⟨b,vs,t',h1,h2,h3,h4,h5⟩:=h'.obl k cs q hm hrv
  exact⟨b,vs,t',h1,h2,h3,dx hle2 h4,h5⟩
 ·intro j L q
  rcases hlv j L q with⟨rfl,_⟩|⟨e,q⟩
  ·rw[aG];simp
  ·rw[aP _ _ e];exact h.lvd j L q
 ·intro j e' n q
  by_cases ej:j=t
  ·subst ej
   rw[aG]at q;injection q with q;injection q with q1 q2;subst q1;subst q2
   refine⟨v,xs0,aG _ _ _,.inr (own_mono ho h.kp.size),λb hb=>⟨λk q=>?_,λo u q=>?_⟩⟩
   ·have hb2:=hnew b hb
    cases hq:obs k with
    | none=>exact absurd hq (h.obd k b q)
    | some cs =>
     obtain⟨b',_,_,h1,_,h3,_⟩:=h.obl k cs hq (h.obm k b q) (h.obr k b q)
     have q':G.ob k=some b:=q
     rw[q']at h1;injection h1 with h1;subst h1
     have:=heap_lt' h3;omega
   ·rcases q with q | q
    ·have:=(h.fs b o u q).1;have:=hnew b hb;omega
    ·exact hfr b o u hb q.2
  ·rw[aP _ _ ej]at q
   obtain⟨v',xs,h1,h2,h3⟩:=h'.lvl j e' n q
   exact⟨v',xs,(by show upd G.lv t _ j=_;rw[aP _ _ ej];exact h1),h2,h3⟩
 ·intro j j' L L' b q q' h1 h2
  rcases hlv j L q with⟨e1,r1⟩|⟨e1,q1⟩<;>rcases hlv j' L' q' with⟨e2,r2⟩|⟨e2,q2⟩
  ·rw[e1,e2]
  ·subst r1;have:=hlvl j' L' b q2 h2;have:=hnew b h1;omega
  ·subst r2;have:=hlvl j L b q1 h1;have:=hnew b h2;omega
  ·exact h.lvi j j' L L' b q1 q2 h1 h2
 ·obtain⟨e',es,xs,h1,h2,h3,h4,h5,h6⟩:=h'.rvl k L q
  refine⟨e',es,xs,h1,h2,h3,h4,h5,λb hb=>⟨(h6 b hb).1,(h6 b hb).2.1,λj L' q'=>?_⟩⟩
  rcases hlv j L' q' with⟨_,rfl⟩|⟨_,q'⟩
  ·intro hb2
   obtain⟨_,_,_,_,_,_,g4,_⟩:=h.rvl k L q
   have:=(g4.lt b hb).2;have:=hnew b hb2;omega
  ·exact (h6 b hb).2.2 j L' q'
end
variable {G:Cx}{P:Program}{lns:Nat→Option (TypeId×Nat)}{obs:Nat→Option (List V)}
theorem rowV_full{w0 w:World}(h:HRp P w0 w G obs lns){k:Nat}(hk:obs k=none){ty:TypeId}{len:Nat}{parts:List (Nat×V)}{us:List (Nat×Value)}{y:V}{f:Ef}
  (hl:parts.length=us.length) (hp:∀(i:Nat) (p:Nat×V) (q:Nat×Value),parts[i]? = some p→us[i]? = some q→p.1=q.1∧rel G p.2 q.2) {es:List (List D)} (hr:rowV P ty len k parts=some (.full es,.none)) :
  ∃e ws sz,P.underlying ty=some (.slice e)∧bh P e=some sz∧ws.length=len*sz∧bo (len*sz)=true∧es.length=len∧(∀(i:Nat) (c:List D),es[i]? = some c→c.length=sz)∧(Instr.buildSlice ty len ⟨us⟩).run P w=.ok (.slice (some ⟨w.heap.size,0,none⟩) len len) (w.alloc (.cells ⟨ws⟩ e))∧relD (G.withF (ga w (w.alloc (.cells ⟨ws⟩ e)))).F (.list es) (.slice (some ⟨w.heap.size,0,none⟩) len len):=by
 unfold rowV at hr
 split at hr
 ·rename_i e hu
  split at hr
  ·rename_i sz z hs hz
   split at hr
   ·rename_i zs hzs
    split at hr
    ·rename_i hc
     split at hr
     ·rename_i out hf
      obtain⟨zv,z1,z2,_⟩:=kw hz G w
      have hzr:=eB z2 hzs
      have hzl:zv.cells.size=sz:=by rw[←hc.1,hzr.1];simp
      -- the cells ahead of the parts
      have hini:rels G (reps len zs) ((List.range (len*sz)).map λq=>zv.cells[q % sz]!):=by
       refine⟨by simp[kF,hc.1],λi x v h1 h2=>?_⟩
       have h3:=reps_at zs x len i h1
       have hi:i<len*sz:=by have:=ak h1;rw[kF,hc.1]at this;exact this
       rw[List.getElem?_map,List.getElem?_range hi]at h2
       simp at h2
       have hsz:0<sz:=Nat.pos_of_ne_zero (λe=>by subst e;simp at hi)
       have hm2:i % sz<zv.cells.size:=by rw[hzl];exact Nat.mod_lt _ hsz
       rw[hc.1]at h3
       subst h2
       refine hzr.2 (i % sz) x _ h3 ?_
       rw[List.getElem?_eq_getElem (by simpa using hm2)]
       simp[hm2]
      obtain⟨ws,w1,w2⟩:=fillV_ok parts us _ _ out hf hini hl hp
      have hol:out.length=len*sz∧ws.length=len*sz:=by
       have:∀(parts:List (Nat×V)) (cells out:List V),jL (λi=>some (i*sz,sz)) cells parts=some out→out.length=cells.length:=by
        intro parts
        induction parts with
        | nil=>intro cells out h;simp only[jL]at h;injection h with h;rw[h]
        | cons p rest ih =>
         intro cells out h
         obtain⟨i,x⟩:=p
         unfold jL at h
         split at h
         ·split at h
          ·rename_i hcc
           rw[ih _ _ h]
           simp[jp];omega
          ·cases h
         ·cases h
       have h1:=this _ _ _ hf
       rw[kF,hc.1]at h1
       exact⟨h1,by rw[←w2.1];exact h1⟩
      have hrun:(Instr.buildSlice ty len ⟨us⟩).run P w=.ok (.slice (some ⟨w.heap.size,0,none⟩) len len) (w.alloc (.cells ⟨ws⟩ e)):=by
       have hbig:¬(len*sz>2 ^ 24):=by have:=ij hc.2;omega
       by_cases h0:len*sz=0
       ·have hw:Instr.fill (λi=>some (i*sz,sz)) ((Array.range (len*sz)).map λq=>(#[]:Array Value)[q % 0]!) us=some ⟨ws⟩:=by
         rw[←w1];congr 1;apply Array.ext';simp[h0]
        simp only[Instr.buildSlice,Sem.run_bind,run_underlying hu,Result.andThen_ok,bB hs,Sem.run_ite,hbig,oe,h0,og,Sem.run_pure]
        have hw':Instr.fill (λi=>some (i*sz,sz)) ((Array.range 0).map λq=>(#[]:Array Value)[q % (#[]:Array Value).size]!) us=some ⟨ws⟩:=by
         rw[←hw];congr 1;apply Array.ext';simp[h0]
        rw[oc (by simp)]
        simp only[Sem.run_pure,Result.andThen_ok,hw']
        simp only[Sem.run_bind,nw,Result.andThen_ok,Sem.run_pure]
       ·have hw:Instr.fill (λi=>some (i*sz,sz)) ((Array.range (len*sz)).map λq=>zv.cells[q % zv.cells.size]!) us=some ⟨ws⟩:=by
         rw[←w1];congr 1;apply Array.ext';simp[hzl]
        simp only[Instr.buildSlice,Sem.run_bind,run_underlying hu,Result.andThen_ok,bB hs,Sem.run_ite,hbig,oe,h0,Sem.run_pure,z1,hw]
        simp only[Sem.run_bind,nw,Result.andThen_ok,Sem.run_pure]
      split at hr
      ·rename_i ds hd
       injection hr with hr;injection hr with e1 e2;injection e1 with e1;subst e1
       obtain⟨d1,d2⟩:=gN w2 hd
       have hrow:=fresh_row (G:=G) (w:=w) (e:=e) (sz:=sz) (len:=len) d1 d2 (by rw[d1];exact hol.2.symm)
       exact⟨e,ws,sz,hu,hs,hol.2,hc.2,mN sz len ds,(λi c hc=>(l6 sz len ds i 0 c (by rw[d1,hol.2];exact zD _) hc).1),hrun,hrow⟩
      ·injection hr with hr;injection hr with e1 e2;cases e1
     ·cases hr
    ·cases hr
   ·cases hr
  ·cases hr
 ·cases hr
section
variable {P : Program} {g : Pg P} {d : Option Tmp} {t ty : TypeId} {p : String} {af : Array Edge} {gd : Option (Nat × Bool)} {fr : Fr} {s : Sg} {R : V → Sg → Prop}
theorem alt_litOwn{e:TypeId}{sz len:Nat}{parts:Array (Nat×Operand)}{es:List (List D)}(ht:appT P t=some (e,sz))(hr:rowV P t len s.obs.length (parts.toList.map λp=>(p.1,aR fr p.2))=some (.full es,.none))(hpos:0<len)(h:R (.own s.lns.length es) ⟨s.obs,s.lns++[(e,es.length)]⟩):altR g ⟨d,.buildSlice t len parts,ty,p,af,gd⟩ fr s R:=by
  intro w0 w G a hH hfr
  obtain⟨i,z,hu,hi,hiz,z1,z2,z3,z4⟩:=appT_parts ht
  have hce:P.cellsOf e=sz:=by simp[Program.cellsOf,hi,z2]
  obtain⟨e',ws,sz',hu',hs',hwl,hok,hel,hcs,hrun,hrel⟩:=rowV_full (y:=.undef) (f:=.none) (G:=G) (us:=parts.toList.map λp=>(p.1,a.eval p.2)) hH (k:=s.obs.length) (by simp) (by simp) (λi p q h1 h2=>by
    rw[List.getElem?_map]at h1 h2
    cases hq:parts.toList[i]? with
    | none=>rw[hq]at h1;cases h1
    | some x =>
      rw[hq]at h1 h2
      injection h1 with h1;injection h2 with h2
      subst h1;subst h2
      exact⟨rfl,aV hfr _⟩) hr
  have he:e'=e:=by rw[hu]at hu';injection hu' with hu';injection hu' with hu';exact hu'.symm
  subst he
  have hsz:sz'=P.cellsOf e':=by
    unfold bh at hs'
    rw[hi]at hs'
    simp[Program.cellsOf,hi]
    simpa using hs'.symm
  subst hsz
  have hb:=ij hok
  have hlen:len≤maxLen:=by
    rcases Nat.eq_zero_or_pos (P.cellsOf e')with q | q
    · exfalso;rw[hce]at q;omega
    · have:=Nat.le_mul_of_pos_right len q
      unfold maxLen;omega
  have hown:(w.alloc (.cells ⟨ws⟩ e')).ownsRow w.heap.size e' (P.cellsOf e') (.slice (some ⟨w.heap.size,0,none⟩) len len) len ws:=⟨hwl,.inr ⟨w.heap.size,len,⟨ws⟩,rfl,zD _,heap_alloc_new w _,zD _,hlen,by simpa using hwl,by simpa using List.take_of_length_le (Nat.le_of_eq hwl)⟩⟩
  obtain⟨hle,hN⟩:=hH.beginRowN ((Kp.refl w).alloc _) s.lns.length (by simp) e' hown (λb o u hb hc=>by
    have hb':w.heap.size=b:=by simpa [Value.ownBlock] using hb
    subst hb'
    rw[World.cell?_alloc_new]at hc
    have:=Array.getElem?_eq_some_iff.1 hc
    obtain⟨q,_⟩:=this
    simpa [hwl] using q)
  rw[lns_push]at hN
  refine⟨.value (.slice (some ⟨w.heap.size,0,none⟩) len len),_,.own s.lns.length es,⟨s.obs,s.lns++[(e',es.length)]⟩,{ G.withF (ga w (w.alloc (.cells ⟨ws⟩ e')))with lv:=upd G.lv s.lns.length ⟨len,P.cellsOf e',.slice (some ⟨w.heap.size,0,none⟩) len len⟩ },?_,.inl ⟨_,rfl,.own _ es _ hrel _ (aG _ _ _) hcs (.inl ⟨hel,rfl⟩)⟩,hle,by rw[hel];exact hN,h⟩
  have hm:parts.map (λx=>(x.1,a.eval x.2))=⟨parts.toList.map λx=>(x.1,a.eval x.2)⟩:=by
    apply Array.toList_inj.1
    simp
  simp[execOp]
  rw[hm,hrun]
  rfl
end
section
variable {P : Program} {g : Pg P} {d : Option Tmp} {t ty : TypeId} {p : String} {af : Array Edge} {gd : Option (Nat × Bool)} {fr : Fr} {s : Sg} {R : V → Sg → Prop}
end
section
variable {P : Program}
theorem HRp.beginRowP{w0 w w':World}{G:Cx}{obs:Nat→Option (List V)}{lns:Nat→Option (TypeId×Nat)}(h:HRp P w0 w G obs lns)(hk:Kp w w')(t:Nat)(ht:lns t=none)(e:TypeId){v:Value}{n0:Nat}{xs0:List Value}(ho:w'.ownsRow w.heap.size e (P.cellsOf e) v n0 xs0) :
  let G':Cx:={ G with F:=λb o u=>G.F b o u∨(ga w w' b o u∧(v.ownBlock=some b→o<n0*P.cellsOf e)),lv:=upd G.lv t ⟨n0,P.cellsOf e,v⟩ }
  G.le G'∧HRp P w0 w' G' obs (upd lns t (e,n0)):=by
 intro G'
 have h':=h.kept hk
 have hnone:G.lv t=none:=by
  cases hq:G.lv t with
  | none=>rfl
  | some b=>exact absurd ht (h.lvd t b hq)
 have hlv:∀j L,G'.lv j=some L→(j=t∧L=⟨n0,P.cellsOf e,v⟩)∨(j≠t∧G.lv j=some L):=by
  intro j L q
  have q':upd G.lv t ⟨n0,P.cellsOf e,v⟩ j=some L:=q
  by_cases e:j=t
  ·subst e;rw[aG]at q';injection q' with q';exact .inl ⟨rfl,q'.symm⟩
  ·rw[aP _ _ e]at q';exact .inr ⟨e,q'⟩
 have hnew:∀b,v.ownBlock=some b→w.heap.size≤b:=λb hb=>(ho.lt b hb).1
 have hle:G.le G':=by
  refine⟨rfl,λ_ _ _ q=>.inl q,λ_ _ q=>q,λj L q=>⟨L,?_,rfl,.inl rfl⟩,λ_ _ q=>q,λ_ L q=>⟨L,q,rfl,.inl rfl⟩,λ_ _ q=>q⟩
  show upd G.lv t _ j=some L
  rw[aP _ _ (λe=>by rw[e,hnone]at q;cases q)];exact q
 have hlvl:∀j L b,G.lv j=some L→L.v.ownBlock=some b→b<w.heap.size:=by
  intro j L b q hb
  cases hq:lns j with
  | none=>exact absurd hq (h.lvd j L q)
  | some en =>
   obtain⟨v',xs',h1,h2,_⟩:=h.lvl j en.1 en.2 hq
   rw[q]at h1;injection h1 with h1;subst h1
   exact (iq h2 b hb).2
 have hobl:∀k b,G.ob k=some b→b<w.heap.size:=by
  intro k b q
  cases hq:obs k with
  | none=>exact absurd hq (h.obd k b q)
  | some cs =>
   obtain⟨b',_,_,h1,_,h3,_⟩:=h.obl k cs hq (h.obm k b q) (h.obr k b q)
   rw[q]at h1;injection h1 with h1;subst h1
   exact heap_lt' h3
 have hrvl:∀k L b,G.rv k=some L→L.v.ownBlock=some b→b<w.heap.size:=by
  intro k L b q hb
  obtain⟨_,_,_,_,_,_,g4,_⟩:=h.rvl k L q
  exact (g4.lt b hb).2
 refine⟨hle,h'.kp,?_,?_,h'.obd,?_,h'.obi,?_,?_,?_,h'.gb.mono λ_ _ _ q=>.inl q,h'.obm,?_,h'.mpi,h'.obr,λk L q=>?_,h'.rvi,h'.tgs⟩
 ·rintro b o u (q | ⟨q,_⟩)
  ·exact h'.fs b o u q
  ·exact⟨cell_lt q.2,q.2⟩
 ·rintro b o u (q | ⟨q,_⟩)
  ·exact h'.fb b o u q
  ·exact .inr (Nat.le_trans h.kp.size q.1)
 ·intro k cs q hm hrv
  obtain⟨b,vs,t',h1,h2,h3,h4,h5⟩:=h'.obl k cs q hm hrv
  refine⟨b,vs,t',h1,h2,h3,dx hle h4,?_⟩
  rintro o u (q | ⟨q,_⟩)
  ·exact h5 o u q
  ·have:=q.1;have:=hobl k b h1;omega
 ·intro j L q
  rcases hlv j L q with⟨rfl,_⟩|⟨e,q⟩
  ·rw[aG];simp
  ·rw[aP _ _ e];exact h.lvd j L q
 ·intro j e' n q
  by_cases ej:j=t
  ·subst ej
   rw[aG]at q;injection q with q;injection q with q1 q2;subst q1;subst q2
   refine⟨v,xs0,aG _ _ _,.inr (own_mono ho h.kp.size),λb hb=>⟨λk q=>?_,λo u q=>?_⟩⟩
   ·have:=hnew b hb;have:=hobl k b q;omega
   ·rcases q with q | q
    ·have:=(h.fs b o u q).1;have:=hnew b hb;omega
    ·exact q.2 hb
  ·rw[aP _ _ ej]at q
   obtain⟨v',xs,h1,h2,h3⟩:=h'.lvl j e' n q
   refine⟨v',xs,(by show upd G.lv t _ j=_;rw[aP _ _ ej];exact h1),h2,λb hb=>⟨(h3 b hb).1,λo u q=>?_⟩⟩
   rcases q with q | ⟨q,_⟩
   ·exact (h3 b hb).2 o u q
   ·have:=q.1;have:=hlvl j _ b h1 hb;omega
 ·intro j j' L L' b q q' h1 h2
  rcases hlv j L q with⟨e1,r1⟩|⟨e1,q1⟩<;>rcases hlv j' L' q' with⟨e2,r2⟩|⟨e2,q2⟩
  ·rw[e1,e2]
  ·subst r1;have:=hlvl j' L' b q2 h2;have:=hnew b h1;omega
  ·subst r2;have:=hlvl j L b q1 h1;have:=hnew b h2;omega
  ·exact h.lvi j j' L L' b q1 q2 h1 h2
 ·intro j b q
  obtain⟨h1,es',n',ik',kvs',h2,h3,h4⟩:=h'.mpl j b q
  exact⟨h1,es',n',ik',kvs',h2,h3,relM_mono (λ_ _ _ q=>.inl q) h4⟩
 ·obtain⟨e',es,xs,h1,h2,h3,h4,h5,h6⟩:=h'.rvl k L q
  refine⟨e',es,xs,h1,h2,h3,h4,nz (λ_ _ _ q=>.inl q) h5,λb hb=>⟨(h6 b hb).1,?_,λj L' q'=>?_⟩⟩
  ·rintro o u (q' | ⟨q',_⟩)
   ·exact (h6 b hb).2.1 o u q'
   ·have:=q'.1;have:=hrvl k L b q hb;omega
  ·rcases hlv j L' q' with⟨_,rfl⟩|⟨_,q'⟩
   ·intro hb2
    have:=hrvl k L b q hb;have:=hnew b hb2;omega
   ·exact (h6 b hb).2.2 j L' q'
end
def SpecO{P:Program}(_:Pg P)(f:FuncId)(args:List V)(e:TypeId)(es:List (List D)):Prop :=
 bG P f=true∧∀(w:World) (F:Nat→Nat→Value→Prop) (vs:List Value),(∀b o v,F b o v→b<w.heap.size∧w.cell? ⟨b,o,none⟩=some v)→jj w F→rels (gc F) args vs →
  Calls P f ⟨vs⟩ w λen w'=>∃v xs F2,en=.returned v∧Kp w w'∧w'.ownsRow w.heap.size e (P.cellsOf e) v es.length xs∧(∀(i:Nat) (c:List D),es[i]? = some c→c.length=P.cellsOf e)∧relD F2 (.list es) v∧∀b o u,F2 b o u→F b o u∨(ga w w' b o u∧(v.ownBlock=some b→o<es.length*P.cellsOf e))
section
variable {P : Program} {g : Pg P} {s : Sg} {R : V → Sg → Prop}
theorem SpecO.toS{f:FuncId}{args args':List V}{e:TypeId}{es:List (List D)}(h:SpecO g f args' e es)(ha:args.map V.clean=args')(hR:R (.own s.lns.length es) ⟨s.obs,s.lns++[(e,es.length)]⟩):aY g f args s R:=by
 subst ha
 refine⟨h.1,λw0 w G vs hH hr=>?_⟩
 refine (h.2 w G.F vs hH.fs (hH.gb.kp hH.kp) ?_).mono ?_
 ·refine⟨by simp[hr.1],λi x v h1 h2=>?_⟩
  rw[List.getElem?_map]at h1
  cases hq:args[i]? with
  | none=>rw[hq]at h1;cases h1
  | some y=>rw[hq]at h1;simp at h1;subst h1;exact fI (hr.2 i y v hq h2) G.F (λ_ _ _ q=>q)
 ·rintro en w' ⟨v,xs,F2,rfl,hk,ho,hel,hx,hF⟩
  obtain⟨hle,hN⟩:=HRp.beginRowP hH hk s.lns.length (by simp) e ho
  rw[lns_push]at hN
  exact⟨v,.own s.lns.length es,⟨s.obs,s.lns++[(e,es.length)]⟩,_,rfl,hle,hN,.own _ es v (bx hF hx) ⟨es.length,P.cellsOf e,v⟩ (aG _ _ _) hel (.inl ⟨rfl,rfl⟩),hR⟩
theorem SpecO.nilcase{f:FuncId}{e:TypeId}{es:List (List D)}(h:∀A c,SpecO g f [.d (.other (.slice A 0 c))] e es):SpecO g f [.d (.list [])] e es:=by
 refine⟨(h none 0).1,λw F vs hF hg hr=>?_⟩
 match vs,hr with
 | [v],hr =>
  have r:=(aW hr).1
  cases r with
  | d q=>cases q with
   | nil A c=>exact (h A c).2 w F _ hF hg (ey (.d (.other _ rfl)) (kG _))
   | list _ b o c sz f h1=>exact absurd h1 (by simp)
 | [],hr=>have:=hr.1;simp at this
 | _::_::_,hr=>have:=hr.1;simp at this
end
section
variable {P : Program} {g : Pg P} {d : Option Tmp} {t ty : TypeId} {p : String} {af : Array Edge} {gd : Option (Nat × Bool)} {fr : Fr} {s : Sg} {R : V → Sg → Prop}
end
def m6(P:Program)(o:Oper):Bool:=match o.op with
 | .move _ | .assign _ | .pick _ _ _ | .build _ _ | .nilCheck _ | .unOp _ _ _ | .fieldAddr _ _ _ | .field _ _ _ | .indexAddr _ _ _ | .index _ _ _ | .extract _ _ | .load _ _ | .slice _ _ _ _ _=>true
 | .binOp _ t _ z _=>!mZ P t&&!isNilC z
 | .convert _ d _=>match P.underlying d with | some (.int _)=>true | _=>false
 | .call ⟨.builtin .len,_,_⟩=>true
 | _=>false
def stW{P:Program}(g:Pg P)(ops:Array Oper)(l:List Oper)(fr:Fr)(s:Sg)(K:Fr→Sg→Prop):Prop :=
 ∀(w0:World) (G0 G:Cx) (a:Act) (w:World) (Q:Act→Prop),(∀a,Post g w0 G0 K a w→Q a)→G0.le G→HR P w0 w G s→FR G fr a→a.defers=[]→wpStill P ops w Q l a
def stR{P:Program}(_:Pg P)(o:Oper)(fr:Fr)(s:Sg)(R:V→Prop):Prop :=
 ∃y,R y∧∀(w0 w:World) (G:Cx) (a:Act),HR P w0 w G s→FR G fr a→∃v,(execOp a.eval o).run P w=.ok (.value v) w∧rel G y v
section
variable {P : Program} {g : Pg P}
theorem read_ok {w0 w : World} {G : Cx} {s : Sg} {o : Oper} {fr : Fr} {a : Act} {y : V} {f : Ef} (hr : m6 P o = true) (hH : HR P w0 w G s) (hfr : FR G fr a) (hs : eu g (λk => s.obs[k]?) (λt => s.lns[t]?) s.obs.length s.lns.length o (aR fr) = some (y, f)) :
    f.sg s=s∧∃v,(execOp a.eval o).run P w=.ok (.value v) w∧rel G y v:=by
  have hF:=λb o v q=>(hH.fs b o v q).2
  have ev:=λx=>aV hfr x
  have pure:∀z,lM g o (aR fr)=some z→y=z→f=.none→f.sg s=s∧∃v,(execOp a.eval o).run P w=.ok (.value v) w∧rel G y v:=by
    rintro z hz rfl rfl
    exact⟨rfl,pureS_ok hF hfr hz⟩
  obtain⟨dst,op,ty,p,af,gd⟩:=o
  cases op
  case load t x =>
    simp only[eu,extS,cx]at hs
    split at hs
    · rename_i j off hx
      split at hs
      · rename_i cs hcs
        split at hs
        · rename_i z hz
          injection hs with hs;injection hs with e1 e2;subst e1;subst e2
          obtain⟨b,q,hv⟩:=lV (hx▸ev x)
          obtain⟨b',vs,tt,h1,h2,h3,h4,h5⟩:=hH.obl j cs hcs (hH.obm j b q) (hH.obr j b q)
          rw[q]at h1;injection h1 with h1;subst h1
          obtain⟨v,r1,r2⟩:=kN (P:=P) (b:=b) (o:=0) (w:=w) hz h4 (λi v hi=>by
            rw[cell_of_row w b _ _ _ _ h3];simpa using hi)
          refine⟨rfl,v,?_,r2⟩
          rw[zB]at r1
          simp only[execOp,Instr.loadAt,hv,Instr.sureAddr,Sem.run_bind,Sem.run_pure,Result.andThen_ok,r1]
        · cases hs
      · cases hs
    · rename_i cs off hx
      split at hs
      · rename_i z hz
        injection hs with hs;injection hs with e1 e2
        exact pure z (by simp only[lM,hx];exact hz) e1.symm e2.symm
      · cases hs
    · rename_i b off hx
      split at hs
      · rename_i cs hg
        split at hs
        · rename_i z hz
          injection hs with hs;injection hs with e1 e2;subst e1;subst e2
          have hr:=ev x
          rw[hx]at hr
          have hv:a.eval x=.pointer (some ⟨b,off,none⟩):=by
            generalize a.eval x=q at hr
            cases hr with | d q=>cases q;rfl
          obtain⟨u,hu⟩:=(hH.gb.1 b cs hg)
          obtain⟨v,r1,r2⟩:=kN (P:=P) (b:=b) (o:=0) (w:=w) hz (mD (G:=G) (u:=u) (λj x hx=>(hu j x hx).2)) (λj v hj=>by
            rw[List.getElem?_map]at hj
            cases hc:cs[j]? with
            | none =>
              rw[List.getElem?_eq_none (by rw[List.length_range];exact List.getElem?_eq_none_iff.1 hc)]at hj
              cases hj
            | some y =>
              rw[List.getElem?_range (ak hc)]at hj
              simp at hj;subst hj
              rw[zB]
              exact hF _ _ _ (hu j y hc).1)
          refine⟨rfl,v,?_,r2⟩
          rw[zB]at r1
          simp only[execOp,Instr.loadAt,hv,Instr.sureAddr,Sem.run_bind,Sem.run_pure,Result.andThen_ok,r1]
        · cases hs
      · cases hs
    · cases hs
  case call c =>
    obtain⟨cal,args,tys⟩:=c
    cases cal
    case builtin b =>
      cases b<;>simp[m6]at hr
      simp only[eu,extS,cx]at hs
      split at hs
      · rename_i h1 _ _;cases h1
      · rename_i x t h1 h2 h3
        split at hs
        · rename_i z hz
          injection hs with hs;injection hs with e1 e2
          exact pure z (by simp only[lM,h2,h3];exact hz) e1.symm e2.symm
        · cases hs
      · cases hs
    all_goals simp[m6]at hr
  case convert sr d x =>
    have hn:extS P ⟨dst,.convert sr d x,ty,p,af,gd⟩ (aR fr)=none:=by
      simp only[m6]at hr
      simp only[extS]
      split at hr
      · rename_i k hu
        split
        · rw[oc (by simp[bytesT,hu])]
        · rw[oc (by simp[strT,hu])]
        · rfl
      · cases hr
    simp only[eu,hn,cx]at hs
    split at hs
    · rename_i z hz
      injection hs with hs;injection hs with e1 e2
      exact pure z hz e1.symm e2.symm
    · cases hs
  case binOp op t x z t' =>
    have hn:extS P ⟨dst,.binOp op t x z t',ty,p,af,gd⟩ (aR fr)=none:=by
      simp only[m6,Bool.and_eq_true,Bool.not_eq_true']at hr
      simp[extS,hr.1,hr.2]
    simp only[eu,hn,cx]at hs
    split at hs
    · rename_i z hz
      injection hs with hs;injection hs with e1 e2
      exact pure z hz e1.symm e2.symm
    · cases hs
  all_goals first
    | (simp[m6]at hr;done)
    | (simp only [eu, extS, cx] at hs
       split at hs
       · rename_i z hz
         injection hs with hs;injection hs with e1 e2
         exact pure z hz e1.symm e2.symm
       · cases hs)
variable {ops : Array Oper} {fr : Fr} {s : Sg} {K : Fr → Sg → Prop}
theorem st_seq{w0:World}{G0 G:Cx}{w:World}{Q:Act→Prop}(h0:G0.le G)(hH:HR P w0 w G s)(l2:List Oper)(hQ:∀a,Post g w0 G0 K a w→(∃fr',FR G fr' a∧a.defers=[]∧K fr' s)→wpStill P ops w Q l2 a) :
  ∀(l:List Oper) (fr:Fr) (a:Act),(l.all (m6 P))=true→regS g true ops l fr s K→FR G fr a→a.defers=[]→wpStill P ops w Q (l++l2) a
 | [],fr,a,_,h,hfr,hd=>hQ a ⟨G,fr,s,h0,hH,hfr,hd,h⟩ ⟨fr,hfr,hd,h⟩
 | o::rest,fr,a,hr,h,hfr,hd=>by
  simp only[List.all_cons,Bool.and_eq_true]at hr
  unfold regS at h
  rw[List.cons_append]
  unfold wpStill
  cases hw:bf ops fr o with
  | none=>rw[hw]at h;exact h.elim
  | some b =>
   rw[hw]at h
   simp only at h
   rw[du hfr hw]
   cases b with
   | false =>
    rw[oc (by simp)]at h
    rw[oc (by simp)]
    exact st_seq h0 hH l2 hQ rest _ _ hr.2 h (eG hfr .skip o.dst) (by rw[bu];exact hd)
   | true =>
    rw[od rfl]at h
    rw[od rfl]
    split at h
    ·rename_i f args tys hop
     rw[m6,hop]at hr
     exact absurd hr.1 (by simp)
    ·split at h
     ·rename_i y f hs
      obtain⟨e1,v,h1,h2⟩:=read_ok hr.1 hH hfr hs
      rw[e1]at h
      unfold Oper.still
      rw[h1,Oper.stillUpon_value]
      exact st_seq h0 hH l2 hQ rest _ _ hr.2 h (eG hfr h2 o.dst) (by rw[bu];exact hd)
     ·exact h.elim
theorem stW.of{l:List Oper}(hr:l.all (m6 P)=true)(h:regS g true ops l fr s K):stW g ops l fr s K:=by
 intro w0 G0 G a w Q hQ h0 hH hfr hd
 have:=st_seq (Q:=Q) h0 hH [] (λa q _=>by exact hQ a q) l fr a hr h hfr hd
 rwa [List.append_nil]at this
theorem stW.alt{l:List Oper}(n:Nat){o:Oper}(ho:l[n]? = some o)(hr:(l.take n).all (m6 P)=true)
  (h:regS g true ops (l.take n) fr s (λfr' s'=>bf ops fr' o=some true∧stR g o fr' s' (λy=>stW g ops (l.drop (n+1)) (putF fr' o.dst y) s' K))):stW g ops l fr s K:=by
 intro w0 G0 G a w Q hQ h0 hH hfr hd
 have hl:l=l.take n++(o::l.drop (n+1)):=by
  have hn:=ak ho
  rw[List.getElem?_eq_getElem hn]at ho
  injection ho with ho
  rw[←ho,←List.drop_eq_getElem_cons hn,List.take_append_drop]
 rw[hl]
 refine st_seq (Q:=Q) h0 hH (o::l.drop (n+1)) ?_ (l.take n) fr a hr h hfr hd
 rintro a _ ⟨fr',q3,q4,hw,y,hy,hx⟩
 unfold wpStill
 rw[du q3 hw,od rfl]
 obtain⟨v,h1,h2⟩:=hx w0 w G a hH q3
 unfold Oper.still
 rw[h1,Oper.stillUpon_value]
 exact hy w0 G0 G _ w Q hQ h0 hH (eG q3 h2 o.dst) (by rw[bu];exact q4)
end
section
variable {P : Program} {g : Pg P} {d : Option Tmp} {t ty : TypeId} {p : String} {af : Array Edge} {gd : Option (Nat × Bool)} {fr : Fr} {s : Sg} {R : V → Prop}
end
theorem gn{P:Program}{ops:Array Oper}{Q:Exit→Act→World→Prop}:∀(f:Nat) (L:Array Bool) (a:Act) (w:World),wpAny P .any ops (λe a w=>e=.normal∧Q .normal a w) f L a w→wpAny P .any ops Q f L a w
 | 0,L,a,w,h=>⟨h.1,h.2.2⟩
 | f+1,L,a,w,h=>by
  refine⟨λq=>(h.1 q).2,λi hi=>?_⟩
  have h2:=h.2 i hi
  unfold wpOp at h2 ⊢
  cases ho:ops[i]? with
  | none=>rw[ho]at h2;exact gn f _ a w h2
  | some o =>
   rw[ho]at h2
   simp only at h2 ⊢
   split
   ·rename_i hw
    rw[od hw]at h2
    exact wpOp_of (λe a w he q=>he q.1) (λa w q=>gn f _ a w q) h2
   ·rename_i hw
    rw[oc hw]at h2
    exact gn f _ _ w h2
def mu(P:Program)(o:Oper):Bool:=match o.op with
 | .move _ | .assign _ | .pick _ _ _ | .unOp _ _ _ | .extract _ _=>true
 | .binOp _ t _ z _=>!mZ P t&&!isNilC z
 | .convert _ d _=>match P.underlying d with | some (.int _)=>true | _=>false
 | _=>false
variable {y:V}
theorem pure_of{g:Pg P}{k t:Nat}{o:Oper}{ρ:Operand→V}{f:Ef}(hk:mu P o=true)(hs:eu g obs lns k t o ρ=some (y,f)):lM g o ρ=some y∧f=.none:=by
  have fin:∀z,lM g o ρ=some z→some (z,Ef.none)=some (y,f)→lM g o ρ=some y∧f=.none:=by
    intro z hz h
    injection h with h;injection h with e1 e2
    subst e1
    exact⟨hz,e2.symm⟩
  obtain⟨dst,op,ty,p,af,gd⟩:=o
  cases op
  case convert sr d x =>
    have hn:extS P ⟨dst,.convert sr d x,ty,p,af,gd⟩ ρ=none:=by
      simp only[mu]at hk
      simp only[extS]
      split at hk
      · rename_i k hu
        split
        · rw[oc (by simp[bytesT,hu])]
        · rw[oc (by simp[strT,hu])]
        · rfl
      · cases hk
    simp only[eu,hn,cx]at hs
    split at hs
    · rename_i z hz
      exact fin z hz hs
    · cases hs
  case binOp op t x z t' =>
    have hn:extS P ⟨dst,.binOp op t x z t',ty,p,af,gd⟩ ρ=none:=by
      simp only[mu,Bool.and_eq_true,Bool.not_eq_true']at hk
      simp[extS,hk.1,hk.2]
    simp only[eu,hn,cx]at hs
    split at hs
    · rename_i z hz
      exact fin z hz hs
    · cases hs
  all_goals first
    | (simp[mu]at hk;done)
    | (simp only [eu, extS, cx] at hs
       split at hs
       · rename_i z hz
         exact fin z hz hs
       · cases hs)
variable {v':Value}
theorem plainD_det{F F':Nat→Nat→Value→Prop}{x:D}{v:Value}(h:x.scal=true)(r:relD F x v)(r':relD F' x v'):v=v':=by
 cases r with
 | int k n=>cases r';rfl
 | bool b=>cases r';rfl
 | str s=>cases r';rfl
 | nil A c=>simp[D.scal,D.kind?]at h
 | list=>simp[D.scal,D.kind?]at h
 | other v h1=>simp[D.scal,D.kind?]at h
theorem plain_det{G':Cx}{x:V}{v:Value}(h:x.plainR=true)(r:rel G x v)(r':rel G' x v'):v=v':=by
 cases r with
 | d q =>
  cases r' with
  | d q'=>exact plainD_det h q q'
 | agg cs vs hl hr =>
  cases r' with
  | agg _ vs' hl' hr' =>
   simp only[V.plainR,List.all_eq_true]at h
   congr 1
   have:vs=vs':=by
    apply List.ext_getElem?
    intro i
    rcases Nat.lt_or_ge i cs.length with q | q
    ·have hc:=List.getElem?_eq_getElem q
     have h1:vs[i]? = some vs[i]:=List.getElem?_eq_getElem (by omega)
     have h2:vs'[i]? = some vs'[i]:=List.getElem?_eq_getElem (by omega)
     have hp:=h _ (List.mem_of_getElem? hc)
     have r1:=hr i _ _ hc h1
     have r2:=hr' i _ _ hc h2
     generalize cs[i]=y at hp r1 r2
     rw[h1,h2]
     cases y with
     | d z =>
      cases r1 with
      | d q1=>cases r2 with | d q2=>rw[plainD_det hp q1 q2]
     | _=>simp at hp
    ·rw[List.getElem?_eq_none (by omega),List.getElem?_eq_none (by omega)]
   rw[this]
 | _=>simp[V.plainR]at h
theorem yields_plain{g:Pg P}{fr:Fr}{a:Act}{o:Oper}(hfr:FR G fr a)(hp:∀x∈o.op.operands,(aR fr x).plainR=true)(h:lM g o (aR fr)=some y)(hy:y.plainR=true):∃v,(∀w,(execOp a.eval o).run P w=.ok (.value v) w)∧rel G y v:=by
 let fr0:Fr:=fr.map λx=>if x.plainR=true then x else .undef
 have hget:∀t,fr0.getD t .undef=if (fr.getD t .undef).plainR=true then fr.getD t .undef else .undef:=by
  intro t
  simp only[fr0,List.getD_eq_getElem?_getD,List.getElem?_map]
  cases fr[t]? with
  | none=>simp[V.plainR]
  | some x=>simp
 have hF0:FR (gc λ_ _ _=>False) fr0 a:=by
  refine⟨by simpa [fr0] using hfr.1,λt=>?_⟩
  rw[hget]
  split
  ·rename_i q;exact kh q (hfr.2 t)
  ·exact .undef _
 have hρ:∀x∈o.op.operands,aR fr x=aR fr0 x:=by
  intro x hx
  have hpx:=hp x hx
  cases x with
  | tmp t =>
   show fr.getD t .undef=fr0.getD t .undef
   have hpx':(fr.getD t .undef).plainR=true:=hpx
   rw[hget,od hpx']
  | _=>rfl
 rw[pureS_congr g o _ _ hρ]at h
 have key:∀w,∃v,(execOp a.eval o).run P w=.ok (.value v) w∧rel (gc λ_ _ _=>False) y v:=λw=>pureS_ok (λb o v q=>q.elim) hF0 h
 obtain⟨v,h1,h2⟩:=key default
 refine⟨v,λw=>?_,kh hy h2⟩
 obtain⟨v',h3,h4⟩:=key w
 rw[h3,plain_det hy h4 h2]
section
variable {P : Program} {g : Pg P} {ops : Array Oper} {K : Fr → Sg → Prop} {L : Array Bool} {fr : Fr} {s : Sg}
theorem regA.pure{j:Nat}{o:Oper}{d:Tmp}(hr:((Region.ready .any ops L).contains j,Region.free .any ops L j,Region.noSelect ops)=(true,true,true))(ho:ops.toList[j]? = some o)(hd:o.dst=some d)(hk:mu P o=true)(hw:bf ops fr o=some true)(hp:∀x∈o.op.operands,(aR fr x).plainR=true)
  (hdl:d<fr.length) (h:regS g false ops [o] fr s (λfr' s'=>(fr'.getD d .undef).plainR=true∧regA g ops K (L.setIfInBounds j true) fr' s')):regA g ops K L fr s:=by
 intro hL f hf w0 G0 G a w Q hQ h0 hH hfr hdf
 injection hr with hr1 hr2
 injection hr2 with hr2 hr3
 have hj:j∈Region.ready .any ops L:=by simpa using hr1
 obtain⟨h1,o',ho',_⟩:=mem_ready.1 hj
 have hlt:j<L.size:=by have:=de ho';omega
 have hun:L.getD j false=false:=by
  rw[Array.getD_eq_getD_getElem?,Array.getElem?_eq_getElem hlt]at h1 ⊢
  exact h1
 have ho2:ops[j]? = some o:=by simpa using ho
 have hcnt:=(kW L j hlt hun ops.size).1 (by omega)
 obtain⟨f,rfl⟩:∃q,f=q+1:=⟨f-1,by omega⟩
 unfold regS at h
 rw[hw]at h
 simp only[og]at h
 have hnc:∀fn args tys,o.op≠.call ⟨.value fn,args,tys⟩:=λfn args tys q=>by rw[mu,q]at hk;cases hk
 split at h
 ·rename_i fn args tys hop;exact absurd hop (hnc fn args tys)
 ·split at h
  ·rename_i y fz hs
   obtain⟨hps,rfl⟩:=pure_of hk hs
   unfold regS at h
   obtain⟨hy,hA⟩:=h
   have hyp:y.plainR=true:=by
    rw[hd]at hy
    simpa [putF,hdl,List.getD_eq_getElem?_getD] using hy
   obtain⟨v,hv,hrel⟩:=yields_plain (g:=g) hfr hp hps hyp
   have hY:Yields P ops o v a:=.inl ⟨du hfr hw,hv⟩
   refine gn _ _ _ _ (wpAny_first (Q:=λe a w=>e=.normal∧Q .normal a w) ho2 (Region.noSelect_spec hr3) (λc a w q=>by cases q.1) f L a w (Region.free_spec ho2 hr2) hj hY ?_)
   exact hA (by simpa using hL) f (by omega) w0 G0 G _ w _ (λa w q=>⟨rfl,hQ a w q⟩) h0 hH (eG hfr hrel o.dst) (by rw[bu];exact hdf)
  ·exact h.elim
end
section
variable {P : Program} {g : Pg P} {ops : Array Oper} {K : Fr → Sg → Prop} {L : Array Bool} {fr : Fr} {s : Sg}
theorem regA.firstV{j:Nat}{o:Oper}{d:Tmp}{y:V}(hr:((Region.ready .any ops L).contains j,Region.free .any ops L j,Region.noSelect ops)=(true,true,true))(ho:ops.toList[j]? = some o)(hw:bf ops fr o=some true)
  (hst:∀G a,FR G fr a→∃v,(∀w,(execOp a.eval o).run P w=.ok (.value v) w)∧rel G y v) (h:regA g ops K (L.setIfInBounds j true) (putF fr o.dst y) s):regA g ops K L fr s:=by
 intro hL f hf w0 G0 G a w Q hQ h0 hH hfr hdf
 injection hr with hr1 hr2
 injection hr2 with hr2 hr3
 have hj:j∈Region.ready .any ops L:=by simpa using hr1
 obtain⟨h1,o',ho',_⟩:=mem_ready.1 hj
 have hlt:j<L.size:=by have:=de ho';omega
 have hun:L.getD j false=false:=by
  rw[Array.getD_eq_getD_getElem?,Array.getElem?_eq_getElem hlt]at h1 ⊢
  exact h1
 have ho2:ops[j]? = some o:=by simpa using ho
 have hcnt:=(kW L j hlt hun ops.size).1 (by omega)
 obtain⟨f,rfl⟩:∃q,f=q+1:=⟨f-1,by omega⟩
 obtain⟨v,hv,hrel⟩:=hst G a hfr
 have hY:Yields P ops o v a:=.inl ⟨du hfr hw,hv⟩
 refine gn _ _ _ _ (wpAny_first (Q:=λe a w=>e=.normal∧Q .normal a w) ho2 (Region.noSelect_spec hr3) (λc a w q=>by cases q.1) f L a w (Region.free_spec ho2 hr2) hj hY ?_)
 exact h (by simpa using hL) f (by omega) w0 G0 G _ w _ (λa w q=>⟨rfl,hQ a w q⟩) h0 hH (eG hfr hrel o.dst) (by rw[bu];exact hdf)
theorem regA.moveB{j:Nat}{d:Tmp}{x:Operand}{ty:TypeId}{p:String}{af:Array Edge}{gd:Option (Nat×Bool)}(hr:((Region.ready .any ops L).contains j,Region.free .any ops L j,Region.noSelect ops)=(true,true,true))(ho:ops.toList[j]? = some ⟨some d,.move x,ty,p,af,gd⟩)(hw:bf ops fr ⟨some d,.move x,ty,p,af,gd⟩=some true)
  (h:regA g ops K (L.setIfInBounds j true) (putF fr (some d) (aR fr x)) s):regA g ops K L fr s :=
 regA.firstV (d:=d) hr ho hw (λG a hfr=>⟨a.eval x,λw=>by simp[execOp],aV hfr x⟩) h
theorem regA.fieldB{j:Nat}{d:Tmp}{t:TypeId}{x:Operand}{i k n:Nat}{ty:TypeId}{p:String}{af:Array Edge}{gd:Option (Nat×Bool)}(hr:((Region.ready .any ops L).contains j,Region.free .any ops L j,Region.noSelect ops)=(true,true,true))(ho:ops.toList[j]? = some ⟨some d,.fieldAddr t x i,ty,p,af,gd⟩)(hw:bf ops fr ⟨some d,.fieldAddr t x i,ty,p,af,gd⟩=some true)
  (hp:dE P t (aR fr x) i=some (.ptr k n)) (h:regA g ops K (L.setIfInBounds j true) (putF fr (some d) (.ptr k n)) s):regA g ops K L fr s:=by
 refine regA.firstV (d:=d) hr ho hw (λG a hfr=>?_) h
 obtain⟨u,h1,h2⟩:=kU (P:=P) (aV hfr x) hp default
 refine⟨u,λw=>?_,h2⟩
 obtain⟨u',h3,h4⟩:=kU (P:=P) (aV hfr x) hp w
 have:u'=u:=by
  cases h2 with
  | ptr _ _ b q =>
   cases h4 with
   | ptr _ _ b' q'=>rw[q]at q';injection q' with q';rw[q']
 subst this
 simp[execOp,h3]
end
end Go.Proofs.YtjemmjpdmbenkaaGreatDoor
