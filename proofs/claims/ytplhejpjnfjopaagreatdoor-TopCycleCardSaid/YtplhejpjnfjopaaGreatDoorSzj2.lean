/-
  Szj, Szl in one text.
-/
import Derived.Test.YtplhejpjnfjopaaGreatDoorSzi
import Derived.Test.YtplhejpjnfjopaaGreatDoorSzz
namespace Go.Proofs.YtplhejpjnfjopaaGreatDoor
open Go.RowKit
set_option linter.unusedVariables false
set_option linter.unusedSimpArgs false
theorem HRp.intoRow{P:Program}{w0 w w':World}{G:Cx}{obs:Nat→Option (List V)}{lns:Nat→Option (TypeId×Nat)}(h:HRp P w0 w G obs lns)(hk:Kp w w')(k:Nat){ver:Nat}{e:TypeId}(hko:obs k=some [.rowc e ver []]){L0:Lv}(hL0:G.rv k=some L0){es:List (List D)}{v:Value}{xs:List Value}
  (ho:w'.ownsRow w.heap.size e (P.cellsOf e) v es.length xs) (hr:gW G.F (P.cellsOf e) es xs) :
  let G':Cx:={ G with rv:=upd G.rv k ⟨ver+1,P.cellsOf e,v⟩ }
  G.le G'∧HRp P w0 w' G' (upd obs k [.rowc e (ver+1) es]) lns:=by
 intro G'
 have h':=h.kept hk
 obtain⟨e1,es1,xs1,p1,p2,_⟩:=h.rvl k L0 hL0
 rw[hko]at p1;injection p1 with p1;injection p1 with p1 _;injection p1 with p1 p3 p4
 subst p1
 have hle:G.le G':=by
  refine⟨rfl,λ_ _ _ q=>q,λ_ _ q=>q,λ_ L q=>⟨L,q,rfl,.inl rfl⟩,λ_ _ q=>q,λj L q=>?_,λ_ _ q=>q⟩
  by_cases hj:j=k
  ·subst hj
   rw[hL0]at q;injection q with q;subst q
   exact⟨_,aD _ _ _,p2.symm,.inr (by show L0.n<ver+1;omega)⟩
  ·exact⟨L,(by show upd G.rv k _ j=some L;rw[aL _ _ hj];exact q),rfl,.inl rfl⟩
 have hrv:∀j L,G'.rv j=some L→(j=k∧L=⟨ver+1,P.cellsOf e,v⟩)∨(j≠k∧G.rv j=some L):=by
  intro j L q
  have q':upd G.rv k ⟨ver+1,P.cellsOf e,v⟩ j=some L:=q
  by_cases e:j=k
  ·subst e;rw[aD]at q';injection q' with q';exact .inl ⟨rfl,q'.symm⟩
  ·rw[aL _ _ e]at q';exact .inr ⟨e,q'⟩
 have hnew:∀b,v.ownBlock=some b→w.heap.size≤b:=λb hb=>(ho.lt b hb).1
 have hobl:∀j b,G.ob j=some b→b<w.heap.size:=by
  intro j b q
  cases hq:obs j with
  | none=>exact absurd hq (h.obd j b q)
  | some cs =>
   obtain⟨b',_,_,h1,_,h3,_⟩:=h.obl j cs hq (h.obm j b q) (h.obr j b q)
   rw[q]at h1;injection h1 with h1;subst h1
   exact heap_lt' h3
 have hlvl:∀t L b,G.lv t=some L→L.v.ownBlock=some b→b<w.heap.size:=by
  intro t L b q hb
  cases hq:lns t with
  | none=>exact absurd hq (h.lvd t L q)
  | some en =>
   obtain⟨v',xs',h1,h2,_⟩:=h.lvl t en.1 en.2 hq
   rw[q]at h1;injection h1 with h1;subst h1
   exact (fc h2 b hb).2
 refine⟨hle,h'.kp,h'.fs,h'.fb,?_,?_,h'.obi,h'.lvd,h'.lvl,h'.lvi,h'.gb,h'.obm,?_,h'.mpi,?_,?_,?_,h'.tgs⟩
 ·intro j b q
  by_cases e:j=k
  ·rw[e,aD];simp
  ·rw[aL _ _ e];exact h.obd j b q
 ·intro j cs' q hm hq
  have e:j≠k:=λe=>by
   have:upd G.rv k ⟨ver+1,P.cellsOf _,v⟩ j=none:=hq
   rw[e,aD]at this;cases this
  rw[aL _ _ e]at q
  have hq':G.rv j=none:=by
   have:upd G.rv k ⟨ver+1,P.cellsOf _,v⟩ j=none:=hq
   rwa [aL _ _ e]at this
  obtain⟨b,vs',t',h1,h2,h3,h4,h5⟩:=h'.obl j cs' q hm hq'
  exact⟨b,vs',t',h1,h2,h3,cP hle h4,h5⟩
 ·intro j b q
  obtain⟨h1,es',n,ik,kvs,h2,h3,h4⟩:=h'.mpl j b q
  have hj:j≠k:=λe=>by
   rw[e]at h2;rw[hko]at h2
   injection h2 with h2;injection h2 with h2 _;cases h2
  exact⟨h1,es',n,ik,kvs,by rw[aL _ _ hj];exact h2,h3,h4⟩
 ·intro j b q
  have e:j≠k:=λe=>by rw[e]at q;have:=h.obr k b q;rw[hL0]at this;cases this
  show upd G.rv k _ j=none
  rw[aL _ _ e];exact h.obr j b q
 ·intro j L q
  rcases hrv j L q with⟨rfl,rfl⟩|⟨e',q⟩
  ·refine⟨e,es,xs,aD _ _ _,rfl,trivial,kk ho h.kp.size,hr,λb hb=>⟨λj' q'=>?_,λo u q'=>?_,λt L' q' hb'=>?_⟩⟩
   ·have:=hobl j' b q';have:=hnew b hb;omega
   ·have:=(h.fs b o u q').1;have:=hnew b hb;omega
   ·have:=hlvl t L' b q' hb';have:=hnew b hb;omega
  ·obtain⟨e2,es2,xs2,h1,h2,h3,h4,h5,h6⟩:=h'.rvl j L q
   exact⟨e2,es2,xs2,by rw[aL _ _ e'];exact h1,h2,h3,h4,h5,h6⟩
 ·intro j j' L L' b q q' h1 h2
  rcases hrv j L q with⟨e1,r1⟩|⟨e1,q1⟩<;>rcases hrv j' L' q' with⟨e2,r2⟩|⟨e2,q2⟩
  ·rw[e1,e2]
  ·subst r1
   obtain⟨_,_,_,_,_,_,h4,_⟩:=h.rvl j' L' q2
   have:=(h4.lt b h2).2;have:=hnew b h1;omega
  ·subst r2
   obtain⟨_,_,_,_,_,_,h4,_⟩:=h.rvl j L q1
   have:=(h4.lt b h1).2;have:=hnew b h2;omega
  ·exact h.rvi j j' L L' b q1 q2 h1 h2
def SpecR{P:Program}(_:Pg P)(f:FuncId)(args:List V)(e:TypeId)(es:List (List D)):Prop :=
 bD P f=true∧∀(w:World) (F:Nat→Nat→Value→Prop) (vs:List Value),(∀b o v,F b o v→b<w.heap.size∧w.cell? ⟨b,o,none⟩=some v)→gL w F→rels (bareG F) args vs →
  Calls P f ⟨vs⟩ w λen w'=>∃v xs,en=.returned v∧Kp w w'∧w'.ownsRow w.heap.size e (P.cellsOf e) v es.length xs∧gW F (P.cellsOf e) es xs
section
variable {P : Program} {g : Pg P}
theorem SpecR.into{f:FuncId}{args args':List V}{e:TypeId}{es:List (List D)}{s:Sg}{R:V→Sg→Prop}(k:Nat){ver:Nat}(h:SpecR g f args' e es)(ha:args.map V.clean=args')(ho:s.obs[k]? = some [.rowc e ver []])(hR:R (.gr k (ver+1)) ⟨s.obs.set k [.rowc e (ver+1) es],s.lns⟩):SpecS g f args s R:=by
 subst ha
 refine⟨h.1,λw0 w G vs hH hr=>?_⟩
 have hrv:∃L,G.rv k=some L:=by
  cases hq:G.rv k with
  | some L=>exact⟨L,rfl⟩
  | none =>
   cases hm:G.mp k with
   | some b =>
    obtain⟨_,_,_,_,_,h2,_⟩:=hH.mpl k b hm
    have h2':s.obs[k]? = _:=h2
    rw[ho]at h2';injection h2' with h2';injection h2' with h2' _;cases h2'
   | none =>
    obtain⟨b,vs',t,_,_,_,h4,_⟩:=hH.obl k _ ho hm hq
    match vs',h4 with
    | [v],h4=>have:=(aR h4).1;cases this
    | [],h4=>have:=h4.1;simp at this
    | _::_::_,h4=>have:=h4.1;simp at this
 obtain⟨L0,hL0⟩:=hrv
 refine (h.2 w G.F vs hH.fs (hH.gb.kp hH.kp) ?_).mono ?_
 ·refine⟨by simp[hr.1],λi x v h1 h2=>?_⟩
  rw[List.getElem?_map]at h1
  cases hq:args[i]? with
  | none=>rw[hq]at h1;cases h1
  | some y=>rw[hq]at h1;simp at h1;subst h1;exact eI (hr.2 i y v hq h2) G.F (λ_ _ _ q=>q)
 ·rintro en w' ⟨v,xs,rfl,hk,ho2,hx⟩
  obtain⟨hle,hN⟩:=HRp.intoRow hH hk k ho hL0 ho2 hx
  rw[sg_set ho]at hN
  have hone:v.oneCell'=true:=by
   obtain⟨A,c,hv⟩:=dy ho2
   rw[hv];rfl
  have hN':HR P w0 w' { G with rv:=upd G.rv k ⟨ver+1,P.cellsOf e,v⟩ } ⟨s.obs.set k [.rowc e (ver+1) es],s.lns⟩:=hN
  exact⟨_,_,⟨s.obs.set k [.rowc e (ver+1) es],s.lns⟩,_,rfl,hle,hN',.gr _ _ _ hone _ (aD _ _ _) (.inl ⟨rfl,rfl⟩),hR⟩
variable {ops : Array Oper} {K : Fr → Sg → Prop} {L : Array Bool} {fr : Fr} {s : Sg}
theorem regH.extB{j:Nat}{d:Tmp}{x:Operand}{i:Nat}{vs:List V}{y:V}{ty:TypeId}{p:String}{af:Array Edge}{gd:Option (Nat×Bool)}(hr:((Region.ready .any ops L).contains j,Region.free .any ops L j,Region.noSelect ops)=(true,true,true))(ho:ops.toList[j]? = some ⟨some d,.extract x i,ty,p,af,gd⟩)(hw:bi ops fr ⟨some d,.extract x i,ty,p,af,gd⟩=some true)
  (hx:evalO fr x=.tuple vs) (hy:vs[i]? = some y) (h:regH g ops K (L.setIfInBounds j true) (putF fr (some d) y) s):regH g ops K L fr s:=by
 refine regH.firstF hr ho hw (λG a hfr=>?_) h
 have hrr:=aV hfr x
 rw[hx]at hrr
 obtain⟨u,hu⟩:∃u,a.eval x=u:=⟨_,rfl⟩
 rw[hu]at hrr
 cases hrr with
 | tuple _ us hl hrel =>
  have hlt:i<us.length:=by rw[←hl];exact az hy
  exact⟨us[i],λw _=>by simp[execOp,hu,Instr.extract,hlt],hrel i y _ hy (List.getElem?_eq_getElem hlt)⟩
end
section
variable {P : Program} {g : Pg P} {ops : Array Oper} {K : Fr → Sg → Prop} {L : Array Bool} {fr : Fr} {s : Sg}
theorem regH.frz(k:Nat){ver:Nat}{e:TypeId}{es:List (List D)}(ho:s.obs[k]? = some [.rowc e ver es])(h:regH g ops K L (fr.map (V.fz k ver es)) ⟨(s.obs.map (V.fzs k ver es)).set k [.rowc e (ver+1) []],s.lns⟩):regH g ops K L fr s:=by
 intro hL f hf w0 G0 G a w Q hQ h0 hH hfr hd
 obtain⟨G',g1,g2,g3⟩:=HR.frz hH ho hfr
 exact iH (S':=FxS G') (λw h b o v q=>h b o v (g1.F _ _ _ q)) _ _ _ _ (h hL f hf w0 G0 G' a w Q hQ (h0.trans g1) g2 g3 hd)
end
section
variable {P : Program}
theorem HRp.intoLn{w0 w w':World}{G:Cx}{obs:Nat→Option (List V)}{lns:Nat→Option (TypeId×Nat)}(h:HRp P w0 w G obs lns)(hk:Kp w w')(t:Nat)(e:TypeId)(ht:lns t=some (e,0)){v:Value}{n0:Nat}(hn0:0<n0){xs0:List Value}(ho:w'.ownsRow w.heap.size e (P.cellsOf e) v n0 xs0)(hfr:∀b o u,v.ownBlock=some b→w'.cell? ⟨b,o,none⟩=some u→o<n0*P.cellsOf e) :
  let G':Cx:={ G.withF (fresh w w')with lv:=upd G.lv t ⟨n0,P.cellsOf e,v⟩ }
  G.le G'∧HRp P w0 w' G' obs (upd lns t (e,n0)):=by
 intro G'
 have h':=h.grow hk
 obtain⟨v1,xs1,hv1,_⟩:=h.lvl t e 0 ht
 have hlv:∀j L,G'.lv j=some L→(j=t∧L=⟨n0,P.cellsOf e,v⟩)∨(j≠t∧G.lv j=some L):=by
  intro j L q
  have q':upd G.lv t ⟨n0,P.cellsOf e,v⟩ j=some L:=q
  by_cases e:j=t
  ·subst e;rw[aD]at q';injection q' with q';exact .inl ⟨rfl,q'.symm⟩
  ·rw[aL _ _ e]at q';exact .inr ⟨e,q'⟩
 have hnew:∀b,v.ownBlock=some b→w.heap.size≤b:=λb hb=>(ho.lt b hb).1
 have hle:G.le G':=by
  refine⟨rfl,λ_ _ _ q=>.inl q,λ_ _ q=>q,λj L q=>?_,λ_ _ q=>q,λ_ L q=>⟨L,q,rfl,.inl rfl⟩,λ_ _ q=>q⟩
  by_cases ej:j=t
  ·subst ej
   rw[hv1]at q;injection q with q;subst q
   exact⟨_,aD _ _ _,rfl,.inr hn0⟩
  ·exact⟨L,(by show upd G.lv t _ j=some L;rw[aL _ _ ej];exact q),rfl,.inl rfl⟩
 have hle2:(G.withF (fresh w w')).le G':=by
  refine⟨rfl,λ_ _ _ q=>q,λ_ _ q=>q,λj L q=>?_,λ_ _ q=>q,λ_ L q=>⟨L,q,rfl,.inl rfl⟩,λ_ _ q=>q⟩
  have q:G.lv j=some L:=q
  by_cases ej:j=t
  ·subst ej
   rw[hv1]at q;injection q with q;subst q
   exact⟨_,aD _ _ _,rfl,.inr hn0⟩
  ·exact⟨L,(by show upd G.lv t _ j=some L;rw[aL _ _ ej];exact q),rfl,.inl rfl⟩
 have hlvl:∀j L b,G.lv j=some L→L.v.ownBlock=some b→b<w.heap.size:=by
  intro j L b q hb
  cases hq:lns j with
  | none=>exact absurd hq (h.lvd j L q)
  | some en =>
   obtain⟨v',xs',h1,h2,_⟩:=h.lvl j en.1 en.2 hq
   rw[q]at h1;injection h1 with h1;subst h1
   exact (fc h2 b hb).2
 refine⟨hle,h'.kp,h'.fs,h'.fb,h'.obd,?_,h'.obi,?_,?_,?_,h'.gb,h'.obm,h'.mpl,h'.mpi,h'.obr,λk L q=>?_,h'.rvi,h'.tgs⟩
 ·intro k cs q hm hrv
  obtain⟨b,vs,t',h1,h2,h3,h4,h5⟩:=h'.obl k cs q hm hrv
  exact⟨b,vs,t',h1,h2,h3,cP hle2 h4,h5⟩
 ·intro j L q
  rcases hlv j L q with⟨rfl,_⟩|⟨e,q⟩
  ·rw[aD];simp
  ·rw[aL _ _ e];exact h.lvd j L q
 ·intro j e' n q
  by_cases ej:j=t
  ·subst ej
   rw[aD]at q;injection q with q;injection q with q1 q2;subst q1;subst q2
   refine⟨v,xs0,aD _ _ _,.inr (kk ho h.kp.size),λb hb=>⟨λk q=>?_,λo u q=>?_⟩⟩
   ·have hb2:=hnew b hb
    cases hq:obs k with
    | none=>exact absurd hq (h.obd k b q)
    | some cs =>
     obtain⟨b',_,_,h1,_,h3,_⟩:=h.obl k cs hq (h.obm k b q) (h.obr k b q)
     have q':G.ob k=some b:=q
     rw[q']at h1;injection h1 with h1;subst h1
     have:=heap_lt' h3;omega
   ·rcases q with q | q
    ·have:=(h.fs b o u q).1;have:=hnew b hb;omega
    ·exact hfr b o u hb q.2
  ·rw[aL _ _ ej]at q
   obtain⟨v',xs,h1,h2,h3⟩:=h'.lvl j e' n q
   exact⟨v',xs,(by show upd G.lv t _ j=_;rw[aL _ _ ej];exact h1),h2,h3⟩
 ·intro j j' L L' b q q' h1 h2
  rcases hlv j L q with⟨e1,r1⟩|⟨e1,q1⟩<;>rcases hlv j' L' q' with⟨e2,r2⟩|⟨e2,q2⟩
  ·rw[e1,e2]
  ·subst r1;have:=hlvl j' L' b q2 h2;have:=hnew b h1;omega
  ·subst r2;have:=hlvl j L b q1 h1;have:=hnew b h2;omega
  ·exact h.lvi j j' L L' b q1 q2 h1 h2
 ·obtain⟨e',es,xs,h1,h2,h3,h4,h5,h6⟩:=h'.rvl k L q
  refine⟨e',es,xs,h1,h2,h3,h4,h5,λb hb=>⟨(h6 b hb).1,(h6 b hb).2.1,λj L' q'=>?_⟩⟩
  rcases hlv j L' q' with⟨_,rfl⟩|⟨_,q'⟩
  ·intro hb2
   obtain⟨_,_,_,_,_,_,g4,_⟩:=h.rvl k L q
   have:=(g4.lt b hb).2;have:=hnew b hb2;omega
  ·exact (h6 b hb).2.2 j L' q'
end
section
variable {P : Program} {g : Pg P} {d : Option Tmp} {t ty : TypeId} {p : String} {af : Array Edge} {gd : Option (Nat × Bool)} {fr : Fr} {s : Sg} {R : V → Sg → Prop}
theorem aZ{k:Nat}{e:TypeId}{sz len:Nat}{parts:Array (Nat×Operand)}{es:List (List D)}(ht:appT P t=some (e,sz))(hr:rowV P t len s.obs.length (parts.toList.map λp=>(p.1,evalO fr p.2))=some (.full es,.none))(hpos:0<len)(hk:s.lns[k]? = some (e,0))(h:R (.own k es) ⟨s.obs,s.lns.set k (e,es.length)⟩):altR g ⟨d,.buildSlice t len parts,ty,p,af,gd⟩ fr s R:=by
  intro w0 w G a hH hfr
  obtain⟨i,z,hu,hi,hiz,z1,z2,z3,z4⟩:=appT_parts ht
  have hce:P.cellsOf e=sz:=by simp[Program.cellsOf,hi,z2]
  obtain⟨e',ws,sz',hu',hs',hwl,hok,hel,hcs,hrun,hrel⟩:=rowV_full (y:=.undef) (f:=.none) (G:=G) (us:=parts.toList.map λp=>(p.1,a.eval p.2)) hH (k:=s.obs.length) (by simp) (by simp) (λi p q h1 h2=>by
    rw[List.getElem?_map]at h1 h2
    cases hq:parts.toList[i]? with
    | none=>rw[hq]at h1;cases h1
    | some x =>
      rw[hq]at h1 h2
      injection h1 with h1;injection h2 with h2
      subst h1;subst h2
      exact⟨rfl,aV hfr _⟩) hr
  have he:e'=e:=by rw[hu]at hu';injection hu' with hu';injection hu' with hu';exact hu'.symm
  subst he
  have hsz:sz'=P.cellsOf e':=by
    unfold sizeT at hs'
    rw[hi]at hs'
    simp[Program.cellsOf,hi]
    simpa using hs'.symm
  subst hsz
  have hb:=fa hok
  have hlen:len≤maxLen:=by
    rcases Nat.eq_zero_or_pos (P.cellsOf e')with q | q
    · exfalso;rw[hce]at q;omega
    · have:=Nat.le_mul_of_pos_right len q
      unfold maxLen;omega
  have hown:(w.alloc (.cells ⟨ws⟩ e')).ownsRow w.heap.size e' (P.cellsOf e') (.slice (some ⟨w.heap.size,0,none⟩) len len) len ws:=⟨hwl,.inr ⟨w.heap.size,len,⟨ws⟩,rfl,Nat.le_refl _,heap_alloc_new w _,Nat.le_refl _,hlen,by simpa using hwl,by simpa using List.take_of_length_le (Nat.le_of_eq hwl)⟩⟩
  obtain⟨hle,hN⟩:=HRp.intoLn hH ((Kp.refl w).alloc _) k e' hk hpos hown (λb o u hb hc=>by
    have hb':w.heap.size=b:=by simpa [Value.ownBlock] using hb
    subst hb'
    rw[World.cell?_alloc_new]at hc
    have:=Array.getElem?_eq_some_iff.1 hc
    obtain⟨q,_⟩:=this
    simpa [hwl] using q)
  rw[lns_set hk]at hN
  refine⟨.value (.slice (some ⟨w.heap.size,0,none⟩) len len),_,.own k es,⟨s.obs,s.lns.set k (e',es.length)⟩,{ G.withF (fresh w (w.alloc (.cells ⟨ws⟩ e')))with lv:=upd G.lv k ⟨len,P.cellsOf e',.slice (some ⟨w.heap.size,0,none⟩) len len⟩ },?_,.inl ⟨_,rfl,.own _ es _ hrel _ (aD _ _ _) hcs (.inl ⟨hel,rfl⟩)⟩,hle,by rw[hel];exact hN,h⟩
  have hm:parts.map (λx=>(x.1,a.eval x.2))=⟨parts.toList.map λx=>(x.1,a.eval x.2)⟩:=by
    apply Array.toList_inj.1
    simp
  simp[execOp]
  rw[hm,hrun]
  rfl
end
section
variable {P : Program} {g : Pg P}
theorem SWs.ghList{Q:SQ}{c:Code}{fr:Fr}{s:Sg}(e:TypeId)(h:SWs g c Q fr ⟨s.obs,s.lns++[(e,0)]⟩):SWs g c Q fr s:=by
 intro hdr w0 G0 G a w h0 hH hfr hd
 obtain⟨b1,b2⟩:=HRp.begin hH s.lns.length (by simp) e
 rw[kn]at b2
 exact h hdr w0 G0 _ a w (h0.trans b1) b2 (eY b1 hfr) hd
theorem Mir.ghList{ε:Type}{m:Option ε}{Φ:ε→SQ}{c:Code}{fr:Fr}{s:Sg}(e:TypeId)(h:Mir g c fr ⟨s.obs,s.lns++[(e,0)]⟩ m Φ):Mir g c fr s m Φ:=λx hx=>SWs.ghList e (h x hx)
variable {ops : Array Oper} {K : Fr → Sg → Prop} {L : Array Bool} {fr : Fr} {s : Sg}
theorem regA.assignB{j:Nat}{d:Tmp}{x:Operand}{ty:TypeId}{p:String}{af:Array Edge}{gd:Option (Nat×Bool)}(hr:((Region.ready .any ops L).contains j,Region.free .any ops L j,Region.noSelect ops)=(true,true,true))(ho:ops.toList[j]? = some ⟨some d,.assign x,ty,p,af,gd⟩)(hw:bi ops fr ⟨some d,.assign x,ty,p,af,gd⟩=some true)
  (h:regA g ops K (L.setIfInBounds j true) (putF fr (some d) (evalO fr x)) s):regA g ops K L fr s :=
 regA.firstV (d:=d) hr ho hw (λG a hfr=>⟨a.eval x,λw=>by simp[execOp],aV hfr x⟩) h
end
end Go.Proofs.YtplhejpjnfjopaaGreatDoor
