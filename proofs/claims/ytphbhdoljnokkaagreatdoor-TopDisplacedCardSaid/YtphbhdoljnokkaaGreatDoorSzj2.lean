/-
  Szj, Rc, Cg in one text.
-/
import Derived.Test.YtphbhdoljnokkaaGreatDoorSzi
import Derived.Test.YtphbhdoljnokkaaGreatDoorG1
import Derived.Test.YtphbhdoljnokkaaGreatDoorSzz
import Derived.Test.YtphbhdoljnokkaaGreatDoorTy
import Derived.Lib.AppendZerosOnto
import Derived.Laws.NewBlocks
namespace Go.Proofs.YtphbhdoljnokkaaGreatDoor
open Go.RowKit
set_option linter.unusedVariables false
set_option linter.unusedSimpArgs false
theorem HRp.intoRow{P:Program}{w0 w w':World}{G:Cx}{obs:Nat→Option (List V)}{lns:Nat→Option (TypeId×Nat)}(h:HRp P w0 w G obs lns)(hk:Kp w w')(k:Nat){ver:Nat}{e:TypeId}(hko:obs k=some [.rowc e ver []]){L0:Lv}(hL0:G.rv k=some L0){es:List (List D)}{v:Value}{xs:List Value}
  (ho:w'.ownsRow w.heap.size e (P.cellsOf e) v es.length xs) (hr:kb G.F (P.cellsOf e) es xs) :
  let G':Cx:={ G with rv:=upd G.rv k ⟨ver+1,P.cellsOf e,v⟩ }
  G.le G'∧HRp P w0 w' G' (upd obs k [.rowc e (ver+1) es]) lns:=by
 intro G'
 have h':=h.kept hk
 obtain⟨e1,es1,xs1,p1,p2,_⟩:=h.rvl k L0 hL0
 rw[hko]at p1;injection p1 with p1;injection p1 with p1 _;injection p1 with p1 p3 p4
 subst p1
 have hle:G.le G':=by
  refine⟨rfl,λ_ _ _ q=>q,λ_ _ q=>q,λ_ L q=>⟨L,q,rfl,.inl rfl⟩,λ_ _ q=>q,λj L q=>?_,λ_ _ q=>q⟩
  grind[upd]
 have hrv:∀j L,G'.rv j=some L→(j=k∧L=⟨ver+1,P.cellsOf e,v⟩)∨(j≠k∧G.rv j=some L):=by
  grind[aG,aU]
 have hnew:∀b,v.ownBlock=some b→w.heap.size≤b:=λb hb=>(ho.lt b hb).1
 have hobl:∀j b,G.ob j=some b→b<w.heap.size:=by
  intro j b q
  cases hq:obs j with
  | none=>exact absurd hq (h.obd j b q)
  | some cs =>
   obtain⟨b',_,_,h1,_,h3,_⟩:=h.obl j cs hq (h.obm j b q) (h.obr j b q)
   grind
 have hlvl:∀t L b,G.lv t=some L→L.v.ownBlock=some b→b<w.heap.size:=by
  intro t L b q hb
  cases hq:lns t with
  | none=>exact absurd hq (h.lvd t L q)
  | some en =>
   obtain⟨v',xs',h1,h2,_⟩:=h.lvl t en.1 en.2 hq
   rw[q]at h1;injection h1 with h1;subst h1
   exact (jU h2 b hb).2
 refine⟨hle,h'.kp,h'.fs,h'.fb,?_,?_,h'.obi,h'.lvd,h'.lvl,h'.lvi,h'.gb,h'.obm,?_,h'.mpi,?_,?_,?_,h'.tgs⟩
 ·intro j b q
  by_cases e:j=k
  simp_all[aG]
  ·rw[aU _ _ e];exact h.obd j b q
 ·intro j cs' q hm hq
  have e:j≠k:=λe=>by
   grind[aG]
  rw[aU _ _ e]at q
  have hq':G.rv j=none:=by
   grind[aU]
  obtain⟨b,vs',t',h1,h2,h3,h4,h5⟩:=h'.obl j cs' q hm hq'
  grind[fF]
 ·intro j b q
  obtain⟨h1,es',n,ik,kvs,h2,h3,h4⟩:=h'.mpl j b q
  grind[aU]
 ·intro j b q
  have e:j≠k:=λe=>by rw[e]at q;have:=h.obr k b q;simp_all
  show upd G.rv k _ j=none
  rw[aU _ _ e];exact h.obr j b q
 ·intro j L q
  rcases hrv j L q with⟨rfl,rfl⟩|⟨e',q⟩
  ·refine⟨e,es,xs,aG _ _ _,rfl,trivial,own_mono ho h.kp.size,hr,λb hb=>⟨λj' q'=>?_,λo u q'=>?_,λt L' q' hb'=>?_⟩⟩
   grind
   ·have:=(h.fs b o u q').1;grind
   grind
  ·obtain⟨e2,es2,xs2,h1,h2,h3,h4,h5,h6⟩:=h'.rvl j L q
   grind[aU]
 ·intro j j' L L' b q q' h1 h2
  rcases hrv j L q with⟨e1,r1⟩|⟨e1,q1⟩<;>rcases hrv j' L' q' with⟨e2,r2⟩|⟨e2,q2⟩
  omega
  ·subst r1
   obtain⟨_,_,_,_,_,_,h4,_⟩:=h.rvl j' L' q2
   have:=(h4.lt b h2).2;grind
  ·subst r2
   obtain⟨_,_,_,_,_,_,h4,_⟩:=h.rvl j L q1
   have:=(h4.lt b h1).2;grind
  ·exact h.rvi j j' L L' b q1 q2 h1 h2
def SpecR{P:Program}(_:Pg P)(f:FuncId)(args:List V)(e:TypeId)(es:List (List D)):Prop :=
 cm P f=true∧∀(w:World) (F:Nat→Nat→Value→Prop) (vs:List Value),(∀b o v,F b o v→b<w.heap.size∧w.cell? ⟨b,o,none⟩=some v)→lP w F→rels (iz F) args vs →
  Calls P f ⟨vs⟩ w λen w'=>∃v xs,en=.returned v∧Kp w w'∧w'.ownsRow w.heap.size e (P.cellsOf e) v es.length xs∧kb F (P.cellsOf e) es xs
section
variable {P : Program} {g : Pg P}
theorem SpecR.into{f:FuncId}{args args':List V}{e:TypeId}{es:List (List D)}{s:Sg}{R:V→Sg→Prop}(k:Nat){ver:Nat}(h:SpecR g f args' e es)(ha:args.map V.clean=args')(ho:s.obs[k]? = some [.rowc e ver []])(hR:R (.gr k (ver+1)) ⟨s.obs.set k [.rowc e (ver+1) es],s.lns⟩):bf g f args s R:=by
 subst ha
 refine⟨h.1,λw0 w G vs hH hr=>?_⟩
 have hrv:∃L,G.rv k=some L:=by
  cases hq:G.rv k with
  | some L=>simp_all
  | none =>
   cases hm:G.mp k with
   | some b =>
    obtain⟨_,_,_,_,_,h2,_⟩:=hH.mpl k b hm
    simp_all
   | none =>
    obtain⟨b,vs',t,_,_,_,h4,_⟩:=hH.obl k _ ho hm hq
    match vs',h4 with
    | [v],h4=>have:=(aV h4).1;cases this
    | [],h4=>have:=h4.1;simp at this
    | _::_::_,h4=>have:=h4.1;simp at this
 obtain⟨L0,hL0⟩:=hrv
 refine (h.2 w G.F vs hH.fs (hH.gb.kp hH.kp) ?_).mono ?_
 ·refine⟨by simp[hr.1],λi x v h1 h2=>?_⟩
  rw[List.getElem?_map]at h1
  cases hq:args[i]? with
  | none=>simp_all
  | some y=>rw[hq]at h1;simp at h1;subst h1;exact jo (hr.2 i y v hq h2) G.F (λ_ _ _ q=>q)
 ·rintro en w' ⟨v,xs,rfl,hk,ho2,hx⟩
  obtain⟨hle,hN⟩:=HRp.intoRow hH hk k ho hL0 ho2 hx
  rw[sg_set ho]at hN
  have hone:v.oneCell'=true:=by
   obtain⟨A,c,hv⟩:=gI ho2
   rw[hv];rfl
  have hN':HR P w0 w' { G with rv:=upd G.rv k ⟨ver+1,P.cellsOf e,v⟩ } ⟨s.obs.set k [.rowc e (ver+1) es],s.lns⟩:=hN
  exact⟨_,_,⟨s.obs.set k [.rowc e (ver+1) es],s.lns⟩,_,rfl,hle,hN',.gr _ _ _ hone _ (aG _ _ _) (.inl ⟨rfl,rfl⟩),hR⟩
variable {ops : Array Oper} {K : Fr → Sg → Prop} {L : Array Bool} {fr : Fr} {s : Sg}
theorem regH.extB{j:Nat}{d:Tmp}{x:Operand}{i:Nat}{vs:List V}{y:V}{ty:TypeId}{p:String}{af:Array Edge}{gd:Option (Nat×Bool)}(hr:((Region.ready .any ops L).contains j,Region.free .any ops L j,Region.noSelect ops)=(true,true,true))(ho:ops.toList[j]? = some ⟨some d,.extract x i,ty,p,af,gd⟩)(hw:bo ops fr ⟨some d,.extract x i,ty,p,af,gd⟩=some true)
  (hx:aN fr x=.tuple vs) (hy:vs[i]? = some y) (h:regH g ops K (L.setIfInBounds j true) (putF fr (some d) y) s):regH g ops K L fr s:=by
 refine regH.firstF hr ho hw (λG a hfr=>?_) h
 have hrr:=aK hfr x
 rw[hx]at hrr
 obtain⟨u,hu⟩:∃u,a.eval x=u:=⟨_,rfl⟩
 rw[hu]at hrr
 cases hrr with
 | tuple _ us hl hrel =>
  have hlt:i<us.length:=by grind
  exact⟨us[i],λw _=>by simp_all[execOp,Instr.extract],hrel i y _ hy (List.getElem?_eq_getElem hlt)⟩
end
section
variable {P : Program} {g : Pg P} {ops : Array Oper} {K : Fr → Sg → Prop} {L : Array Bool} {fr : Fr} {s : Sg}
theorem regH.frz(k:Nat){ver:Nat}{e:TypeId}{es:List (List D)}(ho:s.obs[k]? = some [.rowc e ver es])(h:regH g ops K L (fr.map (V.fz k ver es)) ⟨(s.obs.map (V.fzs k ver es)).set k [.rowc e (ver+1) []],s.lns⟩):regH g ops K L fr s:=by
 intro hL f hf w0 G0 G a w Q hQ h0 hH hfr hd
 obtain⟨G',g1,g2,g3⟩:=HR.frz hH ho hfr
 exact kW (S':=FxS G') (λw h b o v q=>h b o v (g1.F _ _ _ q)) _ _ _ _ (h hL f hf w0 G0 G' a w Q hQ (h0.trans g1) g2 g3 hd)
end
section
variable {α : Type} {L : List α} {x y : α}
end
section
variable {P : Program} {g : Pg P} {fr : Fr} {s : Sg} {ε ν : Type} {Φ : ε → SQ} {m : Option ε}
def SWl{P:Program}(g:Pg P):List Code→SQ→Fr→Sg→Prop
 | [],Q=>Q .normal
 | x::r,Q=>SWs g x (seqQ (SWl g r Q) Q)
def MirL{P:Program}(g:Pg P)(xs:List Code)(fr:Fr)(s:Sg){ε:Type}(m:Option ε)(Φ:ε→SQ):Prop:=∀e,m=some e→SWl g xs (Φ e) fr s
def kL{P:Program}(g:Pg P)(r:List Code)(Φ:ε→SQ)(e:ε):SQ:=seqQ (SWl g r (Φ e)) (Φ e)
theorem MirL.cons{x:Code}{r:List Code}(h:Mir g x fr s m (kL g r Φ)):MirL g (x::r) fr s m Φ:=h
theorem MirL.use{r:List Code}{e:ε}(h:MirL g r fr s m Φ)(hm:m=some e):kL g r Φ e .normal fr s:=h e hm
theorem MirL.toK{r:List Code}(h:MirL g r fr s m Φ):∀e,m=some e→kL g r Φ e .normal fr s:=h
end
open Go.RowKit Go.Lib
set_option maxHeartbeats 4000000 in
set_option maxRecDepth 100000 in
theorem grow_nil(w:World)(n:Nat)(hn:n≤16777216):Calls Tryz.prog 252 #[.slice none 0 0,.int .i64 n] w λe w'=>∃v,e=.returned v∧Kp w w'∧w'.ownsRow w.heap.size 137 3 v 0 []:=by
 obtain⟨i0,hi0,hz0⟩:∃i0,Tryz.prog.info? 137=some i0∧(i0.size=3∧i0.zero=some (.agg #[.bool false,.slice none 0 0,.string ⟨#[]⟩])∧i0.bytes=48):=⟨_,rfl,by kernel_rfl,by kernel_rfl,by kernel_rfl⟩
 have hw0:IntKind.i64.wrap (n:Int)=(n:Int):=by grind[IntKind.wrap_i64]
 by_cases h0:n=0
 ·subst h0
  go_enter Tryz.func252,Tryz.ntmps252
  go_wp2
  go_ret
  simp_all[Kp.refl,World.ownsRow_nil]
 ·obtain⟨G,hG⟩:∃G,G=grownCap w n 0 137:=⟨_,rfl⟩
  have hGn:n≤G:=by simp_all[grownCap_ge]
  have hGm:G≤maxLen:=by grind[grownCap_le_maxLen,maxLen]
  obtain⟨Z,hZ,hZl⟩:∃Z:Array Value,(∀ty,(Builtin.append_ #[86,3] ty #[.slice none 0 0,.int .i64 (n:Int)]).run Tryz.prog w=.ok (.slice (some ⟨w.heap.size,0,none⟩) n G) (w.drew.alloc (.cells Z 137)))∧Z.size=G*3:=by
   have h:=λty=>Lib.run_append_grow_zeros (P:=Tryz.prog) w 86 3 ty 137 i0 _ .i64 .i64 Tryz.underlying86 Tryz.underlying3 hi0 hz0.2.1 none 0 0 [] (by simp[Builtin.firstCells]) n (by omega) (by omega) (by omega) (by omega) (by grind) (by rw[hz0.2.2];exact growslice_fits (by omega) (by omega))
   simp only[Nat.zero_add,←hG]at h
   refine⟨_,h,?_⟩
   grind[Builtin.zeroCells,Value.cells]
  clear hG
  have hpos:(0:Int)<(n:Int):=by omega
  have hneg:¬((n:Int)<0):=by omega
  go_enter Tryz.func252,Tryz.ntmps252
  go_wp2_with (at_builtin;refine Lib.wpList_append_run _ rfl _ _ _ _ rfl _ _ rfl rfl _ _ (hZ _) ?_)
  all_goals (go_ret;exact⟨_,rfl,(Kp.refl w).drew.alloc _,⟨by simp,.inr ⟨_,G,Z,rfl,Nat.le_refl _,heap_alloc_new w _,by omega,hGm,hZl,by simp⟩⟩⟩)
theorem grow_S{s:Sg}{R:V→Sg→Prop}{n:Int}(h:decide (0≤n∧n≤16777216)=true)(hR:R (.own s.lns.length []) ⟨s.obs,s.lns++[(137,0)]⟩):bf gP 252 [.nil,.d (.int .i64 n)] s R:=by
 have h:=ra h
 obtain⟨k,rfl⟩:∃k:Nat,n=(k:Int):=⟨n.toNat,by omega⟩
 refine⟨by kernel_rfl,λw0 w G vs hH hr=>?_⟩
 match vs,hr with
 | [u,v],hr =>
  obtain⟨r1,r2⟩:=aV hr
  obtain⟨r2,_⟩:=aV r2
  have hv:=fw r2
  subst hv
  cases r1 with
  | nil =>
   refine (grow_nil w k (by omega)).mono ?_
   rintro en w' ⟨v,rfl,hk,ho⟩
   have hc:Tryz.prog.cellsOf 137=3:=by kernel_rfl
   obtain⟨A,c,rfl⟩:=gI ho
   rw[←hc]at ho
   obtain⟨hle,hN⟩:=HRp.beginRowP hH hk s.lns.length (by simp) 137 ho
   rw[pK]at hN
   exact⟨_,.own s.lns.length [],⟨s.obs,s.lns++[(137,0)]⟩,_,rfl,hle,hN,.own _ [] _ (.nil _ _) ⟨0,Tryz.prog.cellsOf 137,.slice A 0 c⟩ (aG _ _ _) (λi c q=>by simp at q) (.inl ⟨rfl,rfl⟩),hR⟩
 | [],hr=>have:=hr.1;simp at this
 | [_],hr=>have:=hr.1;simp at this
 | _::_::_::_,hr=>have:=hr.1;simp at this
end Go.Proofs.YtphbhdoljnokkaaGreatDoor
