/-
  Szj, Mk, Rc, Cg in one text.
-/
import Derived.Test.YtjemmjpdmbenkaaGreatDoorSzi
import Derived.Test.YtjemmjpdmbenkaaGreatDoorSzz
import Derived.Test.YtjemmjpdmbenkaaGreatDoorG1
import Derived.Test.YtjemmjpdmbenkaaGreatDoorTy
import Derived.Lib.AppendZerosOnto
import Derived.Laws.NewBlocks
open List renaming replicate → zA,take_of_length_le → zB,take → zD
namespace Go.Proofs.YtjemmjpdmbenkaaGreatDoor
open Go.RowKit
set_option linter.unusedVariables false
set_option linter.unusedSimpArgs false
theorem HRp.intoRow{P:Program}{w0 w w':World}{G:Cx}{obs:Nat→Option (List V)}{lns:Nat→Option (TypeId×Nat)}(h:HRp P w0 w G obs lns)(hk:Kp w w')(k:Nat){ver:Nat}{e:TypeId}(hko:obs k=some [.rowc e ver []]){L0:Lv}(hL0:G.rv k=some L0){es:List (List D)}{v:Value}{xs:List Value}
  (ho:w'.ownsRow w.heap.size e (P.cellsOf e) v es.length xs) (hr:iP G.F (P.cellsOf e) es xs) :
  let G':Cx:={ G with rv:=upd G.rv k ⟨ver+1,P.cellsOf e,v⟩ }
  G.le G'∧HRp P w0 w' G' (upd obs k [.rowc e (ver+1) es]) lns:=by
 intro G'
 have h':=h.kept hk
 obtain⟨e1,es1,xs1,p1,p2,_⟩:=h.rvl k L0 hL0
 rw[hko]at p1;injection p1 with p1;injection p1 with p1 _;injection p1 with p1 p3 p4
 subst p1
 have hle:G.le G':=by
  refine⟨rfl,λ_ _ _ q=>q,λ_ _ q=>q,λ_ L q=>⟨L,q,rfl,.inl rfl⟩,λ_ _ q=>q,λj L q=>?_,λ_ _ q=>q⟩
  by_cases hj:j=k
  ·subst hj
   rw[hL0]at q;injection q with q;subst q
   exact⟨_,aG _ _ _,p2.symm,.inr (by show L0.n<ver+1;omega)⟩
  ·exact⟨L,(by show upd G.rv k _ j=some L;rw[aP _ _ hj];exact q),rfl,.inl rfl⟩
 have hrv:∀j L,G'.rv j=some L→(j=k∧L=⟨ver+1,P.cellsOf e,v⟩)∨(j≠k∧G.rv j=some L):=by
  intro j L q
  have q':upd G.rv k ⟨ver+1,P.cellsOf e,v⟩ j=some L:=q
  by_cases e:j=k
  ·subst e;rw[aG]at q';injection q' with q';exact .inl ⟨rfl,q'.symm⟩
  ·rw[aP _ _ e]at q';exact .inr ⟨e,q'⟩
 have hnew:∀b,v.ownBlock=some b→w.heap.size≤b:=λb hb=>(ho.lt b hb).1
 have hobl:∀j b,G.ob j=some b→b<w.heap.size:=by
  intro j b q
  cases hq:obs j with
  | none=>exact absurd hq (h.obd j b q)
  | some cs =>
   obtain⟨b',_,_,h1,_,h3,_⟩:=h.obl j cs hq (h.obm j b q) (h.obr j b q)
   rw[q]at h1;injection h1 with h1;subst h1
   exact heap_lt' h3
 have hlvl:∀t L b,G.lv t=some L→L.v.ownBlock=some b→b<w.heap.size:=by
  intro t L b q hb
  cases hq:lns t with
  | none=>exact absurd hq (h.lvd t L q)
  | some en =>
   obtain⟨v',xs',h1,h2,_⟩:=h.lvl t en.1 en.2 hq
   rw[q]at h1;injection h1 with h1;subst h1
   exact (iq h2 b hb).2
 refine⟨hle,h'.kp,h'.fs,h'.fb,?_,?_,h'.obi,h'.lvd,h'.lvl,h'.lvi,h'.gb,h'.obm,?_,h'.mpi,?_,?_,?_,h'.tgs⟩
 ·intro j b q
  by_cases e:j=k
  ·rw[e,aG];simp
  ·rw[aP _ _ e];exact h.obd j b q
 ·intro j cs' q hm hq
  have e:j≠k:=λe=>by
   have:upd G.rv k ⟨ver+1,P.cellsOf _,v⟩ j=none:=hq
   rw[e,aG]at this;cases this
  rw[aP _ _ e]at q
  have hq':G.rv j=none:=by
   have:upd G.rv k ⟨ver+1,P.cellsOf _,v⟩ j=none:=hq
   rwa [aP _ _ e]at this
  obtain⟨b,vs',t',h1,h2,h3,h4,h5⟩:=h'.obl j cs' q hm hq'
  exact⟨b,vs',t',h1,h2,h3,dx hle h4,h5⟩
 ·intro j b q
  obtain⟨h1,es',n,ik,kvs,h2,h3,h4⟩:=h'.mpl j b q
  have hj:j≠k:=λe=>by
   rw[e]at h2;rw[hko]at h2
   injection h2 with h2;injection h2 with h2 _;cases h2
  exact⟨h1,es',n,ik,kvs,by rw[aP _ _ hj];exact h2,h3,h4⟩
 ·intro j b q
  have e:j≠k:=λe=>by rw[e]at q;have:=h.obr k b q;rw[hL0]at this;cases this
  show upd G.rv k _ j=none
  rw[aP _ _ e];exact h.obr j b q
 ·intro j L q
  rcases hrv j L q with⟨rfl,rfl⟩|⟨e',q⟩
  ·refine⟨e,es,xs,aG _ _ _,rfl,trivial,own_mono ho h.kp.size,hr,λb hb=>⟨λj' q'=>?_,λo u q'=>?_,λt L' q' hb'=>?_⟩⟩
   ·have:=hobl j' b q';have:=hnew b hb;omega
   ·have:=(h.fs b o u q').1;have:=hnew b hb;omega
   ·have:=hlvl t L' b q' hb';have:=hnew b hb;omega
  ·obtain⟨e2,es2,xs2,h1,h2,h3,h4,h5,h6⟩:=h'.rvl j L q
   exact⟨e2,es2,xs2,by rw[aP _ _ e'];exact h1,h2,h3,h4,h5,h6⟩
 ·intro j j' L L' b q q' h1 h2
  rcases hrv j L q with⟨e1,r1⟩|⟨e1,q1⟩<;>rcases hrv j' L' q' with⟨e2,r2⟩|⟨e2,q2⟩
  ·rw[e1,e2]
  ·subst r1
   obtain⟨_,_,_,_,_,_,h4,_⟩:=h.rvl j' L' q2
   have:=(h4.lt b h2).2;have:=hnew b h1;omega
  ·subst r2
   obtain⟨_,_,_,_,_,_,h4,_⟩:=h.rvl j L q1
   have:=(h4.lt b h1).2;have:=hnew b h2;omega
  ·exact h.rvi j j' L L' b q1 q2 h1 h2
def SpecR{P:Program}(_:Pg P)(f:FuncId)(args:List V)(e:TypeId)(es:List (List D)):Prop :=
 bG P f=true∧∀(w:World) (F:Nat→Nat→Value→Prop) (vs:List Value),(∀b o v,F b o v→b<w.heap.size∧w.cell? ⟨b,o,none⟩=some v)→jj w F→rels (gc F) args vs →
  Calls P f ⟨vs⟩ w λen w'=>∃v xs,en=.returned v∧Kp w w'∧w'.ownsRow w.heap.size e (P.cellsOf e) v es.length xs∧iP F (P.cellsOf e) es xs
section
variable {P : Program} {g : Pg P}
theorem SpecR.into{f:FuncId}{args args':List V}{e:TypeId}{es:List (List D)}{s:Sg}{R:V→Sg→Prop}(k:Nat){ver:Nat}(h:SpecR g f args' e es)(ha:args.map V.clean=args')(ho:s.obs[k]? = some [.rowc e ver []])(hR:R (.gr k (ver+1)) ⟨s.obs.set k [.rowc e (ver+1) es],s.lns⟩):aY g f args s R:=by
 subst ha
 refine⟨h.1,λw0 w G vs hH hr=>?_⟩
 have hrv:∃L,G.rv k=some L:=by
  cases hq:G.rv k with
  | some L=>exact⟨L,rfl⟩
  | none =>
   cases hm:G.mp k with
   | some b =>
    obtain⟨_,_,_,_,_,h2,_⟩:=hH.mpl k b hm
    have h2':s.obs[k]? = _:=h2
    rw[ho]at h2';injection h2' with h2';injection h2' with h2' _;cases h2'
   | none =>
    obtain⟨b,vs',t,_,_,_,h4,_⟩:=hH.obl k _ ho hm hq
    match vs',h4 with
    | [v],h4=>have:=(aW h4).1;cases this
    | [],h4=>have:=h4.1;simp at this
    | _::_::_,h4=>have:=h4.1;simp at this
 obtain⟨L0,hL0⟩:=hrv
 refine (h.2 w G.F vs hH.fs (hH.gb.kp hH.kp) ?_).mono ?_
 ·refine⟨by simp[hr.1],λi x v h1 h2=>?_⟩
  rw[List.getElem?_map]at h1
  cases hq:args[i]? with
  | none=>rw[hq]at h1;cases h1
  | some y=>rw[hq]at h1;simp at h1;subst h1;exact fI (hr.2 i y v hq h2) G.F (λ_ _ _ q=>q)
 ·rintro en w' ⟨v,xs,rfl,hk,ho2,hx⟩
  obtain⟨hle,hN⟩:=HRp.intoRow hH hk k ho hL0 ho2 hx
  rw[sg_set ho]at hN
  have hone:v.oneCell'=true:=by
   obtain⟨A,c,hv⟩:=fD ho2
   rw[hv];rfl
  have hN':HR P w0 w' { G with rv:=upd G.rv k ⟨ver+1,P.cellsOf e,v⟩ } ⟨s.obs.set k [.rowc e (ver+1) es],s.lns⟩:=hN
  exact⟨_,_,⟨s.obs.set k [.rowc e (ver+1) es],s.lns⟩,_,rfl,hle,hN',.gr _ _ _ hone _ (aG _ _ _) (.inl ⟨rfl,rfl⟩),hR⟩
theorem SWs.ghRow{c:Code}{Q:SQ}{fr:Fr}{s:Sg}(e:TypeId)(h:SWs g c Q fr ⟨s.obs++[[.rowc e 0 []]],s.lns⟩):SWs g c Q fr s:=by
 intro hdr w0 G0 G a w h0 hH hfr hd
 obtain⟨hle,hN⟩:=HRp.newRow hH (Kp.refl w) s.obs.length (by simp) (e:=e) (es:=[]) (v:=.slice none 0 0) (xs:=[]) (World.ownsRow_nil _ _ _ _) ⟨λi e h=>by simp at h,λi j e x h=>by simp at h⟩
 rw[sg_push]at hN
 exact h hdr w0 G0 _ a w (h0.trans hle) hN (gf hle hfr) hd
theorem Mir.ghRow{ε:Type}{m:Option ε}{Φ:ε→SQ}{c:Code}{fr:Fr}{s:Sg}(e:TypeId)(h:Mir g c fr ⟨s.obs++[[.rowc e 0 []]],s.lns⟩ m Φ):Mir g c fr s m Φ:=λx hx=>SWs.ghRow e (h x hx)
variable {ops : Array Oper} {K : Fr → Sg → Prop} {L : Array Bool} {fr : Fr} {s : Sg}
theorem regH.extB{j:Nat}{d:Tmp}{x:Operand}{i:Nat}{vs:List V}{y:V}{ty:TypeId}{p:String}{af:Array Edge}{gd:Option (Nat×Bool)}(hr:((Region.ready .any ops L).contains j,Region.free .any ops L j,Region.noSelect ops)=(true,true,true))(ho:ops.toList[j]? = some ⟨some d,.extract x i,ty,p,af,gd⟩)(hw:bf ops fr ⟨some d,.extract x i,ty,p,af,gd⟩=some true)
  (hx:aR fr x=.tuple vs) (hy:vs[i]? = some y) (h:regH g ops K (L.setIfInBounds j true) (putF fr (some d) y) s):regH g ops K L fr s:=by
 refine regH.firstF hr ho hw (λG a hfr=>?_) h
 have hrr:=aV hfr x
 rw[hx]at hrr
 obtain⟨u,hu⟩:∃u,a.eval x=u:=⟨_,rfl⟩
 rw[hu]at hrr
 cases hrr with
 | tuple _ us hl hrel =>
  have hlt:i<us.length:=by rw[←hl];exact ak hy
  exact⟨us[i],λw _=>by simp[execOp,hu,Instr.extract,hlt],hrel i y _ hy (List.getElem?_eq_getElem hlt)⟩
end
section
variable {P : Program} {g : Pg P} {ops : Array Oper} {K : Fr → Sg → Prop} {L : Array Bool} {fr : Fr} {s : Sg}
end
section
variable {P : Program} {g : Pg P} {fr : Fr} {s : Sg} {R : V → Sg → Prop} {d : Option Tmp} {t : TypeId} {ty : TypeId} {p : String} {af : Array Edge} {gd : Option (Nat × Bool)}
theorem rv_of{w0 w:World}{G:Cx}{k:Nat}{e:TypeId}{ver:Nat}{es:List (List D)}(hH:HR P w0 w G s)(ho:s.obs[k]? = some [.rowc e ver es]):∃L,G.rv k=some L:=by
 cases hq:G.rv k with
 | some L=>exact⟨L,rfl⟩
 | none =>
  cases hm:G.mp k with
  | some b =>
   obtain⟨_,_,_,_,_,h2,_⟩:=hH.mpl k b hm
   have h2':s.obs[k]? = _:=h2
   rw[ho]at h2';injection h2' with h2';injection h2' with h2' _;cases h2'
  | none =>
   obtain⟨b,vs',t,_,_,_,h4,_⟩:=hH.obl k _ ho hm hq
   match vs',h4 with
   | [v],h4=>have:=(aW h4).1;cases this
   | [],h4=>have:=h4.1;simp at this
   | _::_::_,h4=>have:=h4.1;simp at this
theorem alt_makeIntoR(k:Nat){ver:Nat}{l c:Operand}{kl kc:IntKind}{n:Int}{sz:Nat}{e:TypeId}{zs:List V}{zd:V}{ds:List D}(ho:s.obs[k]? = some [.rowc e ver []])(hl:aR fr l=.d (.int kl n))(hc:aR fr c=.d (.int kc n))(ht:appT P t=some (e,sz))(hz:cg P e=some zd)(hzs:zd.cells? = some zs)(hds:dz zs=some ds)(h0:0≤n)(hn:bo n.toNat=true)(h:R (.gr k (ver+1)) ⟨s.obs.set k [.rowc e (ver+1) (zA n.toNat ds)],s.lns⟩):altR g ⟨d,.makeSlice t l c,ty,p,af,gd⟩ fr s R:=by
 intro w0 w G a hH hfr
 obtain⟨i,z,hu,hi,hiz,z1,z2,z3,z4⟩:=appT_parts ht
 have hlv:=fE (hl▸aV hfr l)
 have hcv:=fE (hc▸aV hfr c)
 have hn':=ij hn
 have hbytes:(i.bytes:Int)*n≤281474976710656:=by
  have:i.bytes*n.toNat≤8000000*16777216:=Nat.mul_le_mul z4 hn'
  have e1:((i.bytes*n.toNat:Nat):Int)=(i.bytes:Int)*n:=by rw[Int.natCast_mul,Int.toNat_of_nonneg h0]
  omega
 have hrun:=run_make (P:=P) w t e i z hu hi hiz kl kc n n h0 (Int.le_refl _) hbytes (by omega)
 have hce:P.cellsOf e=sz:=by simp[Program.cellsOf,hi,z2]
 have hown:=World.ownsRow_lit (base:=w.heap.size) (e:=e) (size:=sz) w (madeCells z.cells (n.toNat*i.size)) n.toNat (Nat.le_refl _) (by unfold maxLen;omega) (by rw[size_madeCells,z2])
 obtain⟨zv,y1,y2,_⟩:=kw hz G w
 have hzv:zv=z:=by
  have:(zeroValue e).run P w=.ok z w:=by simp[zeroValue,typeInfo,hi,hiz]
  rw[this]at y1;injection y1 with y1;exact y1.symm
 subst hzv
 obtain⟨d1,d2⟩:=gN (eB y2 hzs) hds
 have hdl:ds.length=sz:=by rw[d1];simpa using z1
 have hrow:iP G.F sz (zA n.toNat ds) (madeCells zv.cells (n.toNat*i.size)).toList:=by
  refine⟨λj c hj=>?_,λj q c x hj hx=>?_⟩
  ·rw[List.getElem?_replicate]at hj
   split at hj
   ·injection hj with hj;rw[←hj];exact hdl
   ·cases hj
  ·rw[List.getElem?_replicate]at hj
   split at hj
   ·rename_i hjn
    injection hj with hj;subst hj
    have hq:=ak hx
    have hin:j*sz+q<n.toNat*i.size:=by
     have:(j+1)*sz≤n.toNat*sz:=Nat.mul_le_mul_right _ (by omega)
     rw[Nat.add_mul,Nat.one_mul]at this;rw[z2];omega
    refine⟨_,made_at _ _ _ hin,?_⟩
    have hm:(j*sz+q) % zv.cells.size=q:=by rw[z1,Nat.mul_comm,Nat.mul_add_mod,Nat.mod_eq_of_lt (by omega)]
    rw[hm]
    refine d2 q x _ hx ?_
    have:q<zv.cells.size:=by omega
    rw[List.getElem?_eq_getElem (by simpa using this)]
    simp[this]
   ·cases hj
 obtain⟨L0,hL0⟩:=rv_of hH ho
 obtain⟨hle,hN⟩:=HRp.intoRow (w':=w.alloc (.cells (madeCells zv.cells (n.toNat*i.size)) e)) hH ((Kp.refl w).alloc _) k ho hL0 (es:=zA n.toNat ds) (v:=.slice (some ⟨w.heap.size,0,none⟩) n.toNat n.toNat) (xs:=(madeCells zv.cells (n.toNat*i.size)).toList) (by rw[List.length_replicate,hce];exact hown) (by rw[hce];exact hrow)
 rw[sg_set ho]at hN
 have hN':HR P w0 (w.alloc (.cells (madeCells zv.cells (n.toNat*i.size)) e)) { G with rv:=upd G.rv k ⟨ver+1,P.cellsOf e,.slice (some ⟨w.heap.size,0,none⟩) n.toNat n.toNat⟩ } ⟨s.obs.set k [.rowc e (ver+1) (zA n.toNat ds)],s.lns⟩:=hN
 refine⟨.value (.slice (some ⟨w.heap.size,0,none⟩) n.toNat n.toNat),_,.gr k (ver+1),⟨s.obs.set k [.rowc e (ver+1) (zA n.toNat ds)],s.lns⟩,{ G with rv:=upd G.rv k ⟨ver+1,P.cellsOf e,.slice (some ⟨w.heap.size,0,none⟩) n.toNat n.toNat⟩ },?_,.inl ⟨_,rfl,.gr _ _ _ rfl _ (aG _ _ _) (.inl ⟨rfl,rfl⟩)⟩,hle,hN',h⟩
 simp only[execOp,hlv,hcv,Sem.run_bind,hrun,Result.andThen_ok,Sem.run_pure]
theorem ba{α:Type}{en:α→List D}{z:α}(k:Nat){ver:Nat}{l c:Operand}{kl kc:IntKind}{n:Int}{sz:Nat}{e:TypeId}{zs:List V}{zd:V}(ho:s.obs[k]? = some [.rowc e ver []])(hl:aR fr l=.d (.int kl n))(hc:aR fr c=.d (.int kc n))(ht:appT P t=some (e,sz))(hz:cg P e=some zd)(hzs:zd.cells? = some zs)(hds:dz zs=some (en z))(h0:0≤n)(hn:bo n.toNat=true)(h:R (.gr k (ver+1)) ⟨s.obs.set k [.rowc e (ver+1) (List.map en (zA n.toNat z))],s.lns⟩):altR g ⟨d,.makeSlice t l c,ty,p,af,gd⟩ fr s R:=by
 refine alt_makeIntoR k ho hl hc ht hz hzs hds h0 hn ?_
 rw[List.map_replicate]at h
 exact h
end
section
variable {α : Type} {L : List α} {x y : α}
theorem sy_at:(L++[x])[L.length]? = some x:=by simp
theorem sy_lt:(L.length<(L++[x]).length)=True:=by simp
theorem sy_l2{n:Nat}:(n<n+1)=True:=by simp
theorem sy_set:(L++[x]).set L.length y=L++[y]:=by simp
theorem sy_tk:(L++[x]=zD (L.length+1) (L++[y]))=(x=y):=by
 rw[zB (by simp)];simp
theorem sy_tn:(L++[x]=zD (L++[x]).length (L++[y]))=(x=y):=by
 rw[zB (by simp)];simp
theorem sy_t0:(L=zD L.length (L++[y]))=True:=by simp
theorem sy_t1:(L=zD L.length L)=True:=by simp
end
theorem lh{n m:Nat}:∀{a b:List V},V.unders n m (a++b)=(V.unders n m a&&V.unders n m b)
 | [],b=>by simp[V.unders]
 | x::a,b=>by simp[V.unders,lh (a:=a),Bool.and_assoc]
theorem lg{n m:Nat}:∀{k:Nat},V.unders n m (us k)=true
 | 0=>rfl
 | k+1=>by rw[us_s];simp[V.unders,V.under,lg (k:=k)]
section
variable {P : Program} {g : Pg P} {fr : Fr} {s : Sg} {ε ν : Type} {Φ : ε → SQ} {m : Option ε}
def SWl{P:Program}(g:Pg P):List Code→SQ→Fr→Sg→Prop
 | [],Q=>Q .normal
 | x::r,Q=>SWs g x (seqQ (SWl g r Q) Q)
def seqs:List Code→Code→Code
 | [],z=>z
 | x::r,z=>.seq x (seqs r z)
def unseq:Nat→Code→List Code×Code
 | k+1,.seq x y=>(x::(unseq k y).1,(unseq k y).2)
 | _,c=>([],c)
theorem seqs_unseq:∀(k:Nat) (c:Code),seqs (unseq k c).1 (unseq k c).2=c:=by
 intro k
 induction k with
 | zero=>intro c;unfold unseq;rfl
 | succ k ih =>
  intro c
  unfold unseq
  split
  ·rename_i k' x y e
   have:k'=k:=by omega
   subst this
   simp only[seqs,ih]
  ·rfl
theorem SWl_run{z:Code}{Q:SQ}{R:Exit→Act→World→Prop}:∀{xs:List Code} {fr:Fr} {s:Sg},SWl g xs Q fr s→bP (seqs xs z)=true→∀{w0:World} {G0 G:Cx} {a:Act} {w:World},G0.le G→HR P w0 w G s→FR G fr a→a.defers=[] →
  (∀e a w,e≠.normal→lift g w0 G0 Q e a w→R e a w)→(∀a w,lift g w0 G0 Q .normal a w→z.wp P R a w)→(seqs xs z).wp P R a w
 | [],fr,s,h,_,w0,G0,G,a,w,h0,hH,hfr,hd,_,k2=>k2 a w ⟨G,fr,s,h0,hH,hfr,hd,h⟩
 | x::r,fr,s,h,hdr,w0,G0,G,a,w,h0,hH,hfr,hd,k1,k2=>by
  have hdr':(bP x&&bP (seqs r z))=true:=by simpa only [seqs,bP] using hdr
  simp only[Bool.and_eq_true]at hdr'
  refine wp_seq (Code.wp_mono ?_ (h hdr'.1 w0 G0 G a w h0 hH hfr hd))
  rintro e a w ⟨G',fr',s',q1,q2,q3,q4,q5⟩
  cases e with
  | normal=>exact SWl_run q5 hdr'.2 q1 q2 q3 q4 k1 k2
  | _=>exact k1 _ a w (by intro q;cases q) ⟨G',fr',s',q1,q2,q3,q4,q5⟩
def MirL{P:Program}(g:Pg P)(xs:List Code)(fr:Fr)(s:Sg){ε:Type}(m:Option ε)(Φ:ε→SQ):Prop:=∀e,m=some e→SWl g xs (Φ e) fr s
def kL{P:Program}(g:Pg P)(r:List Code)(Φ:ε→SQ)(e:ε):SQ:=seqQ (SWl g r (Φ e)) (Φ e)
theorem MirL.cons{x:Code}{r:List Code}(h:Mir g x fr s m (kL g r Φ)):MirL g (x::r) fr s m Φ:=h
theorem MirL.use{r:List Code}{e:ε}(h:MirL g r fr s m Φ)(hm:m=some e):kL g r Φ e .normal fr s:=h e hm
theorem MirL.toK{r:List Code}(h:MirL g r fr s m Φ):∀e,m=some e→kL g r Φ e .normal fr s:=h
theorem kl_n{e:ε}:kL g [] Φ e .normal fr s=Φ e .normal fr s:=nr rfl
theorem kl_r{r:List Code}{e:ε}:kL g r Φ e .ret fr s=Φ e .ret fr s:=nr rfl
theorem kl_e{r:List Code}{e:ε}{j:Nat}:kL g r Φ e (.exit j) fr s=Φ e (.exit j) fr s:=nr rfl
theorem Mir.joinL{c z:Code}{xs:List Code}(k:Nat)(F:ν→Fr)(S:ν→Sg){m1:Option (Ex ε ν)}{f:ν→Option ε}(hc:unseq k c=(xs,z))(ho:∀v,okF s (F v) (S v)=true)
  (hx:MirL g xs fr s m1 (JQ F S Φ)) (hy:∀v,Mir g z (F v) (S v) (f v) Φ):Mir g c fr s (bindX m1 f) Φ:=by
 intro e he hdr w0 G0 G a w h0 hH hfr hd
 have hcc:=seqs_unseq k c
 rw[hc]at hcc
 simp only at hcc
 subst hcc
 have hz:bP z=true:=by
  clear hx hc
  induction xs with
  | nil=>exact hdr
  | cons x r ih =>
   have hdr':(bP x&&bP (seqs r z))=true:=by simpa only [seqs,bP] using hdr
   simp only[Bool.and_eq_true]at hdr'
   exact ih hdr'.2
 cases m1 with
 | none=>cases he
 | some q =>
  cases q with
  | ret r =>
   have:r=e:=Option.some.inj he
   subst this
   refine SWl_run (hx _ rfl) hdr h0 hH hfr hd ?_ ?_
   ·rintro x a w hx2 ⟨G',fr',s',q1,q2,q3,q4,q5⟩
    cases x with
    | normal=>exact absurd rfl hx2
    | _=>exact⟨G',fr',s',q1,q2,q3,q4,q5⟩
   ·rintro a w ⟨G',fr',s',q1,q2,q3,q4,q5⟩
    exact q5.elim
  | go v =>
   obtain⟨o1,o2,o3,o4⟩:=okF_ok (ho v)
   refine SWl_run (hx _ rfl) hdr (Cx.le.refl G) hH hfr hd ?_ ?_
   ·rintro x a w hx2 ⟨G',fr',s',q1,q2,q3,q4,q5⟩
    exact absurd q5.1 hx2
   ·rintro a w ⟨G',fr',s',q1,q2,q3,q4,_,q5,q6⟩
    exact hy v e he hz w0 G0 _ a w (h0.trans (lQ hH q1 o3 o4)) (HR_le q2 q6 o2) (FR_unders (FR_le q3 q5) o1) q4
theorem Mir.joinL2{x y z:Code}(F:ν→Fr)(S:ν→Sg){m1:Option (Ex ε ν)}{f:ν→Option ε}(ho:∀v,okF s (F v) (S v)=true)(hx:MirL g [x,y] fr s m1 (JQ F S Φ))(hy:∀v,Mir g z (F v) (S v) (f v) Φ):Mir g (.seq x (.seq y z)) fr s (bindX m1 f) Φ:=Mir.joinL 2 F S rfl ho hx hy
theorem Mir.joinL3{x y u z:Code}(F:ν→Fr)(S:ν→Sg){m1:Option (Ex ε ν)}{f:ν→Option ε}(ho:∀v,okF s (F v) (S v)=true)(hx:MirL g [x,y,u] fr s m1 (JQ F S Φ))(hy:∀v,Mir g z (F v) (S v) (f v) Φ):Mir g (.seq x (.seq y (.seq u z))) fr s (bindX m1 f) Φ:=Mir.joinL 3 F S rfl ho hx hy
end
open Go.RowKit Go.Lib
set_option maxHeartbeats 4000000 in
set_option maxRecDepth 100000 in
theorem grow_nil(w:World)(n:Nat)(hn:n≤16777216):Calls Tryz.prog 162 #[.slice none 0 0,.int .i64 n] w λe w'=>∃v,e=.returned v∧Kp w w'∧w'.ownsRow w.heap.size 87 3 v 0 []:=by
 obtain⟨i0,hi0,hz0⟩:∃i0,Tryz.prog.info? 87=some i0∧(i0.size=3∧i0.zero=some (.agg #[.bool false,.slice none 0 0,.string ⟨#[]⟩])∧i0.bytes=48):=⟨_,rfl,by kernel_rfl,by kernel_rfl,by kernel_rfl⟩
 have hw0:IntKind.i64.wrap (n:Int)=(n:Int):=by rw[IntKind.wrap_i64];omega
 by_cases h0:n=0
 ·subst h0
  go_enter Tryz.func162,Tryz.ntmps162
  go_wp2
  go_ret
  exact⟨_,rfl,Kp.refl _,World.ownsRow_nil _ _ _ _⟩
 ·obtain⟨G,hG⟩:∃G,G=grownCap w n 0 87:=⟨_,rfl⟩
  have hGn:n≤G:=by rw[hG];exact grownCap_ge w _ _ _
  have hGm:G≤maxLen:=by rw[hG];exact grownCap_le_maxLen w n 0 87 (by unfold maxLen;omega)
  obtain⟨Z,hZ,hZl⟩:∃Z:Array Value,(∀ty,(Builtin.append_ #[31,3] ty #[.slice none 0 0,.int .i64 (n:Int)]).run Tryz.prog w=.ok (.slice (some ⟨w.heap.size,0,none⟩) n G) (w.drew.alloc (.cells Z 87)))∧Z.size=G*3:=by
   have h:=λty=>Lib.run_append_grow_zeros (P:=Tryz.prog) w 31 3 ty 87 i0 _ .i64 .i64 Tryz.underlying31 Tryz.underlying3 hi0 hz0.2.1 none 0 0 [] (by simp[Builtin.firstCells]) n (by omega) (by rw[hz0.1];omega) (by omega) (by omega) (by rw[hz0.2.2];omega) (by rw[hz0.2.2];exact growslice_fits (by omega) (by omega))
   simp only[Nat.zero_add,←hG]at h
   refine⟨_,h,?_⟩
   simp[Builtin.zeroCells,Value.cells]
   omega
  clear hG
  have hpos:(0:Int)<(n:Int):=by omega
  have hneg:¬((n:Int)<0):=by omega
  go_enter Tryz.func162,Tryz.ntmps162
  go_wp2_with (at_builtin;refine Lib.wpList_append_run _ rfl _ _ _ _ rfl _ _ rfl rfl _ _ (hZ _) ?_)
  all_goals (go_ret;exact⟨_,rfl,(Kp.refl w).drew.alloc _,⟨by simp,.inr ⟨_,G,Z,rfl,Nat.le_refl _,heap_alloc_new w _,by omega,hGm,hZl,by simp⟩⟩⟩)
theorem grow_S{s:Sg}{R:V→Sg→Prop}{n:Int}(h:decide (0≤n∧n≤16777216)=true)(hR:R (.own s.lns.length []) ⟨s.obs,s.lns++[(87,0)]⟩):aY gP 162 [.nil,.d (.int .i64 n)] s R:=by
 have h:=oj h
 obtain⟨k,rfl⟩:∃k:Nat,n=(k:Int):=⟨n.toNat,by omega⟩
 refine⟨by kernel_rfl,λw0 w G vs hH hr=>?_⟩
 match vs,hr with
 | [u,v],hr =>
  obtain⟨r1,r2⟩:=aW hr
  obtain⟨r2,_⟩:=aW r2
  have hv:=fE r2
  subst hv
  cases r1 with
  | nil =>
   refine (grow_nil w k (by omega)).mono ?_
   rintro en w' ⟨v,rfl,hk,ho⟩
   have hc:Tryz.prog.cellsOf 87=3:=by kernel_rfl
   obtain⟨A,c,rfl⟩:=fD ho
   rw[←hc]at ho
   obtain⟨hle,hN⟩:=HRp.beginRowP hH hk s.lns.length (by simp) 87 ho
   rw[lns_push]at hN
   exact⟨_,.own s.lns.length [],⟨s.obs,s.lns++[(87,0)]⟩,_,rfl,hle,hN,.own _ [] _ (.nil _ _) ⟨0,Tryz.prog.cellsOf 87,.slice A 0 c⟩ (aG _ _ _) (λi c q=>by simp at q) (.inl ⟨rfl,rfl⟩),hR⟩
 | [],hr=>have:=hr.1;simp at this
 | [_],hr=>have:=hr.1;simp at this
 | _::_::_::_,hr=>have:=hr.1;simp at this
end Go.Proofs.YtjemmjpdmbenkaaGreatDoor
