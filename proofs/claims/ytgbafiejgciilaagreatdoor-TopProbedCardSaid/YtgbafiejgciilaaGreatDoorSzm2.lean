/-
  Szm, Ct in one text.
-/
import Derived.Test.YtgbafiejgciilaaGreatDoorSzk
import Derived.Test.YtgbafiejgciilaaGreatDoorTy
namespace Go.Proofs.YtgbafiejgciilaaGreatDoor
open Go.RowKit
set_option linter.unusedVariables false
set_option linter.unusedSimpArgs false
theorem rel_unbare{G:Cx}{N:Nat→Nat→Value→Prop}{x:V}{u:Value}(q:rel (bareG λb o u=>G.F b o u∨N b o u) x u):rel (G.withF N) x u:=by
 induction q with
 | undef v=>exact .undef v
 | d q=>exact .d q
 | agg cs vs hl _ ih=>exact .agg cs vs hl ih
 | tuple cs vs hl _ ih=>exact .tuple cs vs hl ih
 | ptr k off b q=>cases q
 | iptr cs off b o u q1 q2=>exact .iptr cs off b o u q1 q2
 | own t es v q L hL _ _=>cases hL
 | full es A q=>exact .full es A q
 | nil=>exact .nil
 | skip=>exact .skip
 | sl k off len cap b q=>cases q
 | mp k b q=>cases q
 | gr k n v h1 L hL=>cases hL
 | gp k n i off v h1 L hL=>cases hL
 | adr k v b q=>cases q
 | gs k n off len v h1 L hL=>cases hL
 | fn f cs vs hl _ ih=>exact .fn f cs vs hl ih
def US(b:Nat)(vs:List Value)(G:Cx)(w:World):Prop:=FxS G w∧∀(j:Nat) v,vs[j]? = some v→w.cell? ⟨b,j,none⟩=some v
theorem US.mono{b:Nat}{vs:List Value}{G G':Cx}{w:World}(h:G.le G')(q:US b vs G' w):US b vs G w:=⟨λb o v z=>q.1 b o v (h.F _ _ _ z),q.2⟩
theorem kp_cell{w w':World}(h:Kp w w'){b o:Nat}{v:Value}(q:w.cell? ⟨b,o,none⟩=some v):w'.cell? ⟨b,o,none⟩=some v:=by
 rw[h.see.1 b o (lg q)];exact q
def regK{P:Program}(g:Pg P)(ops:Array Oper)(o:Oper)(fr:Fr)(s:Sg)(X:Fr→Sg→Prop):Prop :=
 ∀(w0:World) (G:Cx) (a:Act) (w:World) (Q:Exit→Act→World→Prop),(∀a w' G' fr' s',G.le G'→HR P w0 w' G' s'→FR G' fr' a→a.defers=[]→Kp w w'→X fr' s'→Q .normal a w')→HR P w0 w G s→FR G fr a→a.defers=[]→wpList P ops Q [o] a w
def regU{P:Program}(g:Pg P)(ops:Array Oper)(K:Fr→Sg→Prop)(k:Nat)(cs:List V)(L:Array Bool)(fr:Fr)(s:Sg):Prop :=
 L.size=ops.size→∀f,cnt L ops.size≤f→∀(w0:World) (G0 G:Cx) (a:Act) (w:World) (Q:Exit→Act→World→Prop) (b:Nat) (vs:List Value),(∀a w,Post g w0 G0 K a w→Q .normal a w)→G0.le G→HR P w0 w G s→FR G fr a→a.defers=[]→G.ob k=some b→rels G cs vs→(∀(j:Nat) v,vs[j]? = some v→w.cell? ⟨b,j,none⟩=some v)→wpAnyH P .any ops Q (US b vs G) f L a w
section
variable {P : Program} {g : Pg P} {ops : Array Oper} {K : Fr → Sg → Prop} {k : Nat} {cs : List V} {L : Array Bool} {fr : Fr} {s : Sg}
theorem regU.toA{i off:Nat}(hk:s.obs[k]? = some cs)(hp:evalO fr (.tmp i)=.ptr k off)(h:regU g ops K k cs L fr s):regA g ops K L fr s:=λhL f hf w0 G0 G a w Q hQ h0 hH hfr hd=>by
 obtain⟨b,h1,_⟩:=fj (hp▸ay hfr (.tmp i))
 obtain⟨b',vs,t,g1,g2,g3,g4,g5⟩:=hH.obl k _ hk (hH.obm k b h1) (hH.obr k b h1)
 rw[h1]at g1;injection g1 with g1;subst g1
 exact wpAny_of_held _ _ _ _ (h hL f hf w0 G0 G a w Q b vs hQ h0 hH hfr hd h1 g4 (λj v hj=>by simp[World.cell?,g3,hj]))
theorem regU.nil(hr:Region.ready .any ops L=[])(h:K fr s):regU g ops K k cs L fr s :=
 λ_ f _ w0 G0 G a w Q b vs hQ h0 hH hfr hd _ _ _=>wpAnyH_done hr (hQ _ _ ⟨G,fr,s,h0,hH,hfr,hd,h⟩) f
theorem regU.step{R:List Nat}(hr:Region.ready .any ops L=R)(hne:R≠[])(h:∀j∈R,∃o,ops.toList[j]? = some o∧regK g ops o fr s (λfr' s'=>regU g ops K k cs (L.setIfInBounds j true) fr' s')):regU g ops K k cs L fr s:=by
  subst hr
  intro hL f hf w0 G0 G a w Q b vs hQ h0 hH hfr hd hob hrs hcs
  have hlis:∀j∈Region.ready .any ops L,j<L.size∧L.getD j false=false:=by
    intro j hj
    obtain⟨h1,o,ho,_⟩:=mem_ready.1 hj
    have hlt:j<L.size:=by have:=c9 ho;omega
    refine⟨hlt,?_⟩
    rw[Array.getD_eq_getD_getElem?,Array.getElem?_eq_getElem hlt]at h1 ⊢
    exact h1
  have hpos:0<cnt L ops.size:=by
    obtain⟨j,hj⟩:=List.exists_mem_of_ne_nil _ hne
    obtain⟨h1,h2⟩:=hlis j hj
    rcases Nat.eq_zero_or_pos (cnt L ops.size)with z | z
    · have:=ka L _ z j (by omega)
      rw[h2]at this;cases this
    · exact z
  obtain⟨f,rfl⟩:∃q,f=q+1:=⟨f-1,by omega⟩
  refine⟨λhe=>absurd he hne,λi hi=>?_⟩
  obtain⟨o,ho,hw⟩:=h i hi
  obtain⟨b1,b2⟩:=hlis i hi
  have hcnt:=(gk L i b1 b2 ops.size).1 (by omega)
  have hl:=hw w0 G a w (λe a w=>e=.normal∧(US b vs G w∧wpAnyH P .any ops Q (US b vs G) f (L.setIfInBounds i true) a w)) (λa w' G' fr' s' q1 q2 q3 q4 q5 q6=>by
    have hc':∀(j:Nat) v,vs[j]? = some v→w'.cell? ⟨b,j,none⟩=some v:=λj v hj=>kp_cell q5 (hcs j v hj)
    refine⟨rfl,⟨λb o v q=>(q2.fs b o v (q1.F _ _ _ q)).2,hc'⟩,?_⟩
    exact ix (S':=US b vs G') (λw h=>US.mono q1 h) _ _ _ _ (q6 (by simpa using hL) f (by omega) w0 G0 G' a w' Q b vs hQ (h0.trans q1) q2 q3 q4 (q1.ob _ _ hob) (cm q1 hrs) hc')) hH hfr hd
  unfold wpList at hl
  unfold wpOp
  rw[show ops[i]? = some o by simpa using ho]
  simp only at hl ⊢
  split
  · rename_i hw'
    rw[if_pos hw']at hl
    exact kJ (λe a w he q=>he q.1) (λa w q=>q.2) hl
  · rename_i hw'
    rw[if_neg hw']at hl
    exact hl.2
theorem regU.one{j:Nat}{o:Oper}(hr:Region.ready .any ops L=[j])(ho:ops.toList[j]? = some o)(h:regK g ops o fr s (λfr' s'=>regU g ops K k cs (L.setIfInBounds j true) fr' s')):regU g ops K k cs L fr s :=
 regU.step hr (by simp) (λi hi=>by simp at hi;subst hi;exact⟨o,ho,h⟩)
theorem regU.two{j i:Nat}{o p:Oper}(hr:Region.ready .any ops L=[j,i])(ho:ops.toList[j]? = some o)(hp:ops.toList[i]? = some p)(h:regK g ops o fr s (λfr' s'=>regU g ops K k cs (L.setIfInBounds j true) fr' s'))(h2:regK g ops p fr s (λfr' s'=>regU g ops K k cs (L.setIfInBounds i true) fr' s')):regU g ops K k cs L fr s :=
 regU.step hr (by simp) (λz hz=>by
  simp at hz
  rcases hz with rfl | rfl
  ·exact⟨o,ho,h⟩
  ·exact⟨p,hp,h2⟩)
theorem regU.first{j:Nat}{o:Oper}{y:V}(hr:((Region.ready .any ops L).contains j,Region.free .any ops L j,Region.noSelect ops)=(true,true,true))(ho:ops.toList[j]? = some o)(hw:aK ops fr o=some true)
  (hst:∀G a b vs,FR G fr a→G.ob k=some b→rels G cs vs→∃v,(∀w,US b vs G w→(execOp a.eval o).run P w=.ok (.value v) w)∧rel G y v) (h:regU g ops K k cs (L.setIfInBounds j true) (putF fr o.dst y) s):regU g ops K k cs L fr s:=by
 intro hL f hf w0 G0 G a w Q b vs hQ h0 hH hfr hdf hob hrs hcs
 injection hr with hr1 hr2
 injection hr2 with hr2 hr3
 have hj:j∈Region.ready .any ops L:=by simpa using hr1
 obtain⟨h1,o',ho',_⟩:=mem_ready.1 hj
 have hlt:j<L.size:=by have:=c9 ho';omega
 have hun:L.getD j false=false:=by
  rw[Array.getD_eq_getD_getElem?,Array.getElem?_eq_getElem hlt]at h1 ⊢
  exact h1
 have ho2:ops[j]? = some o:=by simpa using ho
 have hcnt:=(gk L j hlt hun ops.size).1 (by omega)
 obtain⟨f,rfl⟩:∃q,f=q+1:=⟨f-1,by omega⟩
 obtain⟨v,hv,hrel⟩:=hst G a b vs hfr hob hrs
 have hY:YieldsIf P ops (US b vs G) o v a:=.inl ⟨bZ hfr hw,hv⟩
 have hS:US b vs G w:=⟨λb o v q=>(hH.fs b o v q).2,hcs⟩
 refine dv _ _ _ _ (wpAnyH_first (Q:=λe a w=>e=.normal∧Q .normal a w) ho2 (Region.noSelect_spec hr3) (λc a w q=>by cases q.1) f L a w (Region.free_spec ho2 hr2) hj hY hS ?_)
 exact h (by simpa using hL) f (by omega) w0 G0 G _ w _ b vs (λa w q=>⟨rfl,hQ a w q⟩) h0 hH (df hfr hrel o.dst) (by rw[aY];exact hdf) hob hrs hcs
theorem regU.moveB{j:Nat}{d:Tmp}{x:Operand}{ty:TypeId}{p:String}{af:Array Edge}{gd:Option (Nat×Bool)}(hr:((Region.ready .any ops L).contains j,Region.free .any ops L j,Region.noSelect ops)=(true,true,true))(ho:ops.toList[j]? = some ⟨some d,.move x,ty,p,af,gd⟩)(hw:aK ops fr ⟨some d,.move x,ty,p,af,gd⟩=some true)
  (h:regU g ops K k cs (L.setIfInBounds j true) (putF fr (some d) (evalO fr x)) s):regU g ops K k cs L fr s :=
 regU.first hr ho hw (λG a b vs hfr _ _=>⟨a.eval x,λw _=>by simp[execOp],ay hfr x⟩) h
theorem regU.assignB{j:Nat}{d:Tmp}{x:Operand}{ty:TypeId}{p:String}{af:Array Edge}{gd:Option (Nat×Bool)}(hr:((Region.ready .any ops L).contains j,Region.free .any ops L j,Region.noSelect ops)=(true,true,true))(ho:ops.toList[j]? = some ⟨some d,.assign x,ty,p,af,gd⟩)(hw:aK ops fr ⟨some d,.assign x,ty,p,af,gd⟩=some true)
  (h:regU g ops K k cs (L.setIfInBounds j true) (putF fr (some d) (evalO fr x)) s):regU g ops K k cs L fr s :=
 regU.first hr ho hw (λG a b vs hfr _ _=>⟨a.eval x,λw _=>by simp[execOp],ay hfr x⟩) h
theorem regU.nilB{j:Nat}{d:Tmp}{x:Operand}{i off:Nat}{ty:TypeId}{p:String}{af:Array Edge}{gd:Option (Nat×Bool)}(hr:((Region.ready .any ops L).contains j,Region.free .any ops L j,Region.noSelect ops)=(true,true,true))(ho:ops.toList[j]? = some ⟨some d,.nilCheck x,ty,p,af,gd⟩)(hw:aK ops fr ⟨some d,.nilCheck x,ty,p,af,gd⟩=some true)
  (hx:evalO fr x=.ptr i off) (h:regU g ops K k cs (L.setIfInBounds j true) (putF fr (some d) (.ptr i off)) s):regU g ops K k cs L fr s:=by
 refine regU.first hr ho hw (λG a b vs hfr _ _=>?_) h
 obtain⟨b,h1,h2⟩:=fj (hx▸ay hfr x)
 exact⟨_,λw _=>by simp[execOp,Instr.sureAddr,h2],.ptr i off b h1⟩
theorem regU.fieldB{j:Nat}{d:Tmp}{t:TypeId}{x:Operand}{i:Nat}{y:V}{ty:TypeId}{p:String}{af:Array Edge}{gd:Option (Nat×Bool)}(hr:((Region.ready .any ops L).contains j,Region.free .any ops L j,Region.noSelect ops)=(true,true,true))(ho:ops.toList[j]? = some ⟨some d,.fieldAddr t x i,ty,p,af,gd⟩)(hw:aK ops fr ⟨some d,.fieldAddr t x i,ty,p,af,gd⟩=some true)
  (hp:da P t (evalO fr x) i=some y) (h:regU g ops K k cs (L.setIfInBounds j true) (putF fr (some d) y) s):regU g ops K k cs L fr s:=by
 refine regU.first hr ho hw (λG a b vs hfr _ _=>?_) h
 obtain⟨u,h1,h2⟩:=kI (P:=P) (ay hfr x) hp
 exact⟨u,λw _=>by simp[execOp,h1 w],h2⟩
theorem regU.extB{j:Nat}{d:Tmp}{x:Operand}{i:Nat}{us:List V}{y:V}{ty:TypeId}{p:String}{af:Array Edge}{gd:Option (Nat×Bool)}(hr:((Region.ready .any ops L).contains j,Region.free .any ops L j,Region.noSelect ops)=(true,true,true))(ho:ops.toList[j]? = some ⟨some d,.extract x i,ty,p,af,gd⟩)(hw:aK ops fr ⟨some d,.extract x i,ty,p,af,gd⟩=some true)
  (hx:evalO fr x=.tuple us) (hy:us[i]? = some y) (h:regU g ops K k cs (L.setIfInBounds j true) (putF fr (some d) y) s):regU g ops K k cs L fr s:=by
 refine regU.first hr ho hw (λG a b vs hfr _ _=>?_) h
 have hrr:=ay hfr x
 rw[hx]at hrr
 obtain⟨u,hu⟩:∃u,a.eval x=u:=⟨_,rfl⟩
 rw[hu]at hrr
 cases hrr with
 | tuple _ us hl hrel =>
  have hlt:i<us.length:=by rw[←hl];exact ao hy
  exact⟨us[i],λw _=>by simp[execOp,hu,Instr.extract,hlt],hrel i y _ hy (List.getElem?_eq_getElem hlt)⟩
theorem regU.loadB{j:Nat}{d:Tmp}{t:TypeId}{x:Operand}{off:Nat}{y:V}{ty:TypeId}{p:String}{af:Array Edge}{gd:Option (Nat×Bool)}(hr:((Region.ready .any ops L).contains j,Region.free .any ops L j,Region.noSelect ops)=(true,true,true))(ho:ops.toList[j]? = some ⟨some d,.load t x,ty,p,af,gd⟩)(hw:aK ops fr ⟨some d,.load t x,ty,p,af,gd⟩=some true)
  (hx:evalO fr x=.ptr k off) (hp:partV P t cs off=some y) (h:regU g ops K k cs (L.setIfInBounds j true) (putF fr (some d) y) s):regU g ops K k cs L fr s:=by
 refine regU.first hr ho hw (λG a b vs hfr hob hrs=>?_) h
 obtain⟨b',h1,h2⟩:=fj (hx▸ay hfr x)
 rw[hob]at h1;injection h1 with h1;subst h1
 obtain⟨v,h3,h4⟩:=loadF_unif (P:=P) (b:=b) (o:=0) hp hrs
 refine⟨v,λw hS=>?_,h4⟩
 have:=h3 w (λj v hj=>by rw[Nat.zero_add];exact hS.2 j v hj)
 rw[Nat.zero_add]at this
 simp only[execOp,Instr.loadAt,h2,Instr.sureAddr,Sem.run_bind,Sem.run_pure,Result.andThen_ok,this]
theorem regU.loadI {j : Nat} {d : Tmp} {t : TypeId} {x : Operand} {ds : List D} {off : Nat} {y : V} {ty : TypeId} {p : String} {af : Array Edge} {gd : Option (Nat × Bool)} (hr : ((Region.ready .any ops L).contains j, Region.free .any ops L j, Region.noSelect ops) = (true, true, true)) (ho : ops.toList[j]? = some ⟨some d, .load t x, ty, p, af, gd⟩) (hw : aK ops fr ⟨some d, .load t x, ty, p, af, gd⟩ = some true)
    (hx:evalO fr x=.iptr ds off) (hp:partV P t (dq ds) off=some y) (h:regU g ops K k cs (L.setIfInBounds j true) (putF fr (some d) y) s):regU g ops K k cs L fr s:=by
  refine regU.first hr ho hw (λG a b vs hfr hob hrs=>?_) h
  obtain⟨b,o,u,hv,hF,hrr⟩:=inv_iptr (hx▸ay hfr x)
  obtain⟨v,h1,h2⟩:=loadF_unif (P:=P) (b:=b) (o:=o) hp (ii (G:=G) (u:=u) hrr)
  refine⟨v,λw hS=>?_,h2⟩
  have:=h1 w (λj v hj=>by
    rw[List.getElem?_map]at hj
    cases hc:ds[j]? with
    | none =>
      rw[List.getElem?_eq_none (by rw[List.length_range];exact List.getElem?_eq_none_iff.1 hc)]at hj
      cases hj
    | some z =>
      rw[List.getElem?_range (ao hc)]at hj
      simp at hj;subst hj
      exact hS.1 _ _ _ (hF j z hc))
  simp only[execOp,Instr.loadAt,hv,Instr.sureAddr,Sem.run_bind,Sem.run_pure,Result.andThen_ok,this]
theorem regU.indexB{j:Nat}{d:Tmp}{t e:TypeId}{x i:Operand}{ik:IntKind}{n:Int}{sz:Nat}{es:List (List D)}{c:List D}{ty:TypeId}{p:String}{af:Array Edge}{gd:Option (Nat×Bool)}(hr:((Region.ready .any ops L).contains j,Region.free .any ops L j,Region.noSelect ops)=(true,true,true))(ho:ops.toList[j]? = some ⟨some d,.indexAddr t x i,ty,p,af,gd⟩)(hw:aK ops fr ⟨some d,.indexAddr t x i,ty,p,af,gd⟩=some true)
  (hx:evalO fr x=.d (.list es)) (hi:evalO fr i=.d (.int ik n)) (hu:P.underlying t=some (.slice e)) (hs:sizeT P e=some sz) (h0:(n<0)=False) (hc:es[n.toNat]? = some c) (hl:c.length=sz) (h:regU g ops K k cs (L.setIfInBounds j true) (putF fr (some d) (.iptr c 0)) s):regU g ops K k cs L fr s:=by
 have h0':0≤n:=by simpa using h0
 have hp:dG P t (evalO fr x) (evalO fr i)=some (.iptr c 0):=by
  rw[hx,hi]
  simp only[dG,if_neg (show ¬n<0 by omega),hu,hs,V.list?,V.data?,hc,if_pos hl]
 refine regU.first hr ho hw (λG a b vs hfr _ _=>?_) h
 obtain⟨u,h1,h2⟩:=iW (P:=P) (ay hfr x) (ay hfr i) hp default
 have hvi:a.eval i=.int ik n:=dK (hi▸ay hfr i)
 have hlt:=ao hc
 have hvr:∀v,rel G (.d (.list es)) v→∃ad cap,v=.slice (some ad) es.length cap:=by
  intro v r
  cases r with
  | d q =>
   cases q with
   | nil=>simp at hlt
   | list _ b off cap _ _ _ _ _ _=>exact⟨_,_,rfl⟩
 have hvx:=hvr _ (hx▸ay hfr x)
 obtain⟨ad,cap,hvx⟩:=hvx
 have h3:n<(es.length:Int):=by omega
 have key:∀w,(Instr.indexAt t (a.eval x) (a.eval i)).run P w=.ok (.pointer (some (ad.add (n.toNat*sz)))) w:=λw=>by
  rw[hvx,hvi]
  simp[Instr.indexAt,asIntOf,run_underlying hu,h0',h3,bc hs]
 have hu2:u=.pointer (some (ad.add (n.toNat*sz))):=by
  have:=(key default).symm.trans h1
  injection this with this;exact this.symm
 subst hu2
 exact⟨_,λw _=>by simp[execOp,key w],h2⟩
theorem regK.call{o:Oper}{f:Operand}{args:Array Operand}{tys:Array TypeId}{fid:FuncId}{xs args':List V}{r:V}{X:Fr→Sg→Prop}(hop:o.op=.call ⟨.value f,args,tys⟩)(hw:aK ops fr o=some true)(hc:callS fr ⟨.value f,args,tys⟩=some (fid,xs))(h:Spec g fid args' r)(ha:xs.map V.clean=args')(hX:X (putF fr o.dst r) s):regK g ops o fr s X:=by
 intro w0 G a w Q hQ hH hfr hd
 unfold wpList
 rw[bZ hfr hw,if_pos rfl]
 left
 obtain⟨vs,r1,r2⟩:=jD hfr hop hc h.1 w
 unfold Oper.wp
 rw[r1]
 refine (h.2 w G.F vs hH.fs (hH.gb.kp hH.kp) ?_).mono ?_
 ·subst ha
  refine⟨by simp[r2.1],λi x v h1 h2=>?_⟩
  rw[List.getElem?_map]at h1
  cases hq:xs[i]? with
  | none=>rw[hq]at h1;cases h1
  | some y=>rw[hq]at h1;simp at h1;subst h1;exact dX (r2.2 i y v hq h2) G.F (λ_ _ _ q=>q)
 ·rintro e w' ⟨v,rfl,hk,hv⟩
  exact hQ _ _ (G.withF (fresh w w')) _ s (G.le_withF _) (hH.grow hk) (df (eM (G.le_withF _) hfr) (rel_unbare hv) o.dst) (by rw[aY];exact hd) hk hX
inductive Scal:V→Prop where
 | int (ik:IntKind) (n:Int):Scal (.d (.int ik n))
 | bool (b:Bool):Scal (.d (.bool b))
 | agg (cs:List V) (h:∀(i:Nat) (x:V),cs[i]? = some x→Scal x):Scal (.agg cs)
 | tup (cs:List V) (h:∀(i:Nat) (x:V),cs[i]? = some x→Scal x):Scal (.tuple cs)
theorem Scal.rel{x:V}(h:Scal x):∀{G G':Cx} {u:Value},rel G x u→rel G' x u:=by
 induction h with
 | int ik n=>intro G G' u r;rw[dK r];exact .d (.int _ _)
 | bool b=>intro G G' u r;rw[jY r];exact .d (.bool _)
 | agg cs h ih =>
  intro G G' u r
  cases r with
  | agg _ vs hl hr=>exact .agg cs vs hl (λi x v h1 h2=>ih i x h1 (hr i x v h1 h2))
 | tup cs h ih =>
  intro G G' u r
  cases r with
  | tuple _ vs hl hr=>exact .tuple cs vs hl (λi x v h1 h2=>ih i x h1 (hr i x v h1 h2))
theorem Scal.two{x y:V}(h:Scal x)(t:Scal y):Scal (.tuple [x,y]):=.tup _ (λi z hz=>by
 match i,hz with
 | 0,hz=>simp at hz;subst hz;exact h
 | 1,hz=>simp at hz;subst hz;exact t)
theorem Scal.nil:Scal (.agg []):=.agg _ (λi x h=>by simp at h)
theorem Scal.cons{x:V}{xs:List V}(h:Scal x)(t:Scal (.agg xs)):Scal (.agg (x::xs)):=.agg _ (λi y hy=>by
 cases i with
 | zero=>simp at hy;subst hy;exact h
 | succ i=>cases t with | agg _ q=>exact q i y (by simpa using hy))
theorem ptr_call {w0 w : World} {G : Cx} {fid : FuncId} {k2 : Nat} {cs2 : List V} {ds : List D} {r : V} {vs : List Value} (hH : HR P w0 w G s) (r2 : rels G [.ptr k2 0] vs) (h : Spec g fid [.iptr ds 0] r) (hk : s.obs[k2]? = some cs2) (hd : cs2.map V.clean = ds.map V.d) (hr : Scal r) :
    Calls P fid ⟨vs⟩ w λe w'=>∃v,e=.returned v∧Kp w w'∧rel (G.withF (fresh w w')) r v:=by
  have hvl:vs.length=1:=r2.1.symm
  obtain⟨v,rfl⟩:∃v,vs=[v]:=by
    cases vs with
    | nil=>cases hvl
    | cons v t=>cases t with | nil=>exact⟨v,rfl⟩ | cons _ _=>simp at hvl
  obtain⟨b,hb,rfl⟩:=fj (r2.2 0 _ v rfl rfl)
  obtain⟨b',us,t,g1,g2,g3,g4,g5⟩:=hH.obl k2 _ hk (hH.obm k2 b hb) (hH.obr k2 b hb)
  rw[hb]at g1;injection g1 with g1;subst g1
  have hcell:∀(j:Nat) u,us[j]? = some u→w.cell? ⟨b,j,none⟩=some u:=λj u hj=>by simp[World.cell?,g3,hj]
  refine (h.2 w (λb' o v=>G.F b' o v∨(b'=b∧us[o]? = some v)) _ ?_ ((hH.gb.kp hH.kp).mono λ_ _ _ q=>.inl q) ?_).mono ?_
  · rintro b' o v (q | ⟨rfl,q⟩)
    · exact hH.fs b' o v q
    · exact⟨lg (hcell o v q),hcell o v q⟩
  · refine⟨rfl,λi x v h1 h2=>?_⟩
    cases i with
    | succ i=>simp at h1
    | zero =>
      simp at h1 h2;subst h1;subst h2
      have hlen:us.length=ds.length:=by
        have h3:=g4.1
        have h4:cs2.length=ds.length:=by have:=congrArg List.length hd;simpa using this
        omega
      have hz:∀(j:Nat) (z:D),ds[j]? = some z→∃u,us[j]? = some u∧relD (λb' o v=>G.F b' o v∨(b'=b∧us[o]? = some v)) z u:=by
        intro j z hj
        have hlt:=ao hj
        have hu:us[j]? = some (us[j]'(by omega)):=List.getElem?_eq_getElem _
        refine⟨_,hu,?_⟩
        have hq:(cs2.map V.clean)[j]? = some (.d z):=by rw[hd,List.getElem?_map,hj];rfl
        rw[List.getElem?_map]at hq
        cases hy:cs2[j]? with
        | none=>rw[hy]at hq;cases hq
        | some y =>
          rw[hy]at hq;simp at hq
          have:=dX (g4.2 j y _ hy hu) (λb' o v=>G.F b' o v∨(b'=b∧us[o]? = some v)) (λ_ _ _ q=>.inl q)
          rw[hq]at this
          cases this with | d q=>exact q
      exact rel.iptr (G:=bareG λb' o v=>G.F b' o v∨(b'=b∧us[o]? = some v)) ds 0 b 0 (λj=>us.getD j default) (λj z hj=>by
        obtain⟨u,h5,_⟩:=hz j z hj
        rw[Nat.zero_add]
        exact .inr ⟨rfl,by simp[h5]⟩) (λj z hj=>by
        obtain⟨u,h5,h6⟩:=hz j z hj
        have e:us.getD j default=u:=by simp[List.getD,h5]
        rw[e];exact h6)
  · rintro e w' ⟨v,rfl,hkp,hv⟩
    exact⟨v,rfl,hkp,hr.rel hv⟩
theorem SpecS.byP{fid:FuncId}{k2:Nat}{cs2:List V}{ds:List D}{r:V}{R:V→Sg→Prop}(h:Spec g fid [.iptr ds 0] r)(hk:s.obs[k2]? = some cs2)(hd:cs2.map V.clean=ds.map V.d)(hr:Scal r)(hR:R r s):SpecS g fid [.ptr k2 0] s R :=
  ⟨h.1,λw0 w G vs hH r2=>(ptr_call hH r2 h hk hd hr).mono (by
    rintro e w' ⟨v,rfl,hkp,hv⟩
    exact⟨v,r,s,G.withF (fresh w w'),rfl,G.le_withF _,hH.grow hkp,hv,hR⟩)⟩
theorem regK.callP{o:Oper}{f:Operand}{args:Array Operand}{tys:Array TypeId}{fid:FuncId}{k2:Nat}{cs2:List V}{ds:List D}{r:V}{X:Fr→Sg→Prop}(hop:o.op=.call ⟨.value f,args,tys⟩)(hw:aK ops fr o=some true)(hc:callS fr ⟨.value f,args,tys⟩=some (fid,[.ptr k2 0]))(h:Spec g fid [.iptr ds 0] r)(hk:s.obs[k2]? = some cs2)(hd:cs2.map V.clean=ds.map V.d)(hr:Scal r)(hX:X (putF fr o.dst r) s):regK g ops o fr s X:=by
 intro w0 G a w Q hQ hH hfr hdf
 unfold wpList
 rw[bZ hfr hw,if_pos rfl]
 left
 obtain⟨vs,r1,r2⟩:=jD hfr hop hc h.1 w
 unfold Oper.wp
 rw[r1]
 refine (ptr_call hH r2 h hk hd hr).mono ?_
 rintro e w' ⟨v,rfl,hkp,hv⟩
 exact hQ _ _ (G.withF (fresh w w')) _ s (G.le_withF _) (hH.grow hkp) (df (eM (G.le_withF _) hfr) hv o.dst) (by rw[aY];exact hdf) hkp hX
end
theorem sqrt_run(w:World):(callFunc 124 #[.float .f64 4688725774528675840]).run Tryz.prog w=.ok (.value (.float .f64 4647948056877328966)) w:=by
 kernel_rfl
set_option maxRecDepth 10000 in
set_option maxHeartbeats 800000 in
theorem sqrt_any(w:World):Calls Tryz.prog 97 #[.float .f64 4688725774528675840] w λe w'=>e=.returned (.float .f64 4647948056877328966)∧w=w':=by
 have hd:=sqrt_run w
 go_enter Tryz.func97,Tryz.ntmps97
 go_wp2
 go_ret
 exact⟨rfl,rfl⟩
theorem inv_othF{G:Cx}{v u:Value}(r:rel G (.d (.other v)) u):u=v:=by
 cases r with | d q=>cases q;rfl
theorem sqrt_spec:Spec gP 97 [.d (.other (.float .f64 4688725774528675840))] (.d (.other (.float .f64 4647948056877328966))):=by
 refine⟨by kernel_rfl,λw F vs hF hg hr=>?_⟩
 obtain⟨v,rfl⟩:∃v,vs=[v]:=by
  have:=hr.1
  cases vs with
  | nil=>cases this
  | cons v t=>cases t with | nil=>exact⟨v,rfl⟩ | cons _ _=>simp at this
 obtain rfl:=inv_othF (hr.2 0 _ v rfl rfl)
 refine (sqrt_any w).mono ?_
 rintro e w' ⟨rfl,rfl⟩
 exact⟨_,rfl,Kp.refl _,.d (.other _ rfl)⟩
theorem conv_to(w:World):(convert 2 165 (.int .i64 290000)).run Tryz.prog w=.ok (.float .f64 4688725774528675840) w:=by kernel_rfl
theorem conv_back(w:World):(convert 165 2 (.float .f64 4647948056877328966)).run Tryz.prog w=.ok (.int .i64 538) w:=by kernel_rfl
theorem alt_convF{d:Option Tmp}{x:Operand}{ty:TypeId}{p:String}{af:Array Edge}{gd:Option (Nat×Bool)}{fr:Fr}{s:Sg}{R:V→Sg→Prop}(hx:evalO fr x=.d (.int .i64 290000))(h:R (.d (.other (.float .f64 4688725774528675840))) s):altR gP ⟨d,.convert 2 165 x,ty,p,af,gd⟩ fr s R:=by
 intro w0 w G a hH hfr
 have hv:a.eval x=.int .i64 290000:=dK (hx▸ay hfr x)
 refine⟨.value (.float .f64 4688725774528675840),w,_,s,G,?_,.inl ⟨_,rfl,.d (.other _ rfl)⟩,Cx.le.refl G,hH,h⟩
 simp[execOp,hv,conv_to w]
theorem alt_convI{d:Option Tmp}{x:Operand}{ty:TypeId}{p:String}{af:Array Edge}{gd:Option (Nat×Bool)}{fr:Fr}{s:Sg}{R:V→Sg→Prop}(hx:evalO fr x=.d (.other (.float .f64 4647948056877328966)))(h:R (.d (.int .i64 538)) s):altR gP ⟨d,.convert 165 2 x,ty,p,af,gd⟩ fr s R:=by
 intro w0 w G a hH hfr
 have hv:a.eval x=.float .f64 4647948056877328966:=inv_othF (hx▸ay hfr x)
 refine⟨.value (.int .i64 538),w,_,s,G,?_,.inl ⟨_,rfl,.d (.int _ _)⟩,Cx.le.refl G,hH,h⟩
 simp[execOp,hv,conv_back w]
end Go.Proofs.YtgbafiejgciilaaGreatDoor
