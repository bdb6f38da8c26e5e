import Derived.Test.YtphbhdoljnokkaaGreatDoorSzj2
namespace Go.Proofs.YtphbhdoljnokkaaGreatDoor
open Go.RowKit
set_option linter.unusedVariables false
set_option linter.unusedSimpArgs false
def ivs(cs:List (IntKind×Int)):List V:=cs.map λc=>.d (.int c.1 c.2)
def ivu(cs:List (IntKind×Int)):List Value:=cs.map λc=>.int c.1 c.2
variable {G:Cx}
theorem rel_int{k:IntKind}{n:Int}{u:Value}(h:rel G (.d (.int k n)) u):u=.int k n:=by
 cases h with | d q=>cases q;rfl
theorem ivs_rels(cs:List (IntKind×Int)):rels G (ivs cs) (ivu cs):=by
 refine⟨by simp[ivs,ivu],λi x v h1 h2=>?_⟩
 unfold ivs at h1;unfold ivu at h2
 rw[List.getElem?_map]at h1 h2
 cases hc:cs[i]? with
 | none=>simp_all
 | some c=>rw[hc]at h1 h2;cases h1;cases h2;exact .d (.int _ _)
def obI(s:Sg):List (Nat×List (IntKind×Int))→Prop
 | []=>True
 | p::r=>s.obs[p.1]? = some (ivs p.2)∧obI s r
theorem obI_mem{s:Sg}:∀{l:List (Nat×List (IntKind×Int))} {p:Nat×List (IntKind×Int)},obI s l→p∈l→s.obs[p.1]? = some (ivs p.2)
 | q::r,p,h,hp=>by
  rcases List.mem_cons.1 hp with e | e
  ·subst e;exact h.1
  ·exact obI_mem h.2 e
def IS(l:List (Nat×List (IntKind×Int)))(G:Cx)(w:World):Prop:=FxS G w∧∀p∈l,∀b,G.ob p.1=some b→∀(j:Nat) v,(ivu p.2)[j]? = some v→w.cell? ⟨b,j,none⟩=some v
variable {l:List (Nat×List (IntKind×Int))}
theorem IS.mono{G':Cx}{w:World}(h:G.le G')(q:IS l G' w):IS l G w:=⟨λb o v z=>q.1 b o v (h.F _ _ _ z),λp hp b h1=>q.2 p hp b (h.ob _ _ h1)⟩
theorem IS.of{P:Program}{w0 w:World}{s:Sg}(hH:HR P w0 w G s)(hk:obI s l):IS l G w:=by
 refine⟨λb o v q=>(hH.fs b o v q).2,λp hp b h1 j v hv=>?_⟩
 have ho:=obI_mem hk hp
 obtain⟨b',vs,t,g1,g2,g3,g4,g5⟩:=hH.obl p.1 _ ho (hH.obm p.1 b h1) (hH.obr p.1 b h1)
 rw[h1]at g1;injection g1 with g1;subst g1
 unfold ivu at hv;rw[List.getElem?_map]at hv
 cases hc:p.2[j]? with
 | none=>simp_all
 | some c =>
  rw[hc]at hv;cases hv
  have hx:(ivs p.2)[j]? = some (.d (.int c.1 c.2)):=by simp_all[ivs]
  have hlt:=aF hx
  have hu:vs[j]? = some (vs[j]'(g4.1▸hlt)):=List.getElem?_eq_getElem _
  have e:=rel_int (g4.2 j _ _ hx hu)
  simp_all[World.cell?]
def heldI(l:List (Nat×List (IntKind×Int)))(s:Sg)(X:Prop):Prop:=obI s l∧X
def regI{P:Program}(g:Pg P)(ops:Array Oper)(K:Fr→Sg→Prop)(l:List (Nat×List (IntKind×Int)))(L:Array Bool)(fr:Fr)(s:Sg):Prop :=
 L.size=ops.size→∀f,cnt L ops.size≤f→∀(w0:World) (G0 G:Cx) (a:Act) (w:World) (Q:Exit→Act→World→Prop),(∀a w,Post g w0 G0 K a w→Q .normal a w)→G0.le G→HR P w0 w G s→FR G fr a→a.defers=[]→wpAnyH P .any ops Q (IS l G) f L a w
section
variable {P : Program} {g : Pg P} {ops : Array Oper} {K : Fr → Sg → Prop} {l : List (Nat × List (IntKind × Int))} {L : Array Bool} {fr : Fr} {s : Sg}
theorem regI.toA(h:regI g ops K l L fr s):regA g ops K L fr s:=λhL f hf w0 G0 G a w Q hQ h0 hH hfr hd=>wpAny_of_held _ _ _ _ (h hL f hf w0 G0 G a w Q hQ h0 hH hfr hd)
theorem regI.nil(hr:Region.ready .any ops L=[])(h:K fr s):regI g ops K l L fr s :=
 λ_ f _ w0 G0 G a w Q hQ h0 hH hfr hd=>wpAnyH_done hr (hQ _ _ ⟨G,fr,s,h0,hH,hfr,hd,h⟩) f
theorem regI.step{R:List Nat}(hr:Region.ready .any ops L=R)(hne:R≠[])(h:∀j∈R,∃o,ops.toList[j]? = some o∧regW g ops [o] fr s (λfr' s'=>heldI l s' (regI g ops K l (L.setIfInBounds j true) fr' s'))):regI g ops K l L fr s:=by
  subst hr
  intro hL f hf w0 G0 G a w Q hQ h0 hH hfr hd
  have hlis:∀j∈Region.ready .any ops L,j<L.size∧L.getD j false=false:=by
    grind[mem_ready]
  have hpos:0<cnt L ops.size:=by
    obtain⟨j,hj⟩:=List.exists_mem_of_ne_nil _ hne
    grind[pQ]
  obtain⟨f,rfl⟩:∃q,f=q+1:=⟨f-1,by omega⟩
  refine⟨λhe=>absurd he hne,λi hi=>?_⟩
  obtain⟨o,ho,hw⟩:=h i hi
  obtain⟨b1,b2⟩:=hlis i hi
  have hcnt:=(lM L i b1 b2 ops.size).1 (by omega)
  have hl:=hw w0 G G a w (λe a w=>e=.normal∧(IS l G w∧wpAnyH P .any ops Q (IS l G) f (L.setIfInBounds i true) a w)) (λa w hp=>by
    obtain⟨G',fr',s',q1,q2,q3,q4,q5,q6⟩:=hp
    refine⟨rfl,IS.mono q1 (IS.of q2 q5),?_⟩
    exact kW (S':=IS l G') (λw h=>IS.mono q1 h) _ _ _ _ (q6 (by simp_all) f (by omega) w0 G0 G' a w Q hQ (h0.trans q1) q2 q3 q4)) (Cx.le.refl G) hH hfr hd
  unfold wpList at hl
  unfold wpOp
  rw[show ops[i]? = some o by simp_all]
  simp only at hl ⊢
  split
  · rename_i hw'
    rw[qV hw']at hl
    exact qt (λe a w he q=>he q.1) (λa w q=>q.2) hl
  · rename_i hw'
    rw[qU hw']at hl
    exact hl.2
theorem regI.one{j:Nat}{o:Oper}(hr:Region.ready .any ops L=[j])(ho:ops.toList[j]? = some o)(h:regW g ops [o] fr s (λfr' s'=>heldI l s' (regI g ops K l (L.setIfInBounds j true) fr' s'))):regI g ops K l L fr s :=
 regI.step hr (by simp) (λi hi=>by simp_all)
theorem regI.first{j:Nat}{o:Oper}{y:V}(hr:((Region.ready .any ops L).contains j,Region.free .any ops L j,Region.noSelect ops)=(true,true,true))(ho:ops.toList[j]? = some o)(hw:bo ops fr o=some true)
  (hk:obI s l) (hst:∀w0 w1 G a,HR P w0 w1 G s→FR G fr a→∃v,(∀w,IS l G w→(execOp a.eval o).run P w=.ok (.value v) w)∧rel G y v) (h:regI g ops K l (L.setIfInBounds j true) (putF fr o.dst y) s):regI g ops K l L fr s:=by
 intro hL f hf w0 G0 G a w Q hQ h0 hH hfr hdf
 injection hr with hr1 hr2
 injection hr2 with hr2 hr3
 have hj:j∈Region.ready .any ops L:=by simp_all
 obtain⟨h1,o',ho',_⟩:=mem_ready.1 hj
 have hlt:j<L.size:=by grind
 have hun:L.getD j false=false:=by
  simp_all
 have ho2:ops[j]? = some o:=by simp_all
 have hcnt:=(lM L j hlt hun ops.size).1 (by omega)
 obtain⟨f,rfl⟩:∃q,f=q+1:=⟨f-1,by omega⟩
 obtain⟨v,hv,hrel⟩:=hst w0 w G a hH hfr
 have hY:YieldsIf P ops (IS l G) o v a:=.inl ⟨fK hfr hw,hv⟩
 refine gS _ _ _ _ (wpAnyH_first (Q:=λe a w=>e=.normal∧Q .normal a w) ho2 (Region.noSelect_spec hr3) (λc a w q=>by cases q.1) f L a w (Region.free_spec ho2 hr2) hj hY (IS.of hH hk) ?_)
 exact h (by simp_all) f (by omega) w0 G0 G _ w _ (λa w q=>⟨rfl,hQ a w q⟩) h0 hH (ii hfr hrel o.dst) (by simp_all[cg])
theorem regI.moveB{j:Nat}{d:Tmp}{x:Operand}{ty:TypeId}{p:String}{af:Array Edge}{gd:Option (Nat×Bool)}(hr:((Region.ready .any ops L).contains j,Region.free .any ops L j,Region.noSelect ops)=(true,true,true))(ho:ops.toList[j]? = some ⟨some d,.move x,ty,p,af,gd⟩)(hw:bo ops fr ⟨some d,.move x,ty,p,af,gd⟩=some true)
  (hk:obI s l) (h:regI g ops K l (L.setIfInBounds j true) (putF fr (some d) (aN fr x)) s):regI g ops K l L fr s :=
 regI.first hr ho hw hk (λw0 w1 G a hH hfr=>⟨a.eval x,λw _=>by simp[execOp],aK hfr x⟩) h
theorem regI.nilB{j:Nat}{d:Tmp}{x:Operand}{i off:Nat}{ty:TypeId}{p:String}{af:Array Edge}{gd:Option (Nat×Bool)}(hr:((Region.ready .any ops L).contains j,Region.free .any ops L j,Region.noSelect ops)=(true,true,true))(ho:ops.toList[j]? = some ⟨some d,.nilCheck x,ty,p,af,gd⟩)(hw:bo ops fr ⟨some d,.nilCheck x,ty,p,af,gd⟩=some true)
  (hk:obI s l) (hx:aN fr x=.ptr i off) (h:regI g ops K l (L.setIfInBounds j true) (putF fr (some d) (.ptr i off)) s):regI g ops K l L fr s:=by
 refine regI.first hr ho hw hk (λw0 w1 G a hH hfr=>?_) h
 obtain⟨b,h1,h2⟩:=ly (hx▸aK hfr x)
 exact⟨_,λw _=>by simp_all[execOp],.ptr i off b h1⟩
theorem regI.fieldB{j:Nat}{d:Tmp}{t:TypeId}{x:Operand}{i:Nat}{y:V}{ty:TypeId}{p:String}{af:Array Edge}{gd:Option (Nat×Bool)}(hr:((Region.ready .any ops L).contains j,Region.free .any ops L j,Region.noSelect ops)=(true,true,true))(ho:ops.toList[j]? = some ⟨some d,.fieldAddr t x i,ty,p,af,gd⟩)(hw:bo ops fr ⟨some d,.fieldAddr t x i,ty,p,af,gd⟩=some true)
  (hk:obI s l) (hp:gw P t (aN fr x) i=some y) (h:regI g ops K l (L.setIfInBounds j true) (putF fr (some d) y) s):regI g ops K l L fr s:=by
 refine regI.first hr ho hw hk (λw0 w1 G a hH hfr=>?_) h
 obtain⟨u,h1,h2⟩:=qr (P:=P) (aK hfr x) hp
 exact⟨u,λw _=>by simp[execOp,h1 w],h2⟩
theorem regI.extB{j:Nat}{d:Tmp}{x:Operand}{i:Nat}{vs:List V}{y:V}{ty:TypeId}{p:String}{af:Array Edge}{gd:Option (Nat×Bool)}(hr:((Region.ready .any ops L).contains j,Region.free .any ops L j,Region.noSelect ops)=(true,true,true))(ho:ops.toList[j]? = some ⟨some d,.extract x i,ty,p,af,gd⟩)(hw:bo ops fr ⟨some d,.extract x i,ty,p,af,gd⟩=some true)
  (hk:obI s l) (hx:aN fr x=.tuple vs) (hy:vs[i]? = some y) (h:regI g ops K l (L.setIfInBounds j true) (putF fr (some d) y) s):regI g ops K l L fr s:=by
 refine regI.first hr ho hw hk (λw0 w1 G a hH hfr=>?_) h
 have hrr:=aK hfr x
 rw[hx]at hrr
 obtain⟨u,hu⟩:∃u,a.eval x=u:=⟨_,rfl⟩
 rw[hu]at hrr
 cases hrr with
 | tuple _ us hl hrel =>
  have hlt:i<us.length:=by grind
  exact⟨us[i],λw _=>by simp_all[execOp,Instr.extract],hrel i y _ hy (List.getElem?_eq_getElem hlt)⟩
theorem regI.two{j i:Nat}{o p:Oper}(hr:Region.ready .any ops L=[j,i])(ho:ops.toList[j]? = some o)(hp:ops.toList[i]? = some p)(h:regW g ops [o] fr s (λfr' s'=>heldI l s' (regI g ops K l (L.setIfInBounds j true) fr' s')))
  (h2:regW g ops [p] fr s (λfr' s'=>heldI l s' (regI g ops K l (L.setIfInBounds i true) fr' s'))):regI g ops K l L fr s :=
 regI.step hr (by simp) (λq hq=>by
  simp at hq
  rcases hq with rfl | rfl<;>simp_all)
theorem regI.loadN{j:Nat}{d:Tmp}{t:TypeId}{x:Operand}{k off:Nat}{cs:List (IntKind×Int)}{y:V}{ty:TypeId}{p:String}{af:Array Edge}{gd:Option (Nat×Bool)}(hr:((Region.ready .any ops L).contains j,Region.free .any ops L j,Region.noSelect ops)=(true,true,true))(ho:ops.toList[j]? = some ⟨some d,.load t x,ty,p,af,gd⟩)(hw:bo ops fr ⟨some d,.load t x,ty,p,af,gd⟩=some true)
  (hk:obI s l) (hm:(k,cs)∈l) (hx:aN fr x=.ptr k off) (hp:jv P t (ivs cs) off=some y) (h:regI g ops K l (L.setIfInBounds j true) (putF fr (some d) y) s):regI g ops K l L fr s:=by
 refine regI.first hr ho hw hk (λw0 w1 G a hH hfr=>?_) h
 obtain⟨b,h1,h2⟩:=ly (hx▸aK hfr x)
 obtain⟨v,h3,h4⟩:=loadF_unif (P:=P) (b:=b) (o:=0) hp (ivs_rels (G:=G) cs)
 refine⟨v,λw hS=>?_,h4⟩
 have:=h3 w (λi v hi=>by rw[Nat.zero_add];exact hS.2 _ hm b h1 i v hi)
 simp_all[execOp,Instr.loadAt,Instr.sureAddr]
theorem regI.loadI {j : Nat} {d : Tmp} {t : TypeId} {x : Operand} {ds : List D} {off : Nat} {y : V} {ty : TypeId} {p : String} {af : Array Edge} {gd : Option (Nat × Bool)} (hr : ((Region.ready .any ops L).contains j, Region.free .any ops L j, Region.noSelect ops) = (true, true, true)) (ho : ops.toList[j]? = some ⟨some d, .load t x, ty, p, af, gd⟩) (hw : bo ops fr ⟨some d, .load t x, ty, p, af, gd⟩ = some true)
    (hk:obI s l) (hx:aN fr x=.iptr ds off) (hp:jv P t (gM ds) off=some y) (h:regI g ops K l (L.setIfInBounds j true) (putF fr (some d) y) s):regI g ops K l L fr s:=by
  refine regI.first hr ho hw hk (λw0 w1 G a hH hfr=>?_) h
  obtain⟨b,o,u,hv,hF,hrr⟩:=inv_iptr (hx▸aK hfr x)
  obtain⟨v,h1,h2⟩:=loadF_unif (P:=P) (b:=b) (o:=o) hp (mQ (G:=G) (u:=u) hrr)
  refine⟨v,λw hS=>?_,h2⟩
  have:=h1 w (λj v hj=>by
    rw[List.getElem?_map]at hj
    cases hc:ds[j]? with
    | none =>
      simp_all
    | some z =>
      rw[List.getElem?_range (aF hc)]at hj
      simp at hj;subst hj
      exact hS.1 _ _ _ (hF j z hc))
  simp_all[execOp,Instr.loadAt,Instr.sureAddr]
end
end Go.Proofs.YtphbhdoljnokkaaGreatDoor
