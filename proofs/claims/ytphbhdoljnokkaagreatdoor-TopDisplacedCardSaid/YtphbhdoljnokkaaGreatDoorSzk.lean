import Derived.Test.YtphbhdoljnokkaaGreatDoorSzi
import Derived.Test.YtphbhdoljnokkaaGreatDoorG1
namespace Go.Proofs.YtphbhdoljnokkaaGreatDoor
open Go.RowKit
set_option linter.unusedVariables false
set_option linter.unusedSimpArgs false
section
variable {P : Program} {g : Pg P} {fr : Fr} {s : Sg} {R : V → Sg → Prop} {d : Option Tmp} {t : TypeId} {ty : TypeId} {p : String} {af : Array Edge} {gd : Option (Nat × Bool)}
end
theorem lit_pn:lit (.pointer none)=.d (.other (.pointer none)):=rfl
def VS(k:Nat)(ms:List Nat)(G:Cx)(w:World):Prop:=FxS G w∧∀b off j bb,G.ob k=some b→ms[off]? = some j→G.mp j=some bb→w.cell? ⟨b,off,none⟩=some (.map (some bb))
variable {G:Cx}{k:Nat}{ms:List Nat}{w:World}
theorem VS.mono{G':Cx}(h:G.le G')(q:VS k ms G' w):VS k ms G w:=⟨λb o v z=>q.1 b o v (h.F _ _ _ z),λb off j bb h1 h2 h3=>q.2 b off j bb (h.ob _ _ h1) h2 (h.mp _ _ h3)⟩
variable {P:Program}{w0:World}
theorem VS.at{s:Sg}(hH:HR P w0 w G s)(hk:s.obs[k]? = some (ms.map V.mp)){b off j:Nat}(h1:G.ob k=some b)(h2:ms[off]? = some j):∃bb,G.mp j=some bb∧w.cell? ⟨b,off,none⟩=some (.map (some bb)):=by
 obtain⟨b',vs,t,g1,g2,g3,g4,g5⟩:=hH.obl k _ hk (hH.obm k b h1) (hH.obr k b h1)
 rw[h1]at g1;injection g1 with g1;subst g1
 have hm:(ms.map V.mp)[off]? = some (.mp j):=by simp_all
 have hlt:=aF hm
 have hv:vs[off]? = some (vs[off]'(g4.1▸hlt)):=List.getElem?_eq_getElem _
 obtain⟨b2,q1,q2⟩:=inv_mp (g4.2 off _ _ hm hv)
 simp_all[World.cell?]
theorem VS.of{s:Sg}(hH:HR P w0 w G s)(hk:s.obs[k]? = some (ms.map V.mp)):VS k ms G w:=by
 refine⟨λb o v q=>(hH.fs b o v q).2,λb off j bb h1 h2 h3=>?_⟩
 grind[VS.at]
def heldV(k:Nat)(ms:List Nat)(s:Sg)(X:Prop):Prop:=s.obs[k]? = some (ms.map V.mp)∧X
def regV{P:Program}(g:Pg P)(ops:Array Oper)(K:Fr→Sg→Prop)(k:Nat)(ms:List Nat)(L:Array Bool)(fr:Fr)(s:Sg):Prop :=
 L.size=ops.size→∀f,cnt L ops.size≤f→∀(w0:World) (G0 G:Cx) (a:Act) (w:World) (Q:Exit→Act→World→Prop),(∀a w,Post g w0 G0 K a w→Q .normal a w)→G0.le G→HR P w0 w G s→FR G fr a→a.defers=[]→wpAnyH P .any ops Q (VS k ms G) f L a w
section
variable {P : Program} {g : Pg P} {ops : Array Oper} {K : Fr → Sg → Prop} {k : Nat} {ms : List Nat} {L : Array Bool} {fr : Fr} {s : Sg}
theorem regV.toA(h:regV g ops K k ms L fr s):regA g ops K L fr s:=λhL f hf w0 G0 G a w Q hQ h0 hH hfr hd=>wpAny_of_held _ _ _ _ (h hL f hf w0 G0 G a w Q hQ h0 hH hfr hd)
theorem regV.nil(hr:Region.ready .any ops L=[])(h:K fr s):regV g ops K k ms L fr s :=
 λ_ f _ w0 G0 G a w Q hQ h0 hH hfr hd=>wpAnyH_done hr (hQ _ _ ⟨G,fr,s,h0,hH,hfr,hd,h⟩) f
theorem regV.step{R:List Nat}(hr:Region.ready .any ops L=R)(hne:R≠[])(h:∀j∈R,∃o,ops.toList[j]? = some o∧regW g ops [o] fr s (λfr' s'=>heldV k ms s' (regV g ops K k ms (L.setIfInBounds j true) fr' s'))):regV g ops K k ms L fr s:=by
  subst hr
  intro hL f hf w0 G0 G a w Q hQ h0 hH hfr hd
  have hlis:∀j∈Region.ready .any ops L,j<L.size∧L.getD j false=false:=by
    grind[mem_ready]
  have hpos:0<cnt L ops.size:=by
    obtain⟨j,hj⟩:=List.exists_mem_of_ne_nil _ hne
    grind[pQ]
  obtain⟨f,rfl⟩:∃q,f=q+1:=⟨f-1,by omega⟩
  refine⟨λhe=>absurd he hne,λi hi=>?_⟩
  obtain⟨o,ho,hw⟩:=h i hi
  obtain⟨b1,b2⟩:=hlis i hi
  have hcnt:=(lM L i b1 b2 ops.size).1 (by omega)
  have hl:=hw w0 G G a w (λe a w=>e=.normal∧(VS k ms G w∧wpAnyH P .any ops Q (VS k ms G) f (L.setIfInBounds i true) a w)) (λa w hp=>by
    obtain⟨G',fr',s',q1,q2,q3,q4,q5,q6⟩:=hp
    refine⟨rfl,VS.mono q1 (VS.of q2 q5),?_⟩
    exact kW (S':=VS k ms G') (λw h=>VS.mono q1 h) _ _ _ _ (q6 (by simp_all) f (by omega) w0 G0 G' a w Q hQ (h0.trans q1) q2 q3 q4)) (Cx.le.refl G) hH hfr hd
  unfold wpList at hl
  unfold wpOp
  rw[show ops[i]? = some o by simp_all]
  simp only at hl ⊢
  split
  · rename_i hw'
    rw[qV hw']at hl
    exact qt (λe a w he q=>he q.1) (λa w q=>q.2) hl
  · rename_i hw'
    rw[qU hw']at hl
    exact hl.2
theorem regV.one{j:Nat}{o:Oper}(hr:Region.ready .any ops L=[j])(ho:ops.toList[j]? = some o)(h:regW g ops [o] fr s (λfr' s'=>heldV k ms s' (regV g ops K k ms (L.setIfInBounds j true) fr' s'))):regV g ops K k ms L fr s :=
 regV.step hr (by simp) (λi hi=>by simp_all)
theorem regV.first{j:Nat}{o:Oper}{y:V}(hr:((Region.ready .any ops L).contains j,Region.free .any ops L j,Region.noSelect ops)=(true,true,true))(ho:ops.toList[j]? = some o)(hw:bo ops fr o=some true)
  (hk:s.obs[k]? = some (ms.map V.mp)) (hst:∀w0 w1 G a,HR P w0 w1 G s→FR G fr a→∃v,(∀w,VS k ms G w→(execOp a.eval o).run P w=.ok (.value v) w)∧rel G y v) (h:regV g ops K k ms (L.setIfInBounds j true) (putF fr o.dst y) s):regV g ops K k ms L fr s:=by
 intro hL f hf w0 G0 G a w Q hQ h0 hH hfr hdf
 injection hr with hr1 hr2
 injection hr2 with hr2 hr3
 have hj:j∈Region.ready .any ops L:=by simp_all
 obtain⟨h1,o',ho',_⟩:=mem_ready.1 hj
 have hlt:j<L.size:=by grind
 have hun:L.getD j false=false:=by
  simp_all
 have ho2:ops[j]? = some o:=by simp_all
 have hcnt:=(lM L j hlt hun ops.size).1 (by omega)
 obtain⟨f,rfl⟩:∃q,f=q+1:=⟨f-1,by omega⟩
 obtain⟨v,hv,hrel⟩:=hst w0 w G a hH hfr
 have hY:YieldsIf P ops (VS k ms G) o v a:=.inl ⟨fK hfr hw,hv⟩
 refine gS _ _ _ _ (wpAnyH_first (Q:=λe a w=>e=.normal∧Q .normal a w) ho2 (Region.noSelect_spec hr3) (λc a w q=>by cases q.1) f L a w (Region.free_spec ho2 hr2) hj hY (VS.of hH hk) ?_)
 exact h (by simp_all) f (by omega) w0 G0 G _ w _ (λa w q=>⟨rfl,hQ a w q⟩) h0 hH (ii hfr hrel o.dst) (by simp_all[cg])
theorem regV.moveB{j:Nat}{d:Tmp}{x:Operand}{ty:TypeId}{p:String}{af:Array Edge}{gd:Option (Nat×Bool)}(hr:((Region.ready .any ops L).contains j,Region.free .any ops L j,Region.noSelect ops)=(true,true,true))(ho:ops.toList[j]? = some ⟨some d,.move x,ty,p,af,gd⟩)(hw:bo ops fr ⟨some d,.move x,ty,p,af,gd⟩=some true)
  (hk:s.obs[k]? = some (ms.map V.mp)) (h:regV g ops K k ms (L.setIfInBounds j true) (putF fr (some d) (aN fr x)) s):regV g ops K k ms L fr s :=
 regV.first hr ho hw hk (λw0 w1 G a hH hfr=>⟨a.eval x,λw _=>by simp[execOp],aK hfr x⟩) h
theorem regV.nilB{j:Nat}{d:Tmp}{x:Operand}{i off:Nat}{ty:TypeId}{p:String}{af:Array Edge}{gd:Option (Nat×Bool)}(hr:((Region.ready .any ops L).contains j,Region.free .any ops L j,Region.noSelect ops)=(true,true,true))(ho:ops.toList[j]? = some ⟨some d,.nilCheck x,ty,p,af,gd⟩)(hw:bo ops fr ⟨some d,.nilCheck x,ty,p,af,gd⟩=some true)
  (hk:s.obs[k]? = some (ms.map V.mp)) (hx:aN fr x=.ptr i off) (h:regV g ops K k ms (L.setIfInBounds j true) (putF fr (some d) (.ptr i off)) s):regV g ops K k ms L fr s:=by
 refine regV.first hr ho hw hk (λw0 w1 G a hH hfr=>?_) h
 obtain⟨b,h1,h2⟩:=ly (hx▸aK hfr x)
 exact⟨_,λw _=>by simp_all[execOp],.ptr i off b h1⟩
theorem regV.fieldB{j:Nat}{d:Tmp}{t:TypeId}{x:Operand}{i:Nat}{y:V}{ty:TypeId}{p:String}{af:Array Edge}{gd:Option (Nat×Bool)}(hr:((Region.ready .any ops L).contains j,Region.free .any ops L j,Region.noSelect ops)=(true,true,true))(ho:ops.toList[j]? = some ⟨some d,.fieldAddr t x i,ty,p,af,gd⟩)(hw:bo ops fr ⟨some d,.fieldAddr t x i,ty,p,af,gd⟩=some true)
  (hk:s.obs[k]? = some (ms.map V.mp)) (hp:gw P t (aN fr x) i=some y) (h:regV g ops K k ms (L.setIfInBounds j true) (putF fr (some d) y) s):regV g ops K k ms L fr s:=by
 refine regV.first hr ho hw hk (λw0 w1 G a hH hfr=>?_) h
 obtain⟨u,h1,h2⟩:=qr (P:=P) (aK hfr x) hp
 exact⟨u,λw _=>by simp[execOp,h1 w],h2⟩
theorem regV.extB{j:Nat}{d:Tmp}{x:Operand}{i:Nat}{vs:List V}{y:V}{ty:TypeId}{p:String}{af:Array Edge}{gd:Option (Nat×Bool)}(hr:((Region.ready .any ops L).contains j,Region.free .any ops L j,Region.noSelect ops)=(true,true,true))(ho:ops.toList[j]? = some ⟨some d,.extract x i,ty,p,af,gd⟩)(hw:bo ops fr ⟨some d,.extract x i,ty,p,af,gd⟩=some true)
  (hk:s.obs[k]? = some (ms.map V.mp)) (hx:aN fr x=.tuple vs) (hy:vs[i]? = some y) (h:regV g ops K k ms (L.setIfInBounds j true) (putF fr (some d) y) s):regV g ops K k ms L fr s:=by
 refine regV.first hr ho hw hk (λw0 w1 G a hH hfr=>?_) h
 have hrr:=aK hfr x
 rw[hx]at hrr
 obtain⟨u,hu⟩:∃u,a.eval x=u:=⟨_,rfl⟩
 rw[hu]at hrr
 cases hrr with
 | tuple _ us hl hrel =>
  have hlt:i<us.length:=by grind
  exact⟨us[i],λw _=>by simp_all[execOp,Instr.extract],hrel i y _ hy (List.getElem?_eq_getElem hlt)⟩
end
end Go.Proofs.YtphbhdoljnokkaaGreatDoor
