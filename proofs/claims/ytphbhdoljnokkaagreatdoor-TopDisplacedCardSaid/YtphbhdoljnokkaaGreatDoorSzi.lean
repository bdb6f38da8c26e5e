import Derived.Test.YtphbhdoljnokkaaGreatDoorSzz
import Derived.OrdersHeld
namespace Go.Proofs.YtphbhdoljnokkaaGreatDoor
open Go.RowKit
set_option linter.unusedVariables false
set_option linter.unusedSimpArgs false
def FxS(G:Cx)(w:World):Prop:=∀b o v,G.F b o v→w.cell? ⟨b,o,none⟩=some v
theorem kW{P:Program}{ops:Array Oper}{Q:Exit→Act→World→Prop}{S S':World→Prop}(hS:∀w,S' w→S w):∀(f:Nat) (L:Array Bool) (a:Act) (w:World),wpAnyH P .any ops Q S' f L a w→wpAnyH P .any ops Q S f L a w
 | 0,_,_,_,h=>h
 | f+1,_,_,_,h=>⟨h.1,λi hi=>wpOp_mono (λa' w' h'=>⟨hS _ h'.1,kW hS f _ a' w' h'.2⟩) (h.2 i hi)⟩
theorem gS{P:Program}{ops:Array Oper}{S:World→Prop}{Q:Exit→Act→World→Prop}:∀(f:Nat) (L:Array Bool) (a:Act) (w:World),wpAnyH P .any ops (λe a w=>e=.normal∧Q .normal a w) S f L a w→wpAnyH P .any ops Q S f L a w
 | 0,L,a,w,h=>⟨h.1,h.2.2⟩
 | f+1,L,a,w,h=>by
  refine⟨λq=>(h.1 q).2,λi hi=>?_⟩
  have h2:=h.2 i hi
  unfold wpOp at h2 ⊢
  cases ho:ops[i]? with
  | none=>rw[ho]at h2;exact⟨h2.1,gS f _ a w h2.2⟩
  | some o =>
   rw[ho]at h2
   simp only at h2 ⊢
   split
   ·rename_i hw
    rw[qV hw]at h2
    exact qt (λe a w he q=>he q.1) (λa w q=>⟨q.1,gS f _ a w q.2⟩) h2
   ·rename_i hw
    rw[qU hw]at h2
    exact⟨h2.1,gS f _ _ w h2.2⟩
def regH{P:Program}(g:Pg P)(ops:Array Oper)(K:Fr→Sg→Prop)(L:Array Bool)(fr:Fr)(s:Sg):Prop :=
 L.size=ops.size→∀f,cnt L ops.size≤f→∀(w0:World) (G0 G:Cx) (a:Act) (w:World) (Q:Exit→Act→World→Prop),(∀a w,Post g w0 G0 K a w→Q .normal a w)→G0.le G→HR P w0 w G s→FR G fr a→a.defers=[]→wpAnyH P .any ops Q (FxS G) f L a w
section
variable {P : Program} {g : Pg P} {ops : Array Oper} {K : Fr → Sg → Prop} {L : Array Bool} {fr : Fr} {s : Sg}
theorem regH.toA(h:regH g ops K L fr s):regA g ops K L fr s:=λhL f hf w0 G0 G a w Q hQ h0 hH hfr hd=>wpAny_of_held _ _ _ _ (h hL f hf w0 G0 G a w Q hQ h0 hH hfr hd)
theorem regH.nil(hr:Region.ready .any ops L=[])(h:K fr s):regH g ops K L fr s :=
 λ_ f _ w0 G0 G a w Q hQ h0 hH hfr hd=>wpAnyH_done hr (hQ _ _ ⟨G,fr,s,h0,hH,hfr,hd,h⟩) f
theorem regH.step{R:List Nat}(hr:Region.ready .any ops L=R)(hne:R≠[])(h:∀j∈R,∃o,ops.toList[j]? = some o∧regW g ops [o] fr s (λfr' s'=>regH g ops K (L.setIfInBounds j true) fr' s')):regH g ops K L fr s:=by
  subst hr
  intro hL f hf w0 G0 G a w Q hQ h0 hH hfr hd
  have hlis:∀j∈Region.ready .any ops L,j<L.size∧L.getD j false=false:=by
    grind[mem_ready]
  have hpos:0<cnt L ops.size:=by
    obtain⟨j,hj⟩:=List.exists_mem_of_ne_nil _ hne
    grind[pQ]
  obtain⟨f,rfl⟩:∃q,f=q+1:=⟨f-1,by omega⟩
  refine⟨λhe=>absurd he hne,λi hi=>?_⟩
  obtain⟨o,ho,hw⟩:=h i hi
  obtain⟨b1,b2⟩:=hlis i hi
  have hcnt:=(lM L i b1 b2 ops.size).1 (by omega)
  have hl:=hw w0 G G a w (λe a w=>e=.normal∧(FxS G w∧wpAnyH P .any ops Q (FxS G) f (L.setIfInBounds i true) a w)) (λa w hp=>by
    obtain⟨G',fr',s',q1,q2,q3,q4,q5⟩:=hp
    refine⟨rfl,λb o v q=>(q2.fs b o v (q1.F _ _ _ q)).2,?_⟩
    exact kW (S':=FxS G') (λw h b o v q=>h b o v (q1.F _ _ _ q)) _ _ _ _ (q5 (by simp_all) f (by omega) w0 G0 G' a w Q hQ (h0.trans q1) q2 q3 q4)) (Cx.le.refl G) hH hfr hd
  unfold wpList at hl
  unfold wpOp
  rw[show ops[i]? = some o by simp_all]
  simp only at hl ⊢
  split
  · rename_i hw'
    rw[qV hw']at hl
    exact qt (λe a w he q=>he q.1) (λa w q=>q.2) hl
  · rename_i hw'
    rw[qU hw']at hl
    exact hl.2
theorem regH.one{j:Nat}{o:Oper}(hr:Region.ready .any ops L=[j])(ho:ops.toList[j]? = some o)(h:regW g ops [o] fr s (λfr' s'=>regH g ops K (L.setIfInBounds j true) fr' s')):regH g ops K L fr s :=
 regH.step hr (by simp) (λi hi=>by simp_all)
theorem regH.two{j k:Nat}{o p:Oper}(hr:Region.ready .any ops L=[j,k])(ho:ops.toList[j]? = some o)(hp:ops.toList[k]? = some p)(h:regW g ops [o] fr s (λfr' s'=>regH g ops K (L.setIfInBounds j true) fr' s'))
  (h2:regW g ops [p] fr s (λfr' s'=>regH g ops K (L.setIfInBounds k true) fr' s')):regH g ops K L fr s :=
 regH.step hr (by simp) (λi hi=>by
  grind)
theorem regH.three{j k l:Nat}{o p q:Oper}(hr:Region.ready .any ops L=[j,k,l])(ho:ops.toList[j]? = some o)(hp:ops.toList[k]? = some p)(hq:ops.toList[l]? = some q)(h:regW g ops [o] fr s (λfr' s'=>regH g ops K (L.setIfInBounds j true) fr' s'))
  (h2:regW g ops [p] fr s (λfr' s'=>regH g ops K (L.setIfInBounds k true) fr' s')) (h3:regW g ops [q] fr s (λfr' s'=>regH g ops K (L.setIfInBounds l true) fr' s')):regH g ops K L fr s :=
 regH.step hr (by simp) (λi hi=>by
  grind)
theorem regH.firstF{j:Nat}{o:Oper}{y:V}(hr:((Region.ready .any ops L).contains j,Region.free .any ops L j,Region.noSelect ops)=(true,true,true))(ho:ops.toList[j]? = some o)(hw:bo ops fr o=some true)
  (hst:∀G a,FR G fr a→∃v,(∀w,FxS G w→(execOp a.eval o).run P w=.ok (.value v) w)∧rel G y v) (h:regH g ops K (L.setIfInBounds j true) (putF fr o.dst y) s):regH g ops K L fr s:=by
 intro hL f hf w0 G0 G a w Q hQ h0 hH hfr hdf
 injection hr with hr1 hr2
 injection hr2 with hr2 hr3
 have hj:j∈Region.ready .any ops L:=by simp_all
 obtain⟨h1,o',ho',_⟩:=mem_ready.1 hj
 have hlt:j<L.size:=by grind
 have hun:L.getD j false=false:=by
  simp_all
 have ho2:ops[j]? = some o:=by simp_all
 have hcnt:=(lM L j hlt hun ops.size).1 (by omega)
 obtain⟨f,rfl⟩:∃q,f=q+1:=⟨f-1,by omega⟩
 obtain⟨v,hv,hrel⟩:=hst G a hfr
 have hY:YieldsIf P ops (FxS G) o v a:=.inl ⟨fK hfr hw,hv⟩
 have hS:FxS G w:=λb o v q=>(hH.fs b o v q).2
 refine gS _ _ _ _ (wpAnyH_first (Q:=λe a w=>e=.normal∧Q .normal a w) ho2 (Region.noSelect_spec hr3) (λc a w q=>by cases q.1) f L a w (Region.free_spec ho2 hr2) hj hY hS ?_)
 exact h (by simp_all) f (by omega) w0 G0 G _ w _ (λa w q=>⟨rfl,hQ a w q⟩) h0 hH (ii hfr hrel o.dst) (by simp_all[cg])
theorem regH.moveB{j:Nat}{d:Tmp}{x:Operand}{ty:TypeId}{p:String}{af:Array Edge}{gd:Option (Nat×Bool)}(hr:((Region.ready .any ops L).contains j,Region.free .any ops L j,Region.noSelect ops)=(true,true,true))(ho:ops.toList[j]? = some ⟨some d,.move x,ty,p,af,gd⟩)(hw:bo ops fr ⟨some d,.move x,ty,p,af,gd⟩=some true)
  (h:regH g ops K (L.setIfInBounds j true) (putF fr (some d) (aN fr x)) s):regH g ops K L fr s :=
 regH.firstF hr ho hw (λG a hfr=>⟨a.eval x,λw _=>by simp[execOp],aK hfr x⟩) h
theorem qr{P:Program}{G:Cx}{t:TypeId}{x y:V}{f:Nat}{v:Value}(r:rel G x v)(h:gw P t x f=some y):∃u,(∀w,(Instr.fieldAt t v f).run P w=.ok u w)∧rel G y u:=by
 unfold gw at h
 split at h
 ·cases h
 ·rename_i fo ty hf
  obtain⟨fs,fd,hu,hfd,h1,h2⟩:=pP hf
  subst h1;subst h2
  cases hs:bs P fd.type with
  | none=>simp_all
  | some n =>
   rw[hs]at h
   simp only at h
   split at h
   ·cases h
   ·rename_i hn
    cases r with
    | ptr k off b q =>
     simp only at h;injection h with h;subst h
     refine⟨_,λw=>?_,.ptr k (off+fd.offset) b q⟩
     simp_all[Instr.fieldAt,run_underlying,Instr.sureAddr,fieldPlace,cn,Addr.add_lit]
    | iptr cs off b o u hF hr =>
     simp only at h;injection h with h;subst h
     refine⟨_,λw=>?_,.iptr cs (off+fd.offset) b o u hF hr⟩
     simp_all[Instr.fieldAt,run_underlying,Instr.sureAddr,fieldPlace,cn,Addr.add_lit]
    | _=>simp at h
theorem loadF_unif {P : Program} {G : Cx} {t : TypeId} {cs : List V} {off : Nat} {x : V} {vs : List Value} {b o : Nat} (h : jv P t cs off = some x) (r : rels G cs vs) :
    ∃v,(∀w:World,(∀(j:Nat) v,vs[j]? = some v→w.cell? ⟨b,o+j,none⟩=some v)→(loadVar t ⟨b,o+off,none⟩).run P w=.ok v w)∧rel G x v:=by
  unfold jv at h
  cases ha:aggT P t with
  | none=>simp_all
  | some q =>
    rw[ha]at h
    cases q with
    | true =>
      cases hs:bs P t with
      | none=>simp_all
      | some n =>
        rw[hs]at h
        simp only at h
        split at h
        · rename_i hle
          injection h with h;subst h
          refine⟨.agg ⟨(vs.drop off).take n⟩,λw hc=>?_,?_⟩
          · have hl:((vs.drop off).take n).length=n:=by simp;have:=r.1;omega
            have:=run_loadCells_list (P:=P) w ⟨b,o+off,none⟩ ((vs.drop off).take n) (λj v hj=>by
              simp_all[Addr.add_lit,List.getElem?_take,Nat.add_assoc])
            simp_all[loadVar,run_agg,cn]
          · have:=ml r off n
            exact .agg _ _ this.1 this.2
        · cases h
    | false =>
      simp only at h
      have hlt:off<cs.length:=by
        grind
      have hv:vs[off]? = some (vs[off]'(r.1▸hlt)):=List.getElem?_eq_getElem _
      refine⟨vs[off]'(r.1▸hlt),λw hc=>?_,r.2 off x _ h hv⟩
      simp[loadVar,run_agg ha,hc _ _ hv]
theorem regH.loadI {j : Nat} {d : Tmp} {t : TypeId} {x : Operand} {cs : List D} {off : Nat} {y : V} {ty : TypeId} {p : String} {af : Array Edge} {gd : Option (Nat × Bool)} (hr : ((Region.ready .any ops L).contains j, Region.free .any ops L j, Region.noSelect ops) = (true, true, true)) (ho : ops.toList[j]? = some ⟨some d, .load t x, ty, p, af, gd⟩) (hw : bo ops fr ⟨some d, .load t x, ty, p, af, gd⟩ = some true)
    (hx:aN fr x=.iptr cs off) (hp:jv P t (gM cs) off=some y) (h:regH g ops K (L.setIfInBounds j true) (putF fr (some d) y) s):regH g ops K L fr s:=by
  refine regH.firstF hr ho hw (λG a hfr=>?_) h
  obtain⟨b,o,u,hv,hF,hrr⟩:=inv_iptr (hx▸aK hfr x)
  obtain⟨v,h1,h2⟩:=loadF_unif (P:=P) (b:=b) (o:=o) hp (mQ (G:=G) (u:=u) hrr)
  refine⟨v,λw hS=>?_,h2⟩
  have:=h1 w (λj v hj=>by
    rw[List.getElem?_map]at hj
    cases hc:cs[j]? with
    | none =>
      simp_all
    | some z =>
      rw[List.getElem?_range (aF hc)]at hj
      simp at hj;subst hj
      exact hS _ _ _ (hF j z hc))
  simp_all[execOp,Instr.loadAt,Instr.sureAddr]
end
end Go.Proofs.YtphbhdoljnokkaaGreatDoor
