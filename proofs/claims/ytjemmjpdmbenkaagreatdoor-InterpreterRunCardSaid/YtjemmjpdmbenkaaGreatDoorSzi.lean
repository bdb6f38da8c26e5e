import Derived.Test.YtjemmjpdmbenkaaGreatDoorSzz
import Derived.OrdersHeld
namespace Go.Proofs.YtjemmjpdmbenkaaGreatDoor
open Go.RowKit
set_option linter.unusedVariables false
set_option linter.unusedSimpArgs false
def FxS(G:Cx)(w:World):Prop:=∀b o v,G.F b o v→w.cell? ⟨b,o,none⟩=some v
theorem np{P:Program}{ops:Array Oper}{Q:Exit→Act→World→Prop}{S S':World→Prop}(hS:∀w,S' w→S w):∀(f:Nat) (L:Array Bool) (a:Act) (w:World),wpAnyH P .any ops Q S' f L a w→wpAnyH P .any ops Q S f L a w
 | 0,_,_,_,h=>h
 | f+1,_,_,_,h=>⟨h.1,λi hi=>wpOp_mono (λa' w' h'=>⟨hS _ h'.1,np hS f _ a' w' h'.2⟩) (h.2 i hi)⟩
theorem fw{P:Program}{ops:Array Oper}{S:World→Prop}{Q:Exit→Act→World→Prop}:∀(f:Nat) (L:Array Bool) (a:Act) (w:World),wpAnyH P .any ops (λe a w=>e=.normal∧Q .normal a w) S f L a w→wpAnyH P .any ops Q S f L a w
 | 0,L,a,w,h=>⟨h.1,h.2.2⟩
 | f+1,L,a,w,h=>by
  refine⟨λq=>(h.1 q).2,λi hi=>?_⟩
  have h2:=h.2 i hi
  unfold wpOp at h2 ⊢
  cases ho:ops[i]? with
  | none=>rw[ho]at h2;exact⟨h2.1,fw f _ a w h2.2⟩
  | some o =>
   rw[ho]at h2
   simp only at h2 ⊢
   split
   ·rename_i hw
    rw[od hw]at h2
    exact wpOp_of (λe a w he q=>he q.1) (λa w q=>⟨q.1,fw f _ a w q.2⟩) h2
   ·rename_i hw
    rw[oc hw]at h2
    exact⟨h2.1,fw f _ _ w h2.2⟩
def regH{P:Program}(g:Pg P)(ops:Array Oper)(K:Fr→Sg→Prop)(L:Array Bool)(fr:Fr)(s:Sg):Prop :=
 L.size=ops.size→∀f,cnt L ops.size≤f→∀(w0:World) (G0 G:Cx) (a:Act) (w:World) (Q:Exit→Act→World→Prop),(∀a w,Post g w0 G0 K a w→Q .normal a w)→G0.le G→HR P w0 w G s→FR G fr a→a.defers=[]→wpAnyH P .any ops Q (FxS G) f L a w
section
variable {P : Program} {g : Pg P} {ops : Array Oper} {K : Fr → Sg → Prop} {L : Array Bool} {fr : Fr} {s : Sg}
theorem regH.toA(h:regH g ops K L fr s):regA g ops K L fr s:=λhL f hf w0 G0 G a w Q hQ h0 hH hfr hd=>wpAny_of_held _ _ _ _ (h hL f hf w0 G0 G a w Q hQ h0 hH hfr hd)
theorem regH.nil(hr:Region.ready .any ops L=[])(h:K fr s):regH g ops K L fr s :=
 λ_ f _ w0 G0 G a w Q hQ h0 hH hfr hd=>wpAnyH_done hr (hQ _ _ ⟨G,fr,s,h0,hH,hfr,hd,h⟩) f
theorem regH.step{R:List Nat}(hr:Region.ready .any ops L=R)(hne:R≠[])(h:∀j∈R,∃o,ops.toList[j]? = some o∧regW g ops [o] fr s (λfr' s'=>regH g ops K (L.setIfInBounds j true) fr' s')):regH g ops K L fr s:=by
  subst hr
  intro hL f hf w0 G0 G a w Q hQ h0 hH hfr hd
  have hlis:∀j∈Region.ready .any ops L,j<L.size∧L.getD j false=false:=by
    intro j hj
    obtain⟨h1,o,ho,_⟩:=mem_ready.1 hj
    have hlt:j<L.size:=by have:=de ho;omega
    refine⟨hlt,?_⟩
    rw[Array.getD_eq_getD_getElem?,Array.getElem?_eq_getElem hlt]at h1 ⊢
    exact h1
  have hpos:0<cnt L ops.size:=by
    obtain⟨j,hj⟩:=List.exists_mem_of_ne_nil _ hne
    obtain⟨h1,h2⟩:=hlis j hj
    rcases Nat.eq_zero_or_pos (cnt L ops.size)with z | z
    · have:=cnt_zero L _ z j (by omega)
      rw[h2]at this;cases this
    · exact z
  obtain⟨f,rfl⟩:∃q,f=q+1:=⟨f-1,by omega⟩
  refine⟨λhe=>absurd he hne,λi hi=>?_⟩
  obtain⟨o,ho,hw⟩:=h i hi
  obtain⟨b1,b2⟩:=hlis i hi
  have hcnt:=(kW L i b1 b2 ops.size).1 (by omega)
  have hl:=hw w0 G G a w (λe a w=>e=.normal∧(FxS G w∧wpAnyH P .any ops Q (FxS G) f (L.setIfInBounds i true) a w)) (λa w hp=>by
    obtain⟨G',fr',s',q1,q2,q3,q4,q5⟩:=hp
    refine⟨rfl,λb o v q=>(q2.fs b o v (q1.F _ _ _ q)).2,?_⟩
    exact np (S':=FxS G') (λw h b o v q=>h b o v (q1.F _ _ _ q)) _ _ _ _ (q5 (by simpa using hL) f (by omega) w0 G0 G' a w Q hQ (h0.trans q1) q2 q3 q4)) (Cx.le.refl G) hH hfr hd
  unfold wpList at hl
  unfold wpOp
  rw[show ops[i]? = some o by simpa using ho]
  simp only at hl ⊢
  split
  · rename_i hw'
    rw[od hw']at hl
    exact wpOp_of (λe a w he q=>he q.1) (λa w q=>q.2) hl
  · rename_i hw'
    rw[oc hw']at hl
    exact hl.2
theorem regH.one{j:Nat}{o:Oper}(hr:Region.ready .any ops L=[j])(ho:ops.toList[j]? = some o)(h:regW g ops [o] fr s (λfr' s'=>regH g ops K (L.setIfInBounds j true) fr' s')):regH g ops K L fr s :=
 regH.step hr (by simp) (λi hi=>by simp at hi;subst hi;exact⟨o,ho,h⟩)
theorem regH.two{j k:Nat}{o p:Oper}(hr:Region.ready .any ops L=[j,k])(ho:ops.toList[j]? = some o)(hp:ops.toList[k]? = some p)(h:regW g ops [o] fr s (λfr' s'=>regH g ops K (L.setIfInBounds j true) fr' s'))
  (h2:regW g ops [p] fr s (λfr' s'=>regH g ops K (L.setIfInBounds k true) fr' s')):regH g ops K L fr s :=
 regH.step hr (by simp) (λi hi=>by
  simp at hi
  rcases hi with rfl | rfl
  ·exact⟨o,ho,h⟩
  ·exact⟨p,hp,h2⟩)
theorem regH.three{j k l:Nat}{o p q:Oper}(hr:Region.ready .any ops L=[j,k,l])(ho:ops.toList[j]? = some o)(hp:ops.toList[k]? = some p)(hq:ops.toList[l]? = some q)(h:regW g ops [o] fr s (λfr' s'=>regH g ops K (L.setIfInBounds j true) fr' s'))
  (h2:regW g ops [p] fr s (λfr' s'=>regH g ops K (L.setIfInBounds k true) fr' s')) (h3:regW g ops [q] fr s (λfr' s'=>regH g ops K (L.setIfInBounds l true) fr' s')):regH g ops K L fr s :=
 regH.step hr (by simp) (λi hi=>by
  simp at hi
  rcases hi with rfl | rfl | rfl
  ·exact⟨o,ho,h⟩
  ·exact⟨p,hp,h2⟩
  ·exact⟨q,hq,h3⟩)
theorem regH.firstF{j:Nat}{o:Oper}{y:V}(hr:((Region.ready .any ops L).contains j,Region.free .any ops L j,Region.noSelect ops)=(true,true,true))(ho:ops.toList[j]? = some o)(hw:bf ops fr o=some true)
  (hst:∀G a,FR G fr a→∃v,(∀w,FxS G w→(execOp a.eval o).run P w=.ok (.value v) w)∧rel G y v) (h:regH g ops K (L.setIfInBounds j true) (putF fr o.dst y) s):regH g ops K L fr s:=by
 intro hL f hf w0 G0 G a w Q hQ h0 hH hfr hdf
 injection hr with hr1 hr2
 injection hr2 with hr2 hr3
 have hj:j∈Region.ready .any ops L:=by simpa using hr1
 obtain⟨h1,o',ho',_⟩:=mem_ready.1 hj
 have hlt:j<L.size:=by have:=de ho';omega
 have hun:L.getD j false=false:=by
  rw[Array.getD_eq_getD_getElem?,Array.getElem?_eq_getElem hlt]at h1 ⊢
  exact h1
 have ho2:ops[j]? = some o:=by simpa using ho
 have hcnt:=(kW L j hlt hun ops.size).1 (by omega)
 obtain⟨f,rfl⟩:∃q,f=q+1:=⟨f-1,by omega⟩
 obtain⟨v,hv,hrel⟩:=hst G a hfr
 have hY:YieldsIf P ops (FxS G) o v a:=.inl ⟨du hfr hw,hv⟩
 have hS:FxS G w:=λb o v q=>(hH.fs b o v q).2
 refine fw _ _ _ _ (wpAnyH_first (Q:=λe a w=>e=.normal∧Q .normal a w) ho2 (Region.noSelect_spec hr3) (λc a w q=>by cases q.1) f L a w (Region.free_spec ho2 hr2) hj hY hS ?_)
 exact h (by simpa using hL) f (by omega) w0 G0 G _ w _ (λa w q=>⟨rfl,hQ a w q⟩) h0 hH (eG hfr hrel o.dst) (by rw[bu];exact hdf)
theorem regH.moveB{j:Nat}{d:Tmp}{x:Operand}{ty:TypeId}{p:String}{af:Array Edge}{gd:Option (Nat×Bool)}(hr:((Region.ready .any ops L).contains j,Region.free .any ops L j,Region.noSelect ops)=(true,true,true))(ho:ops.toList[j]? = some ⟨some d,.move x,ty,p,af,gd⟩)(hw:bf ops fr ⟨some d,.move x,ty,p,af,gd⟩=some true)
  (h:regH g ops K (L.setIfInBounds j true) (putF fr (some d) (aR fr x)) s):regH g ops K L fr s :=
 regH.firstF hr ho hw (λG a hfr=>⟨a.eval x,λw _=>by simp[execOp],aV hfr x⟩) h
theorem regH.assignB{j:Nat}{d:Tmp}{x:Operand}{ty:TypeId}{p:String}{af:Array Edge}{gd:Option (Nat×Bool)}(hr:((Region.ready .any ops L).contains j,Region.free .any ops L j,Region.noSelect ops)=(true,true,true))(ho:ops.toList[j]? = some ⟨some d,.assign x,ty,p,af,gd⟩)(hw:bf ops fr ⟨some d,.assign x,ty,p,af,gd⟩=some true)
  (h:regH g ops K (L.setIfInBounds j true) (putF fr (some d) (aR fr x)) s):regH g ops K L fr s :=
 regH.firstF hr ho hw (λG a hfr=>⟨a.eval x,λw _=>by simp[execOp],aV hfr x⟩) h
theorem ng{P:Program}{G:Cx}{t:TypeId}{x y:V}{f:Nat}{v:Value}(r:rel G x v)(h:dE P t x f=some y):∃u,(∀w,(Instr.fieldAt t v f).run P w=.ok u w)∧rel G y u:=by
 unfold dE at h
 split at h
 ·cases h
 ·rename_i fo ty hf
  obtain⟨fs,fd,hu,hfd,h1,h2⟩:=mG hf
  subst h1;subst h2
  cases hs:bh P fd.type with
  | none=>rw[hs]at h;cases h
  | some n =>
   rw[hs]at h
   simp only at h
   split at h
   ·cases h
   ·rename_i hn
    cases r with
    | ptr k off b q =>
     simp only at h;injection h with h;subst h
     refine⟨_,λw=>?_,.ptr k (off+fd.offset) b q⟩
     simp[Instr.fieldAt,run_underlying hu,hfd,Instr.sureAddr,fieldPlace,bB hs,hn,Addr.add_lit]
    | iptr cs off b o u hF hr =>
     simp only at h;injection h with h;subst h
     refine⟨_,λw=>?_,.iptr cs (off+fd.offset) b o u hF hr⟩
     simp[Instr.fieldAt,run_underlying hu,hfd,Instr.sureAddr,fieldPlace,bB hs,hn,Addr.add_lit,Nat.add_assoc]
    | _=>simp at h
theorem loadF_unif {P : Program} {G : Cx} {t : TypeId} {cs : List V} {off : Nat} {x : V} {vs : List Value} {b o : Nat} (h : gV P t cs off = some x) (r : rels G cs vs) :
    ∃v,(∀w:World,(∀(j:Nat) v,vs[j]? = some v→w.cell? ⟨b,o+j,none⟩=some v)→(loadVar t ⟨b,o+off,none⟩).run P w=.ok v w)∧rel G x v:=by
  unfold gV at h
  cases ha:aggT P t with
  | none=>rw[ha]at h;cases h
  | some q =>
    rw[ha]at h
    cases q with
    | true =>
      cases hs:bh P t with
      | none=>rw[hs]at h;cases h
      | some n =>
        rw[hs]at h
        simp only at h
        split at h
        · rename_i hle
          injection h with h;subst h
          refine⟨.agg ⟨(vs.drop off).take n⟩,λw hc=>?_,?_⟩
          · have hl:((vs.drop off).take n).length=n:=by simp;have:=r.1;omega
            have:=run_loadCells_list (P:=P) w ⟨b,o+off,none⟩ ((vs.drop off).take n) (λj v hj=>by
              rw[Addr.add_lit]
              rw[List.getElem?_take]at hj
              split at hj
              · rw[List.getElem?_drop]at hj
                have:=hc _ _ hj
                rwa [←Nat.add_assoc]at this
              · cases hj)
            rw[hl]at this
            simp only[loadVar,Sem.run_bind,ny ha,Result.andThen_ok,og,bB hs,this,Sem.run_pure]
          · have:=jF r off n
            exact .agg _ _ this.1 this.2
        · cases h
    | false =>
      simp only at h
      have hlt:off<cs.length:=by
        rcases Nat.lt_or_ge off cs.length with q | q
        · exact q
        · rw[List.getElem?_eq_none q]at h;cases h
      have hv:vs[off]? = some (vs[off]'(r.1▸hlt)):=List.getElem?_eq_getElem _
      refine⟨vs[off]'(r.1▸hlt),λw hc=>?_,r.2 off x _ h hv⟩
      simp[loadVar,ny ha,hc _ _ hv]
theorem regH.fieldI{j:Nat}{d:Tmp}{t:TypeId}{x:Operand}{i:Nat}{y:V}{ty:TypeId}{p:String}{af:Array Edge}{gd:Option (Nat×Bool)}(hr:((Region.ready .any ops L).contains j,Region.free .any ops L j,Region.noSelect ops)=(true,true,true))(ho:ops.toList[j]? = some ⟨some d,.fieldAddr t x i,ty,p,af,gd⟩)(hw:bf ops fr ⟨some d,.fieldAddr t x i,ty,p,af,gd⟩=some true)
  (hp:dE P t (aR fr x) i=some y) (h:regH g ops K (L.setIfInBounds j true) (putF fr (some d) y) s):regH g ops K L fr s:=by
 refine regH.firstF hr ho hw (λG a hfr=>?_) h
 obtain⟨u,h1,h2⟩:=ng (P:=P) (aV hfr x) hp
 exact⟨u,λw _=>by simp[execOp,h1 w],h2⟩
theorem regH.loadI {j : Nat} {d : Tmp} {t : TypeId} {x : Operand} {cs : List D} {off : Nat} {y : V} {ty : TypeId} {p : String} {af : Array Edge} {gd : Option (Nat × Bool)} (hr : ((Region.ready .any ops L).contains j, Region.free .any ops L j, Region.noSelect ops) = (true, true, true)) (ho : ops.toList[j]? = some ⟨some d, .load t x, ty, p, af, gd⟩) (hw : bf ops fr ⟨some d, .load t x, ty, p, af, gd⟩ = some true)
    (hx:aR fr x=.iptr cs off) (hp:gV P t (fP cs) off=some y) (h:regH g ops K (L.setIfInBounds j true) (putF fr (some d) y) s):regH g ops K L fr s:=by
  refine regH.firstF hr ho hw (λG a hfr=>?_) h
  obtain⟨b,o,u,hv,hF,hrr⟩:=inv_iptr (hx▸aV hfr x)
  obtain⟨v,h1,h2⟩:=loadF_unif (P:=P) (b:=b) (o:=o) hp (mD (G:=G) (u:=u) hrr)
  refine⟨v,λw hS=>?_,h2⟩
  have:=h1 w (λj v hj=>by
    rw[List.getElem?_map]at hj
    cases hc:cs[j]? with
    | none =>
      rw[List.getElem?_eq_none (by rw[List.length_range];exact List.getElem?_eq_none_iff.1 hc)]at hj
      cases hj
    | some z =>
      rw[List.getElem?_range (ak hc)]at hj
      simp at hj;subst hj
      exact hS _ _ _ (hF j z hc))
  simp only[execOp,Instr.loadAt,hv,Instr.sureAddr,Sem.run_bind,Sem.run_pure,Result.andThen_ok,this]
end
end Go.Proofs.YtjemmjpdmbenkaaGreatDoor
