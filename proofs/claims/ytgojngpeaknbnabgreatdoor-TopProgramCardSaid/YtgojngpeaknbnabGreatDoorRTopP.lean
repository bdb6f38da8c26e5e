import Derived.Test.YtgojngpeaknbnabGreatDoorKall
import Derived.Test.YtgojngpeaknbnabGreatDoorMLTopProgram
open Bool renaming false_eq_true → zA,or_self → zE
open List renaming nil_append → zB,length_cons → zD
namespace Go.Proofs.YtgojngpeaknbnabGreatDoor
open Go.RowKit
set_option linter.unusedVariables false
set_option linter.unusedSimpArgs false
theorem in_posP{p:ae}(h:inApiPos p):okPos p:=⟨kr h.1,kr h.2.1,kr h.2.2⟩
theorem okJob_ofP{j:bA}(h:gk j):okJob j:=by
 obtain⟨⟨h1,h2⟩,h3,h4⟩:=h
 refine⟨h1,in_posP h3,in_posP h4,λs hs=>⟨(h2 s hs).2.1,λm hm=>?_⟩⟩
 obtain⟨a,⟨b1,b2,b3⟩,⟨c1,c2⟩,d⟩:=(h2 s hs).2.2 m hm
 exact⟨kr a,⟨kr b1,kr b2,kr b3⟩,kr c1,kr c2,kr d⟩
def wnt(d:ae)(n:Int):ae→List ag→List ag
 | _,[]=>[]
 | a,m::l=>⟨a,addP m.To d,m.Rate,n,0⟩::wnt d n (addP m.To d) l
def lastW(d:ae):ae→List ag→ae
 | a,[]=>a
 | _,m::l=>lastW d (addP m.To d) l
theorem wnt_bare(d:ae)(n:Int):∀(l:List ag) (a:ae),wnt d n a (l.map bare0)=wnt d n a l∧lastW d a (l.map bare0)=lastW d a l
 | [],_=>⟨rfl,rfl⟩
 | m::l,a=>by
  obtain⟨h1,h2⟩:=wnt_bare d n l (addP m.To d)
  rw[List.map_cons,wnt,wnt,lastW,lastW]
  exact⟨congrArg _ h1,h2⟩
theorem wnt_chn(d:ae)(n:Int):∀(L:List ap) (p:ae),wnt d n (addP p d) (chn zP n p L)=chn d n (addP p d) L∧lastW d (addP p d) (chn zP n p L)=lastP d (addP p d) L
 | [],_=>⟨rfl,rfl⟩
 | x::L,p=>by
  obtain⟨h1,h2⟩:=wnt_chn d n L x.at_
  rw[chn,chn,add_zP,lastP]
  by_cases q:x.at_=p
  ·rw[if_pos (jr.2 q),if_pos (jr.2 (by rw[q])),zB,zB]
   subst q
   exact⟨h1,h2⟩
  ·rw[if_neg (λz=>q (jr.1 z)),if_neg (λz=>q (add_inj.1 (jr.1 z)))]
   simp only[List.cons_append,zB,wnt,lastW]
   exact⟨by rw[h1],h2⟩
theorem want_loop{ε:Type}{f:Nat→ag→List ag×ae→Option (Ex (Ex ε (List ag×ae)) (List ag×ae))}{d:ae}{n:Int}
  (hf:∀i e out a,bv e.To→out.length≤100000→f i e (out,a)=some (.go (out++[⟨a,addP e.To d,e.Rate,n,0⟩],addP e.To d))) :
  ∀(M:List ag) (i:Nat) (out:List ag) (a:ae),(∀e∈M,bv e.To)→out.length+M.length≤100000→aB f (λv=>some (.go (v.1,v.2))) M i (out,a)=some (.go (out++wnt d n a M,lastW d a M))
 | [],i,out,a,_,_=>by simp[aB,wnt,lastW]
 | e::M,i,out,a,hs,hl=>by
  rw[zD]at hl
  rw[aB,hf i e out a (hs e (by simp)) (by omega)]
  simp only
  rw[want_loop hf M (i+1) _ _ (λx hx=>hs x (by simp[hx])) (by simp;omega),wnt,lastW]
  simp
theorem chn_to(n:Int):∀(L:List ap) (p:ae),(∀x∈L,bv x.at_)→∀e∈chn zP n p L,bv e.To
 | [],_,_,e,he=>by simp[chn]at he
 | x::L,p,h,e,he=>by
  rw[chn,add_zP]at he
  rcases List.mem_append.1 he with z | z
  ·split at z
   ·simp at z
   ·simp only[List.mem_cons,List.not_mem_nil,or_false]at z;subst z;exact h x (by simp)
  ·exact chn_to n L _ (λy hy=>h y (by simp[hy])) e z
theorem ways_small:∀(l:List aw) (p:ae),validC p l→bv p→∀x∈waysL p l,bv x.at_
 | [],_,_,_,x,hx=>by simp[waysL]at hx
 | m::r,p,hv,hp,x,hx=>by
  obtain⟨a1,a2,a3,a4,a5⟩:=hv
  rw[waysL]at hx
  rcases List.mem_append.1 hx with z | z
  ·exact (gc a1 hp a2 a3).1 x z
  ·exact ways_small r m.To a5 (fT a2) x z
theorem want_stages{ε:Type}{f:Nat→aR→List ag×ae→Option (Ex ε (List ag×ae))}{d:List ag×ae→Option ε}{o:ae}(h:tenth o)
  (hf:∀i (s:aR) out pm,(1≤s.Tool∧s.Tool≤9)→s.Moves.length≤20→midQ pm→validC (subP pm (offN o s.Tool)) s.Moves→out.length≤50000→f i s (out,pm)=some (.go (out++chn (offN o s.Tool) s.Tool pm (waysL (subP pm (offN o s.Tool)) s.Moves),lastP (offN o s.Tool) pm (waysL (subP pm (offN o s.Tool)) s.Moves)))) :
  ∀(l:List aR) (i:Nat) (out:List ag) (p pm:ae) (v:List aa×ae),bK p l=.go v→okG p l→(∀s∈l,∀m∈s.Moves,dq m)→tenth p→pm.X=p.X+o.X→pm.Y=p.Y+o.Y→midQ pm→out.length+5680*l.length≤50000→∃e,aB f d l i (out,pm)=d (out++motsS o pm l,e)
 | [],i,out,p,pm,v,_,_,_,_,_,_,_,_=>⟨pm,by simp[aB,motsS]⟩
 | g::r,i,out,p,pm,v,hv,hok,hmo,hp,hx,hy,hm,hl=>by
  rw[bK]at hv
  obtain⟨⟨h0,h9⟩,hml,hom,hor⟩:=hok
  by_cases hc:(chgV g.Tool).2=0
  ·rw[if_pos hc]at hv
   cases hq:bS p g.Moves with
   | ret e=>rw[hq]at hv;cases hv
   | go u =>
    rw[hq]at hv
    simp only at hv
    cases hq2:bK u.2 r with
    | ret e=>rw[hq2]at hv;cases hv
    | go w =>
     have hsub:addP (subP pm (offN o g.Tool)) (offN o g.Tool)=pm:=add_sub _ _
     have hvc:=validC_of g.Moves p (subP pm (offN o g.Tool)) u hq hom (hmo g (by simp)) (by unfold subP offN;dsimp only;omega) (by unfold subP offN;dsimp only;omega) (mid_work hm h (by omega) h9)
     obtain⟨_,_,_,_,d4,d5,d6,d7⟩:=run_moves h h0 h9 g.Moves p (subP pm (offN o g.Tool)) ⟨0,90000,55000,43000,0,0,1000*g.Tool,1000*g.Tool⟩ u hq hom hp (by unfold subP offN;dsimp only;omega) (by unfold subP offN;dsimp only;omega) (mid_work hm h (by omega) h9) (by rw[hsub];exact g7 hm) ⟨rfl,rfl,rfl,rfl,rfl⟩
     rw[hsub]at d7
     have hnext:(lastP (offN o g.Tool) pm (waysL (subP pm (offN o g.Tool)) g.Moves)).X=u.2.X+o.X∧(lastP (offN o g.Tool) pm (waysL (subP pm (offN o g.Tool)) g.Moves)).Y=u.2.Y+o.Y∧midQ (lastP (offN o g.Tool) pm (waysL (subP pm (offN o g.Tool)) g.Moves)):=by
      rw[d7]
      split
      ·rename_i hm0
       rw[hm0]at d4
       have d4:u.2=p:=d4
       rw[d4];exact⟨hx,hy,hm⟩
      ·exact⟨rfl,rfl,jM d5 h (by omega) h9⟩
     have hcl:=chn_len (offN o g.Tool) g.Tool (waysL (subP pm (offN o g.Tool)) g.Moves) pm
     rw[zD]at hl
     obtain⟨e,he⟩:=want_stages h hf r (i+1) (out++chn (offN o g.Tool) g.Tool pm (waysL (subP pm (offN o g.Tool)) g.Moves)) u.2 _ w hq2 (by rw[d4];exact hor) (λs hs=>hmo s (by simp[hs])) d5 hnext.1 hnext.2.1 hnext.2.2 (by rw[List.length_append];omega)
     refine⟨e,?_⟩
     rw[aB,hf i g out pm ⟨h0,h9⟩ hml hm hvc (by omega)]
     simp only
     rw[he,motsS,List.append_assoc]
  ·rw[if_neg hc]at hv;cases hv
theorem topProgram_plain(a0:bA)(a1:Int)(h0:gk a0)(h1:(inInt .u8) a1):dy a0 a1=some true:=by
  suffices h:Tot (dy a0 a1) (λe=>e=true) by
    obtain⟨e,e1,e2⟩:=h
    rw[e1,e2]
  unfold dy
  rw[awake53p,ah,if_pos rfl]
  refine Tot.bind (E:=λv=>v=true∨Few53 a0) (Tot.bind (few53_tot (okJob_ofP h0)) λb hb=>.ok (by
    cases b with
    | true=>exact .inr (hb rfl)
    | false=>exact .inl rfl)) (λv hv=>Tot.ite (λ_=>?_) (λq=>?_))
  · rw[ah];exact .ok rfl
  · obtain⟨F1,F2,F3,F4,F5⟩:=hv.resolve_left (by rw[q];simp)
    obtain⟨c,n,f,o1,o2⟩:=options53_eq (in_u8 h1)
    rw[o1,ah]
    by_cases hp0:(bi a0.Stages a0.Start 55000).2=0
    · obtain⟨v,hv⟩:=plain_go hp0
      have hG:=okG_of _ _ _ hv F4
      obtain⟨_,_,_,e1⟩:=(emit_text (c:=c) F3 F2 F5 hG o2).resolve_left (λz=>z.1 hp0)
      obtain⟨ms,r1,r2,r3⟩:=run_text (c:=c) F3 F2 F5 hG F1 o2 hp0
      rw[e1,ah]
      simp only[bne_self_eq_false,zA,if_false]
      rw[lengths53_eq,ah,kO F3 (by omega) (by omega) (fT F2),ah]
      simp only[bne_self_eq_false,zA,if_false]
      rw[r1,ah]
      simp only[bne_self_eq_false,beq_self_eq_true,Bool.and_self,Bool.not_true,zE,zA,if_false]
      have hmid:=jM F2 F3 (n:=0) (by omega) (by omega)
      have key := want_stages (d := λ(v2 : List ag × ae) => some (Ex.go (ε := Bool) (v2.1, v2.2))) (o := a0.Offset) F3 (f := λ(i1 : Nat) (e1 : aR) (v2 : (List ag) × ae) =>
                bindX (bindO (fW (T53 a0.Offset) 55000 e1.Tool v2.2) λ(y9 : ae × Int) =>
                    bindO (fM y9.1 e1.Moves e1.Tool) λ(y10:(List ag)×Int) =>
                    if ((y9.2 != 0)||(y10.2 != 0))=true then
                      some (.ret (.ret (.ret false)))
                    else
                      ax (okIdx y10.1) (
                      aB (λ(i2:Nat) (e2:ag) (v3:(List ag)×ae) =>
                        bindO (bW (T53 a0.Offset) 55000 e1.Tool e2.To) λ(y11:ae×Int) =>
                        if (y11.2 != 0)=true then
                          some (.ret (.ret (.ret (.ret false))))
                        else
                          ax (okLen (v3.1.length+1)) (
                          some (.go (v3.1++[ag.mk v3.2 y11.1 e2.Rate e1.Tool 0],y11.1)))) (λ(v3:(List ag)×ae)=>some (.go (v3.1,v3.2))) y10.1 0 (v2.1,v2.2))) λ(v4:(List ag)×ae) =>
                some (.go (v4.1,v4.2))) ?_ a0.Stages 0 [] a0.Start (addP a0.Start (offN a0.Offset 0)) v hv hG (λs hs=>(F5.2 s hs).2) F2 rfl rfl hmid (by simp;omega)
      · obtain⟨e,he⟩:=key
        rw[aN (by omega),aA,he]
        simp only[fp,zB]
        rw[plain53_eq _ (by omega),ah,r2,equal_self _ (by rw[←r2,List.length_map];omega)]
        exact .ok rfl
      · intro i s out pm ht hml hm hvc ho
        dsimp only
        have hsm:=mid_work hm F3 (n:=s.Tool) (by omega) ht.2
        obtain⟨M,m1,m2,m3⟩:=ip_Motions_eq s.Tool hsm hvc hml
        rw[T53_work F3 (by omega) ht.2 (g7 hm),ah,m1,ah]
        simp only[bne_self_eq_false,zE,zA,if_false]
        have hsub:addP (subP pm (offN a0.Offset s.Tool)) (offN a0.Offset s.Tool)=pm:=add_sub _ _
        have hto:∀e∈M,bv e.To:=λe he=>by
          have:=chn_to s.Tool _ _ (ways_small _ _ hvc hsm) (bare0 e) (by rw[←m2];exact List.mem_map.2 ⟨e,he,rfl⟩)
          exact this
        rw[aN (by omega),aA,want_loop (d:=offN a0.Offset s.Tool) (n:=s.Tool) ?_ M 0 out pm hto (by omega)]
        · rw[fp]
          obtain⟨w1,w2⟩:=wnt_chn (offN a0.Offset s.Tool) s.Tool (waysL (subP pm (offN a0.Offset s.Tool)) s.Moves) (subP pm (offN a0.Offset s.Tool))
          obtain⟨b1,b2⟩:=wnt_bare (offN a0.Offset s.Tool) s.Tool M pm
          rw[hsub]at w1 w2
          rw[←b1,←b2,m2,w1,w2]
        · intro k e out' a hs' ho'
          rw[kO F3 (by omega) ht.2 hs',ah]
          simp only[bne_self_eq_false,zA,if_false]
          rw[aV (by omega),aA]
    · have e1:=emit_err (c:=c) F2 F5 o2 hp0
      rw[e1,ah,if_pos (by simpa using hp0)]
      exact .ok rfl
end Go.Proofs.YtgojngpeaknbnabGreatDoor
