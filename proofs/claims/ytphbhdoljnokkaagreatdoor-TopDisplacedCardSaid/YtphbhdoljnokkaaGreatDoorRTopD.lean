import Derived.Test.YtphbhdoljnokkaaGreatDoorKall
import Derived.Test.YtphbhdoljnokkaaGreatDoorMLTopDisplaced
namespace Go.Proofs.YtphbhdoljnokkaaGreatDoor
open Go.RowKit
set_option linter.unusedVariables false
set_option linter.unusedSimpArgs false
set_option maxRecDepth 100000
theorem in_posD{p:ag}(h:pN p):gx p:=⟨qq h.1,qq h.2.1,qq h.2.2⟩
theorem okJob_ofD{j:ck}(h:lC j):okJob j:=by
 obtain⟨⟨h1,h2⟩,h3,h4⟩:=h
 refine⟨h1,in_posD h3,in_posD h4,λs hs=>⟨(h2 s hs).2.1,λm hm=>?_⟩⟩
 obtain⟨a,⟨b1,b2,b3⟩,⟨c1,c2⟩,d⟩:=(h2 s hs).2.2 m hm
 exact⟨qq a,⟨qq b1,qq b2,qq b3⟩,qq c1,qq c2,qq d⟩
theorem in_i16{n:Int}(h:(lD .i16) n):-32768≤n∧n≤32767:=by
 simp_all[lD,Lit.wf,IntKind.min,IntKind.max,IntKind.signed,IntKind.bits]
theorem std9 : (ac (bK 1 1) λ(y13 : cf) =>
            ac (bK 2 2) λ(y14:cf) =>
            ac (bK 3 3) λ(y15:cf) =>
            ac (bK 4 4) λ(y16:cf) =>
            ac (bK 5 5) λ(y17:cf) =>
            ac (bK 6 6) λ(y18:cf) =>
            ac (bK 7 7) λ(y19:cf) =>
            ac (bK 8 8) λ(y20:cf) =>
            ac (bK 9 9) λ(y21:cf) =>
            some [y13,y14,y15,y16,y17,y18,y19,y20,y21])=some qc:=by kernel_rfl
theorem c1_add{p q:ag}(h1:d9 p)(h2:d9 q):bI p q=some (addP p q):=by
 unfold d9 at h1 h2
 unfold bI
 rw[aE (by omega) (by omega),aE (by omega) (by omega),aE (by omega) (by omega)]
 rfl
theorem topDisplaced_plain(a0:ck)(a1:ag)(a2:mw)(h0:lC a0)(h1:pN a1)(h2:inR07Spot a2):gj a0 a1 a2=some true:=by
  suffices h:Tot (gj a0 a1 a2) (λe=>e=true) by
    obtain⟨e,e1,e2⟩:=h
    rw[e1,e2]
  (unfold gj;try delta jB jR jV gF)
  rw[awake53p,aa,qV rfl]
  have okB:okJob (ck.mk [] a1 (ag.mk 0 0 0)):=okJob_ofD ⟨⟨by simp,λs hs=>by cases hs⟩,h1,by
    refine⟨?_,?_,?_⟩<;>simp[lD,Lit.wf,IntKind.min,IntKind.max,IntKind.signed,IntKind.bits]⟩
  refine Tot.bind (E:=λv=>v=true∨(Few53 a0∧Few53 (ck.mk [] a1 (ag.mk 0 0 0)))) (Tot.bind (few53_tot (okJob_ofD h0)) λb hb=>Tot.ite (λq=>Tot.bind (few53_tot okB) λb2 hb2=>.ok (by
    grind)) (λq=>.ok (.inl rfl))) (λv hv=>Tot.ite (λ_=>?_) (λq=>?_))
  · rw[aa];exact .ok rfl
  · obtain⟨⟨F1,F2,F3,F4,F5⟩,⟨_,G2,_,_,_⟩⟩:=hv.resolve_left (by rw[q];simp)
    have G2:d8 a1:=G2
    have hw:wide (addP a0.Offset a1):=by grind[d8,wide,addP]
    by_cases hp0:(eW a0.Stages a0.Start 55000).2=0
    · obtain⟨v,hv⟩:=plain_go hp0
      have hG:=okG_of _ _ _ hv F4
      have e1:=emit_text F3.wide F2 F5 hG hp0
      obtain⟨ms,r1,r2,r3⟩:=run_text F3.wide F2 F5 hG F1 hp0
      obtain⟨ms',r4,r5,r6⟩:=run_text hw F2 F5 hG F1 hp0
      have ep:addP a0.Start (offN (addP a0.Offset a1) 0)=addP (addP a0.Start (offN a0.Offset 0)) a1:=by rw[offN_mv,addP_comm3]
      rw[ep]at r4 r5
      have hc:ms'.map cutM=(ms.map cutM).map λk=>mvC k a1.X a1.Y a1.Z:=by
        grind[cut_bare,mots_mv]
      have hlen:ms'.length=ms.length:=by have:=congrArg List.length hc;grind
      have hmot:∀m∈ms,MotOk m a1:=by
        intro m hm
        have k:=mots_ok F3 G2 a0.Stages a0.Start (addP a0.Start (offN a0.Offset 0)) v hv hG rfl rfl (pq F2 F3.wide (by omega) (by omega)) (by (simp_all[d8,addP,offN,lenT];omega)) F2 (bare0 m) (by grind)
        exact⟨k.t0,k.t1,k.f,k.t,k.f',k.t',k.d0,k.d1⟩
      have sS:bI a0.Start a0.Offset=some (addP a0.Start (offN a0.Offset 0)):=by
        unfold bI
        rw[add_off F2 F3.wide]
      have sO:bI a0.Offset a1=some (addP a0.Offset a1):=c1_add (kZ F3) (kZ G2)
      have sM:bI (addP a0.Start (offN a0.Offset 0)) a1=some (addP (addP a0.Start (offN a0.Offset 0)) a1):=c1_add (oV (pq F2 F3.wide (by omega) (by omega))) (kZ G2)
      rw[e1,aa]
      dsimp only
      rw[qU (by decide),sS,aa,lengths53_eq,aa,r1,aa,sO,aa,lengths53_eq,aa,sM,aa,r4,aa]
      dsimp only
      rw[qU (by simp_all),std9,aa]
      unfold d8 at G2
      have hx:=in_i16 h2.1
      have hy:=in_i16 h2.2.1
      have hd:=in_u8 h2.2.2
      have:=end_ok (v:=a2) hmot (by omega) hc G2 hx hy hd
      rw[this]
      exact .ok rfl
    · have e1:=emit_err F2 F5 hp0
      rw[e1,aa]
      dsimp only
      rw[qV (by simp_all)]
      exact .ok rfl
end Go.Proofs.YtphbhdoljnokkaaGreatDoor
