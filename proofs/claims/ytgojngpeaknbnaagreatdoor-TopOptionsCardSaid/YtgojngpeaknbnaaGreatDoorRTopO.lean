import Derived.Test.YtgojngpeaknbnaaGreatDoorKall
import Derived.Test.YtgojngpeaknbnaaGreatDoorMLTopOptions
namespace Go.Proofs.YtgojngpeaknbnaaGreatDoor
open Go.RowKit
set_option linter.unusedVariables false
set_option linter.unusedSimpArgs false
theorem in_posO{p:ae}(h:inApiPos p):okPos p:=⟨kh h.1,kh h.2.1,kh h.2.2⟩
theorem okJob_ofO{j:bz}(h:gc j):okJob j:=by
 obtain⟨⟨h1,h2⟩,h3,h4⟩:=h
 refine⟨h1,in_posO h3,in_posO h4,λs hs=>⟨(h2 s hs).2.1,λm hm=>?_⟩⟩
 obtain⟨a,⟨b1,b2,b3⟩,⟨c1,c2⟩,d⟩:=(h2 s hs).2.2 m hm
 exact⟨kh a,⟨kh b1,kh b2,kh b3⟩,kh c1,kh c2,kh d⟩
theorem topOptions_plain(a0:bz)(a1 a2:Int)(h0:gc a0)(h1:(inInt .u8) a1)(h2:(inInt .u8) a2):dz a0 a1 a2=some true:=by
  suffices h:Tot (dz a0 a1 a2) (λe=>e=true) by
    obtain⟨e,e1,e2⟩:=h
    rw[e1,e2]
  unfold dz
  rw[awake53p,ah,if_pos rfl]
  refine Tot.bind (E:=λv=>v=true∨Few53 a0) (Tot.bind (few53_tot (okJob_ofO h0)) λb hb=>.ok (by
    cases b with
    | true=>exact .inr (hb rfl)
    | false=>exact .inl rfl)) (λv hv=>Tot.ite (λ_=>?_) (λq=>?_))
  · rw[ah];exact .ok rfl
  · obtain⟨F1,F2,F3,F4,F5⟩:=hv.resolve_left (by rw[q];simp)
    obtain⟨c,n,f,o1,o2⟩:=options53_eq (in_u8 h1)
    obtain⟨c',n',f',o3,o4⟩:=options53_eq (in_u8 h2)
    rw[o1,ah]
    by_cases hp0:(bj a0.Stages a0.Start 55000).2=0
    · obtain⟨v,hv⟩:=plain_go hp0
      have hG:=okG_of _ _ _ hv F4
      obtain⟨_,_,_,e1⟩:=(emit_text (c:=c) F3 F2 F5 hG o2).resolve_left (λz=>z.1 hp0)
      obtain⟨_,_,_,e2⟩:=(emit_text (c:=c') F3 F2 F5 hG o4).resolve_left (λz=>z.1 hp0)
      obtain⟨ms,r1,r2,r3⟩:=run_text (c:=c) F3 F2 F5 hG F1 o2 hp0
      obtain⟨ms',r4,r5,r6⟩:=run_text (c:=c') F3 F2 F5 hG F1 o4 hp0
      rw[e1,ah,o3,ah,e2,ah,lengths53_eq,ah,add_off F2 F3]
      simp only[bne_self_eq_false,Bool.or_self,Bool.false_eq_true,if_false]
      rw[r1,ah,r4,ah]
      simp only[beq_self_eq_true,if_true]
      rw[plain53_eq _ (by omega),ah,plain53_eq _ (by omega),ah,r2,r5,equal_self _ (by rw[←r2,List.length_map];omega)]
      exact .ok rfl
    · have e1:=emit_err (c:=c) F2 F5 o2 hp0
      have e2:=emit_err (c:=c') F2 F5 o4 hp0
      rw[e1,ah,o3,ah,e2,ah,if_pos (by simp[hp0])]
      exact .ok (by simp)
end Go.Proofs.YtgojngpeaknbnaaGreatDoor
