import Derived.Test.YtplhejpjnfjopaaGreatDoorBall
import Derived.Test.YtplhejpjnfjopaaGreatDoorMLTopFolded
open Bool renaming false_eq_true → zA
namespace Go.Proofs.YtplhejpjnfjopaaGreatDoor
open Go.RowKit
set_option linter.unusedVariables false
set_option linter.unusedSimpArgs false
theorem awake53:fY=some true:=by kernel_rfl
structure FoldOk (n:Int) (i:Nat) (b:aa):Prop where
 v:df b
 o:letV b 79=false
 c:hasV b 77 98000=false
 r:hasV b 77 99000=false
 e:hasV b 77 30000=decide ((i:Int)=n)
theorem hasV_codes(b:aa)(x:Int):hasV b 77 x=(fm b.Words 77).any (λk=>x==k):=(codes_has b.Words 77 x).symm
theorem topFolded_plain(a0:List aa)(a1:fc)(a2:Int)(h0:(inList inApiBlock) a0)(h1:inR45Table a1)(h2:(inInt .u8) a2):ez a0 a1 a2=some true:=by
 suffices h:Tot (ez a0 a1 a2) (λe=>e=true) by
  obtain⟨e,e1,e2⟩:=h
  rw[e1,e2]
 have hlen:a0.length≤9223372036854775807:=h0.1
 have ha2:0≤a2∧a2≤255:=by
  simp[inInt,Lit.wf,IntKind.min,IntKind.max,IntKind.signed,IntKind.bits]at h2
  omega
 unfold ez
 rw[awake53,al,if_pos rfl]
 refine Tot.bind (E:=λv=>v=true∨(fewP a0 30∧a1.Lengths.length≤20∧f9 a1=some 0)) (Tot.bind (r47_Few_tot30 a0 hlen) λb hb=>Tot.ite (λq=>?_) (λ_=>.ok (.inl rfl))) (λv hv=>Tot.ite (λ_=>?_) (λq=>?_))
 ·have hf:=hb q
  refine Tot.ite (λ_=>.ok (.inl rfl)) (λq2=>?_)
  have hl20:a1.Lengths.length≤20:=by simp at q2;omega
  obtain⟨e,he,_⟩:=r45_Valid_tot a1 (by omega)
  rw[he,al]
  refine .ok ?_
  by_cases e0:e=0
  ·right;rw[e0];exact⟨hf,hl20,rfl⟩
  ·left;simpa using e0
 ·rw[al];exact .ok rfl
 ·obtain⟨hf,hl20,hval⟩:=hv.resolve_left (by rw[q];simp)
  have hf1:a0.length≤30:=by have:=hf.1;omega
  have hfew:∀b∈a0,fewB b:=λb hb=>by have:=(hf.2 b hb).1;unfold fewB;omega
  refine Tot.bindX (E:=λ_=>∀i b,a0[i]? = some b→FoldOk ((a0.length:Int)-1) i b) (TotX.guard (aZ hlen) (TotX.of (Tot.range (λi _=>∀j b,j<i→a0[j]? = some b→FoldOk ((a0.length:Int)-1) j b) _ (λj b h=>by omega) (λi b v hb hr=>?_) (λv hr=>.ok (λi b hb=>hr i b (ao hb) hb))))) (λ_ hall=>?_)
  ·have hm:=List.mem_of_getElem? hb
   have hbl:=hf.2 b hm
   have hi:=ao hb
   refine TotX.bind (bk_Valid_totB b (by omega) (by omega)) λe he=>TotX.ite (λ_=>.ret rfl) (λq0=>?_)
   have hvp:df b:=by
    rcases he with⟨_,h⟩|⟨h,_⟩
    ·exact h
    ·rw[h]at q0;simp at q0
   refine TotX.bind (call_tot (hfew b hm)) λr hr2=>?_
   rw[bk_Find_eqB b 77 (by omega),al,bk_Find_eqB b 79 (by omega),al,fq b 77 (by omega),find_let,wrap_i64 (by omega) (by omega)]
   simp only[al]
   refine TotX.bind (E:=λv=>v=true∨FoldOk ((a0.length:Int)-1) i b) ?_ (λv hv=>TotX.ite (λ_=>.ret rfl) (λq9=>.go (λj c hj hc=>?_)))
   ·refine Tot.ite (λ_=>.ok (.inl rfl)) (λq1=>Tot.ite (λ_=>.ok (.inl rfl)) (λq2=>?_))
    have hfc:=findV_codes 77 b.Words
    have ho:=find_let b 77
    have hh:=hasV_codes b
    cases hcd:fm b.Words 77 with
    | nil =>
     rw[hcd]at hfc
     rw[hfc]
     refine Tot.ite (λq3=>by simp at q3) (λ_=>Tot.ite (λ_=>.ok (.inl rfl)) (λ_=>.ok ?_))
     by_cases hi2:(i:Int)=(a0.length:Int)-1
     ·left;simp[hi2]
     ·right
      refine⟨hvp,q1,?_,?_,?_⟩
      ·rw[hh,hcd];rfl
      ·rw[hh,hcd];rfl
      ·rw[hh,hcd,decide_eq_false hi2];rfl
    | cons x r =>
     rw[hcd]at hfc
     rw[hfc]
     refine Tot.ite (λ_=>?_) (λq3=>by simp at q3)
     refine Tot.ite (λ_=>.ok (.inl rfl)) (λq4=>Tot.ite (λ_=>.ok (.inl rfl)) (λq5=>Tot.ite (λ_=>.ok (.inl rfl)) (λq6=>.ok ?_)))
     have hr0:r=[]:=by
      simp only[List.length_cons,decide_eq_false_iff_not]at q6
      exact List.eq_nil_of_length_eq_zero (by omega)
     subst hr0
     simp at q4 q5
     by_cases hi2:(i:Int)=(a0.length:Int)-1
     ·by_cases hx:x=30000
      ·right
       refine⟨hvp,q1,?_,?_,?_⟩
       ·rw[hh,hcd];simp;omega
       ·rw[hh,hcd];simp;omega
       ·rw[hh,hcd,decide_eq_true hi2,hx];rfl
      ·left;simp[hi2,hx]
     ·by_cases hx:x=30000
      ·left;simp[hi2,hx]
      ·right
       refine⟨hvp,q1,?_,?_,?_⟩
       ·rw[hh,hcd];simp;omega
       ·rw[hh,hcd];simp;omega
       ·rw[hh,hcd,decide_eq_false hi2];simp;omega
   ·rcases Nat.lt_or_ge j i with z | z
    ·exact hr j c z hc
    ·obtain rfl:j=i:=by omega
     rw[hb]at hc;injection hc with hc;subst hc
     exact hv.resolve_left (by rw[q9];simp)
  ·refine Tot.ite (λ_=>.ok rfl) (λqn=>?_)
   have hne:a0≠[]:=by
    intro e;rw[e]at qn;simp at qn
   obtain⟨X,E,rfl⟩:∃X E,a0=X++[E]:=⟨a0.dropLast,a0.getLast hne,(List.dropLast_concat_getLast hne).symm⟩
   have hXl:X.length≤29:=by simp at hf1;omega
   have hXi:∀b∈X,FreeB b∧hasV b 77 98000=false:=λb hb=>by
    obtain⟨i,hi⟩:=List.mem_iff_getElem?.1 hb
    have hil:=ao hi
    have:=hall i b (by rw[List.getElem?_append_left hil,hi])
    refine⟨⟨hfew b (by simp[hb]),this.o,?_,this.r⟩,this.c⟩
    rw[this.e,decide_eq_false (by simp;omega)]
   have hEi:=hall X.length E (by simp)
   have hE:EndB E:=⟨hfew E (by simp),hEi.o,by rw[hEi.e,decide_eq_true (by simp)],hEi.r⟩
   have hval':∀b∈X++[E],df b:=λb hb=>by
    obtain⟨i,hi⟩:=List.mem_iff_getElem?.1 hb
    exact (hall i b hi).v
   have hn1:Int.tmod a2 6=a2 % 6:=Int.tmod_eq_emod_of_nonneg ha2.1
   obtain⟨n,hn,hn2⟩:∃n:Nat,IntKind.i64.wrap (1+IntKind.i64.wrap (Int.tmod a2 6))=(n:Int)∧1≤n∧n≤100:=by
    refine⟨(1+a2 % 6).toNat,?_,by omega,by omega⟩
    rw[hn1,wrap_i64 (n:=a2 % 6) (by omega) (by omega),wrap_i64 (by omega) (by omega)]
    omega
   obtain⟨p,A,p',f1,f2,f3,f4,f5,f6⟩:=fold_round hXi hE hEi.c hn2.1 hn2.2 (by omega)
   have hvA:∀b∈A,df b:=λb hb=>by
    rcases f4 b hb with q | q | q | q
    ·exact hval' b q
    ·subst q;unfold df callC okW;simp
    ·subst q;unfold df markB okW;simp
    ·subst q;unfold df markB okW;simp
   have hpr:=print_ok A (by omega) hvA
   have hpg:=program_ok A (by omega) hvA
   have hu:=map_loop (λe2:cP=>aJ.mk e2.Number e2.Length) a1.Lengths (by omega)
   have hth:aF.mk a1.Work (a1.Lengths.map λe2:cP=>aJ.mk e2.Number e2.Length)=dj a1:=rfl
   have htl:(dj a1).Lengths.length≤1000:=by simp[dj];omega
   have hchk:cQ (dj a1) ⟨0,0,0⟩=some 0:=by
    unfold cQ
    rw[show aF.mk (dj a1).Work (dj a1).Lengths=dj a1 from rfl,valid_same a1 (by omega),hval,al,if_neg (by simp),inp_inside_eq,al,decide_eq_true (show inR ⟨0,0,0⟩ by unfold inR;simp)]
    rfl
   have hcl:=clone_eq (l:=X++[E]) (by simp;omega)
   have hokS:∀b∈X++[E],okS b:=λb hb=>okS_valid (hval' b hb)
   have hbl:=inp_Blocks_eq (X++[E]) (dj a1) ⟨0,0,0⟩ 0 hchk (by simp;omega) hokS htl
   rw[if_neg (by simp)]at hbl
   have hrun:=runB_ok (dj a1) (X++[E]).length ⟨0,0,0⟩ htl (X++[E]) 0 ([],⟨0,0,0⟩,newS,zC) hokS (by simp) ⟨⟨rfl,by simp,by unfold inR endW;simp⟩,by simp,by simp,by simp⟩ rfl
   rw[hu,al,hcl,al,hn,f1,al,f2,al,hpr,al]
   simp only[bne_self_eq_false,Bool.or_self,zA,if_false,al,hth]
   rw[hbl,al]
   generalize runB (dj a1) (X++[E]).length 0 (X++[E]) ([],⟨0,0,0⟩,newS,zC)=R at hbl hrun ⊢
   have hR:inp_Run (prt A) (dj a1) ⟨0,0,0⟩=some (R.1,R.2,0):=by
    unfold inp_Run
    rw[show aF.mk (dj a1).Work (dj a1).Lengths=dj a1 from rfl,hchk,al,if_neg (by simp),hpg,al]
    simp only[bne_self_eq_false,zA,if_false]
    rw[f5,al]
    simp only[bne_self_eq_false,zA,if_false]
    rw[f6,al]
    simp only[bne_self_eq_false,zA,if_false]
    rw[hbl,al]
   rw[hR,al]
   simp only[beq_self_eq_true,Bool.and_self,if_true]
   rw[equal_self R.1 (by have:=hrun.1.2.2.2;omega)]
   exact .ok rfl
end Go.Proofs.YtplhejpjnfjopaaGreatDoor
