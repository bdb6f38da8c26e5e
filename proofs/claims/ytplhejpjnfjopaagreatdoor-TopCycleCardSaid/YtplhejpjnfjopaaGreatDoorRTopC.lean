import Derived.Test.YtplhejpjnfjopaaGreatDoorKall
import Derived.Test.YtplhejpjnfjopaaGreatDoorMLTopCycle
open List renaming length_cons → zA,length_singleton → zB,not_mem_nil → zD,length_map → zE,length_append → zG,mem_cons → zH
open Bool renaming false_eq_true → zF
open Go.IntKind renaming i64 → zI
namespace Go.Proofs.YtplhejpjnfjopaaGreatDoor
open Go.RowKit
set_option linter.unusedVariables false
set_option linter.unusedSimpArgs false
theorem awake53c:gu=some true:=by kernel_rfl
def motEqC(a b:ao):Bool:=(a.From.X==b.From.X)&&((a.From.Y==b.From.Y)&&((a.From.Z==b.From.Z)&&((a.To.X==b.To.X)&&((a.To.Y==b.To.Y)&&((a.To.Z==b.To.Z)&&((a.Rate==b.Rate)&&((a.Tool==b.Tool)&&(a.Block==b.Block))))))))
theorem equal_selfC(l:List ao)(hl:l.length≤9223372036854775807):bj l l=some true:=by
  unfold bj
  simp only[bne_self_eq_false,zF,if_false]
  obtain ⟨e, h1, h2⟩ := Tot.bindX (E := λ_ => True) (F := λb => b = true) (f := λ(_ : Unit) => some true) (TotX.guard (b := okIdx l) (bn hl) (TotX.of (Tot.range (f := λ(i141 : Nat) (e143 : ao) (_ : Unit) =>
          bindO (gt l (i141:Int)) λ(e145:ao) =>
          if (!(motEqC e143 e145))=true then
            some (.ret (.ret false))
          else
            some (.go ())) (d:=λ_=>some (.go ())) (λ_ _=>True) _ trivial (λi x v hx _=>by
    rw[gt_k hx,aA]
    have:motEqC x x=true:=by simp[motEqC]
    rw[this]
    exact .go trivial) (λv _=>.ok trivial)))) (λ_ _=>.ok rfl)
  rw[h2]at h1
  exact h1
theorem plain53_eqC(l:List ao)(hl:l.length≤100000):eR l=some (l.map bare0):=by
 unfold eR bU
 rw[bA (by omega),bO,aA,bn (by omega),bO,range_set bare0 (λi x v e hg=>by rw[hg,aA];rfl),aA]
theorem onto{α β:Type}(g:α→β):∀(l:List α) (i:Nat) (o:List β),o.length+l.length≤1000000→aU (λ(i:Nat) (e:α) (v:List β)=>aF (okLen (v.length+1)) (some (.go (v++[g e])))) (λv=>some v) l i o=some (o++l.map g)
 | [],i,o,_=>by simp[aU]
 | x::l,i,o,h=>by
  rw[zA]at h
  rw[aU,bA (by omega),bO]
  simp only
  rw[onto g l (i+1) _ (by simp;omega)]
  simp
def lastM:ag→List au→ag
 | p,[]=>p
 | _,m::l=>lastM m.To l
theorem blk_loop{ε:Type}{f:Nat→au→List ac×ag→Option (Ex ε (List ac×ag))}{d:List ac×ag→Option ε}
  (hf:∀i m out p,inR p→okMv m→out.length≤100000→f i m (out,p)=some (.go (out++[(movB p m).1],m.To))) :
  ∀(l:List au) (i:Nat) (out:List ac) (p:ag),inR p→(∀m∈l,okMv m)→out.length+l.length≤100000→aU f d l i (out,p)=d (out++blkL p l,lastM p l)
 | [],i,out,p,_,_,_=>by simp[aU,blkL,lastM]
 | m::l,i,out,p,hp,hm,hl=>by
  rw[zA]at hl
  rw[aU,hf i m out p hp (hm m (by simp)) (by omega)]
  simp only
  rw[blk_loop hf l (i+1) _ _ (hm m (by simp)).2.1 (λx hx=>hm x (by simp[hx])) (by simp;omega),blkL,lastM]
  simp
def E30:ac:=⟨false,[⟨77,30000⟩],[]⟩
theorem E30_ok:eN E30:=by
 refine⟨⟨by simp[E30],by simp[E30],λw hw=>?_,by simp[E30]⟩,by decide,by rfl⟩
 simp only[E30,zH,zD,or_false]at hw
 rcases hw with rfl;unfold okW;dsimp only;omega
theorem cy_Block_eq{c:ak}{g:aG}(h:cycV c=0)(hg:nearG g):cy_Block c g=some (fP c g,0):=by
 unfold nearG at hg
 unfold cy_Block
 rw[jh,aA,h,if_neg (by simp),fu,decide_eq_false (show ¬(g.X>10000000∨g.X < -10000000) by omega),aA,if_neg (by simp),fu,decide_eq_false (show ¬(g.Y>10000000∨g.Y < -10000000) by omega)]
 simp only[aA,zF,if_false]
 unfold fP
 by_cases hc:c.Code=83000
 ·cases hh:c.High<;>simp[hc,aA]
 ·cases hh:c.High<;>simp[hc,aA]
theorem both{c:ak}{at_:aG}{l:List aG}{st:ag}(h:cycV c=0)(hl:l.length≤4)(hg:∀g∈at_::l,nearG g)(hst:inR st)(hz:st.Z=c.Initial) :
  ∃m1 m2,cD (([(movB zP ⟨1,st,⟨0,0⟩,0⟩).1,fP c at_]++l.map xyB)++[E30]) T0 zP=some (m1,⟨-1,0⟩)∧cD (([(movB zP ⟨1,st,⟨0,0⟩,0⟩).1]++blkL st (movs c st (at_::l)))++[E30]) T0 zP=some (m2,⟨-1,0⟩)∧m1.map bare0=m2.map bare0∧m1.length≤20000∧m2.length≤20000∧(∀m∈movs c st (at_::l),okMv m):=by
 have ok:=jg h
 obtain⟨q1,q2⟩:=readC_ok h
 have hz0:inR zP:=by unfold inR zP;simp
 have hm1:okMv ⟨1,st,⟨0,0⟩,0⟩:=⟨.inl ⟨rfl,rfl⟩,hst,rfl⟩
 obtain⟨f1,s1,s2,s3⟩:=step_straight (k:=0) (f:=0) (r:=98000) hz0 hm1
 have hfst:lastP zP zP [reM ⟨1,st,⟨0,0⟩,0⟩]=st:=addz st
 obtain⟨g1,g2,g3⟩:=movs_good ok (at_::l) st hst hg
 have hml:=movs_len ok (at_::l) st
 rw[zA]at hml
 obtain⟨a1,a2,a3⟩:=jW ok hst (hg at_ (by simp))
 obtain⟨d1,d2,d3⟩:=step_drill (f:=f1) (r:=98000) h hst (hg at_ (by simp)) hz
 have hrest:=run_xy q1 l (cycM c st at_).1 a1 (λg hgg=>hg g (by simp[hgg]))
 obtain⟨mv1,mv2⟩:=movs_read h l (cycM c st at_).1
 rw[mv1,mv2]at hrest
 have hchk:bC T0 zP=some 0:=checked_0 T0_valid hz0
 have hM:chn zP 0 zP [reM ⟨1,st,⟨0,0⟩,0⟩]++chn zP 0 st ((movs c st (at_::l)).map reM)=chn zP 0 zP [reM ⟨1,st,⟨0,0⟩,0⟩]++(chn zP 0 st ((cycM c st at_).2.map reM)++chn zP 0 (cycM c st at_).1 ((movs c (cycM c st at_).1 l).map reM)):=by
  rw[movs,List.map_append,chn_app,a3]
 have hlen:(chn zP 0 zP [reM ⟨1,st,⟨0,0⟩,0⟩]++chn zP 0 st ((movs c st (at_::l)).map reM)).length≤20000:=by
  rw[zG]
  have e1:=chn_len zP 0 [reM ⟨1,st,⟨0,0⟩,0⟩] zP
  have e2:=chn_len zP 0 ((movs c st (at_::l)).map reM) st
  rw[zE]at e2
  simp only[zB]at e1
  omega
 have hE:=E30_ok
 have hEi:∀(s:am) (c':ak) (p:ag),stepP s c' E30 T0 p=([],s,if cycB s.Motion=true then c' else zC,0):=λs c' p=>stepP_idle hE rfl
 have hxyok:∀b∈l.map xyB,okS b:=λb hb=>by
  obtain⟨g,hgg,rfl⟩:=List.mem_map.1 hb
  have:=hg g (by simp[hgg])
  unfold nearG at this
  refine⟨λw hw=>?_,by simp[xyB],by simp[xyB]⟩
  simp only[xyB,zH,zD,or_false]at hw
  rcases hw with rfl | rfl<;>(unfold u8W;dsimp only;omega)
 -- the short program
 have R1:Runs T0 newS zC zP ([(movB zP ⟨1,st,⟨0,0⟩,0⟩).1,fP c at_]++l.map xyB) (chn zP 0 zP [reM ⟨1,st,⟨0,0⟩,0⟩]++(chn zP 0 st ((cycM c st at_).2.map reM)++chn zP 0 (cycM c st at_).1 ((movs c (cycM c st at_).1 l).map reM))) (S0 c.Code c.Rate (if c.High=true then 98000 else 99000)) (readC c) (posS c (cycM c st at_).1 l):=by
  refine .cons s2 s1 s3 ?_
  rw[kz,hfst]
  refine .cons d2 d1 d3 ?_
  rw[kz,a3]
  exact hrest
 obtain⟨k',f',b1,b2,b3⟩:=run_straight (movs c st (at_::l)) st (1000*(1-1)) f1 98000 hst g2
 have R2:Runs T0 newS zC zP ([(movB zP ⟨1,st,⟨0,0⟩,0⟩).1]++blkL st (movs c st (at_::l))) (chn zP 0 zP [reM ⟨1,st,⟨0,0⟩,0⟩]++chn zP 0 st ((movs c st (at_::l)).map reM)) (S0 k' f' 98000) zC (lastP zP st ((movs c st (at_::l)).map reM)):=by
  refine .cons s2 s1 s3 ?_
  rw[kz,hfst]
  exact b1
 obtain⟨m1,e1,e2⟩:=R1.program T0_len hchk (kl hE.1) (hEi _ _ _) rfl (by rw[←hM];exact hlen) (by simp;omega) (λb hb=>by
  rcases List.mem_append.1 hb with hb | hb
  ·simp only[zH,zD,or_false]at hb
   rcases hb with rfl | rfl
   ·exact s2
   ·exact d2
  ·exact hxyok b hb)
 obtain⟨m2,e3,e4⟩:=R2.program T0_len hchk (kl hE.1) (hEi _ _ _) rfl hlen (by rw[zG,blkL_len];simp only[zB];omega) (λb hb=>by
  rcases List.mem_append.1 hb with hb | hb
  ·simp only[zH,zD,or_false]at hb
   subst hb;exact s2
  ·exact b3 b hb)
 refine⟨m1,m2,e1,e3,by rw[e2,e4,hM],?_,?_,g2⟩
 ·have:m1.length=(m1.map bare0).length:=by rw[zE]
  rw[this,e2,←hM];exact hlen
 ·have:m2.length=(m2.map bare0).length:=by rw[zE]
  rw[this,e4];exact hlen
theorem in_u8c{n:Int}(h:(inInt .u8) n):0≤n∧n≤255:=by
 simp[inInt,Lit.wf,IntKind.min,IntKind.max,IntKind.signed,IntKind.bits]at h
 omega
theorem in_u16c{n:Int}(h:(inInt .u16) n):0≤n∧n≤65535:=by
 simp[inInt,Lit.wf,IntKind.min,IntKind.max,IntKind.signed,IntKind.bits]at h
 omega
theorem in_i16c{n:Int}(h:(inInt .i16) n):-32768≤n∧n≤32767:=by
 simp[inInt,Lit.wf,IntKind.min,IntKind.max,IntKind.signed,IntKind.bits]at h
 omega
theorem topCycle_plain(a0:cZ)(a1:List aG)(h0:ip a0)(h1:(inList inApiGrid2) a1):fj a0 a1=some true:=by
  suffices h:Tot (fj a0 a1) (λe=>e=true) by
    obtain⟨e,e1,e2⟩:=h
    rw[e1,e2]
  obtain⟨i1,i2,i3,i4,i5,i6,_⟩:=h0
  have j1:=in_u8c i1;have j2:=in_u8c i2;have j3:=in_i16c i3;have j4:=in_i16c i4;have j5:=in_u16c i5;have j6:=in_u8c i6
  have w1:Int.tmod a0.Code 3=a0.Code % 3:=Int.tmod_eq_emod_of_nonneg j1.1
  have w2:zI.wrap (81000+zI.wrap (1000*zI.wrap (Int.tmod a0.Code 3)))=81000+1000*(a0.Code % 3):=by
    rw[w1,wrap_i64 (n:=a0.Code % 3) (by omega) (by omega),wrap_i64 (n:=1000*(a0.Code % 3)) (by omega) (by omega),wrap_i64 (by omega) (by omega)]
  have w3:zI.wrap a0.R=a0.R:=wrap_i64 (by omega) (by omega)
  have w4:zI.wrap a0.Z=a0.Z:=wrap_i64 (by omega) (by omega)
  have w5:zI.wrap a0.Q=a0.Q:=wrap_i64 (by omega) (by omega)
  have w6:zI.wrap (1+zI.wrap a0.Rate)=1+a0.Rate:=by rw[wrap_i64 (n:=a0.Rate) (by omega) (by omega),wrap_i64 (by omega) (by omega)]
  have w7:zI.wrap (a0.R+zI.wrap a0.Above)=a0.R+a0.Above:=by rw[wrap_i64 (n:=a0.Above) (by omega) (by omega),wrap_i64 (by omega) (by omega)]
  unfold fj
  rw[w2,w3,w4,w5,w6,w7,awake53c,aA,if_pos rfl]
  obtain⟨c,hc⟩:∃c,ak.mk (81000+1000*(a0.Code % 3)) a0.R a0.Z a0.Q (1+a0.Rate) (a0.R+a0.Above) a0.High=c:=⟨_,rfl⟩
  obtain⟨st,hst⟩:∃st,ag.mk 7 (-9) (a0.R+a0.Above)=st:=⟨_,rfl⟩
  rw[hc,hst]
  have hstR:inR st:=by rw[←hst];unfold inR;dsimp only;omega
  have hstZ:st.Z=c.Initial:=by rw[←hst,←hc]
  refine Tot.bind (E:=λv=>v=true∨(a1.length≤5∧a1≠[]∧cycV c=0)) (Tot.ite (λ_=>.ok (.inl rfl)) (λq1=>Tot.ite (λ_=>.ok (.inl rfl)) (λq2=>?_))) (λv hv=>Tot.ite (λ_=>?_) (λq=>?_))
  · rw[jh,aA]
    refine .ok ?_
    by_cases e:cycV c=0
    · right
      refine⟨by simp at q1;omega,λe=>?_,e⟩
      rw[e]at q2;simp at q2
    · left;simpa using e
  · rw[aA];exact .ok rfl
  · obtain⟨hl5,hne,hcy⟩:=hv.resolve_left (by rw[q];simp)
    rw[jX,if_pos hcy,aA]
    refine Tot.ite (λ_=>.ok rfl) (λq3=>?_)
    refine Tot.bindX (E:=λ_=>∀g∈a1,nearG g) (TotX.guard (bn (by omega)) (TotX.of (Tot.range (λi _=>∀g∈a1.take i,nearG g) _ (by simp) (λi g v hx hr=>?_) (λv hr=>.ok (by simpa using hr))))) (λ_ hg=>?_)
    · refine TotX.ite (λ_=>.ret rfl) (λq4=>.go (λx hx'=>?_))
      rw[List.take_add_one,hx,List.mem_append]at hx'
      rcases hx' with z | z
      · exact hr x z
      · simp at z;subst z
        simp at q4
        unfold nearG;omega
    · match a1,hne,hl5,hg with
      | g::l,_,hl5,hg =>
        rw[zA]at hl5
        have hz0:inR zP:=by unfold inR zP;simp
        have hm1:okMv ⟨1,st,⟨0,0⟩,0⟩:=⟨.inl ⟨rfl,rfl⟩,hstR,rfl⟩
        have hb1:=iU hz0 hm1
        have hpm:=po_Move_eq (okPos_in hz0) (okMove_mv hm1)
        have hexp:=cy_Expand_many (p:=st) hcy hstR hg (by rw[zA];omega)
        obtain⟨m1,m2,r1,r2,r3,r4,r5,r6⟩:=both hcy (by omega) hg hstR hstZ
        have hml:=movs_len (jg hcy) (g::l) st
        rw[zA]at hml
        rw[show jN (ag.mk 0 0 0) (au.mk 1 st (aG.mk 0 0) 0)=some (movB zP ⟨1,st,⟨0,0⟩,0⟩) from hpm,aA,show gt (g::l) 0=some g from rfl,aA,cy_Block_eq hcy (hg g (by simp)),aA,hexp,aA]
        rw[hb1]at r1 r2 ⊢
        simp only[bne_self_eq_false,Bool.or_self,zF,if_false]
        rw[show cutF (g::l) 1=some l by
          unfold cutF
          rw[if_neg (by simp;omega)];rfl,aA,bn (by omega),bO,onto (λe3:aG=>ac.mk false [ay.mk 88 e3.X,ay.mk 89 e3.Y] []) l 0 _ (by simp;omega),aA,bn (by omega),bO,blk_loop (λi m out p hp hm ho=>by
          dsimp only
          rw[po_Move_eq (okPos_in hp) (okMove_mv hm),aA,iU hp hm,if_neg (by simp),bA (by omega),bO]) _ 0 _ st hstR r6 (by simp only[zB];omega)]
        simp only[bindX_g]
        have hl1:([ac.mk false (movW zP ⟨1,st,⟨0,0⟩,0⟩) [],fP c g]++l.map xyB).length≤100:=by simp;omega
        have hl2:([ac.mk false (movW zP ⟨1,st,⟨0,0⟩,0⟩) []]++blkL st (movs c st (g::l))).length≤100000:=by rw[zG,blkL_len];simp only[zB];omega
        have e1:(l.map λe3:aG=>ac.mk false [ay.mk 88 e3.X,ay.mk 89 e3.Y] [])=l.map xyB:=rfl
        have r1':cD ([ac.mk false (movW zP ⟨1,st,⟨0,0⟩,0⟩) [],fP c g]++l.map xyB++[ac.mk false [ay.mk 77 30000] []]) (aw.mk (dR.mk (ag.mk 0 0 0) (ag.mk 0 0 0) (ag.mk 0 0 0) (ag.mk 0 0 0) (ag.mk 0 0 0) (ag.mk 0 0 0)) []) (ag.mk 0 0 0)=some (m1,⟨-1,0⟩):=r1
        have r2':cD ([ac.mk false (movW zP ⟨1,st,⟨0,0⟩,0⟩) []]++blkL st (movs c st (g::l))++[ac.mk false [ay.mk 77 30000] []]) (aw.mk (dR.mk (ag.mk 0 0 0) (ag.mk 0 0 0) (ag.mk 0 0 0) (ag.mk 0 0 0) (ag.mk 0 0 0) (ag.mk 0 0 0)) []) (ag.mk 0 0 0)=some (m2,⟨-1,0⟩):=r2
        rw[e1,bA (by omega),bO,r1',aA,bA (by omega),bO,r2',aA]
        simp only[beq_self_eq_true,Bool.and_self,if_true]
        rw[plain53_eqC _ (by omega),aA,plain53_eqC _ (by omega),aA,r3,equal_selfC _ (by rw[zE];omega)]
        exact .ok rfl
end Go.Proofs.YtplhejpjnfjopaaGreatDoor
