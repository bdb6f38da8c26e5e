import Derived.Test.YtgbafiejgciilaaGreatDoorPall
open List renaming foldl_cons → zA,nil_append → zB,foldl_map → zD,map_map → zE
open Go.IntKind renaming i64 → zF
namespace Go.Proofs.YtgbafiejgciilaaGreatDoor
open Go.RowKit
set_option linter.unusedVariables false
set_option linter.unusedSimpArgs false
theorem in_u8p{n:Int}(h:(inInt .u8) n):0≤n∧n≤255:=by
 simp[inInt,Lit.wf,IntKind.min,IntKind.max,IntKind.signed,IntKind.bits]at h
 omega
theorem ga{n:Int}(h:(inInt .i16) n):-32768≤n∧n≤32767:=by
 simp[inInt,Lit.wf,IntKind.min,IntKind.max,IntKind.signed,IntKind.bits]at h
 omega
def curP(l:List aa):aa:=l.getLast?.getD ⟨0,0,0⟩
def wstep(l:List aa)(q:aa):List aa:=if curP l=q then l else l++[q]
theorem curP_app(l:List aa)(q:aa):curP (l++[q])=q:=by simp[curP]
theorem want_movs:∀(qs:List aa) (p:aa) (l:List aa),curP l=p→qs.foldl wstep l=l++(kz p qs).map (·.To)
 | [],p,l,_=>by simp[kz]
 | q::qs,p,l,h=>by
  rw[zA,kz]
  by_cases c:p=q
  ·rw[show wstep l q=l from if_pos (h.trans c),if_pos c,zB]
   exact want_movs qs q l (h.trans c)
  ·rw[show wstep l q=l++[q] from if_neg (by rw[h];exact c),if_neg c,want_movs qs q (l++[q]) (curP_app l q)]
   simp
theorem cond_eq(l:List aa)(x y z:Int)(hl:l.length≤100) :
  (if ((l.length:Int)==0)=true then
    if ((x==0)&&((y==0)&&(z==0)))=true then
     if (decide ((l.length:Int)>0))=true then
      bindO (gt l (zF.wrap ((l.length:Int)-1))) λ(e2:aa) =>
      some (!((e2.X==x)&&((e2.Y==y)&&(e2.Z==z))))
     else some false
    else some true
   else
    if (decide ((l.length:Int)>0))=true then
     bindO (gt l (zF.wrap ((l.length:Int)-1))) λ(e3:aa) =>
     some (!((e3.X==x)&&((e3.Y==y)&&(e3.Z==z))))
    else some false)=some (!decide (curP l=⟨x,y,z⟩)):=by
 cases hq:l.getLast? with
 | none =>
  have:l=[]:=by simpa using hq
  subst this
  have e:curP []=⟨0,0,0⟩:=rfl
  rw[if_pos (by simp),e]
  by_cases c:x=0∧y=0∧z=0
  ·obtain⟨rfl,rfl,rfl⟩:=c;rfl
  ·rw[if_neg (by simpa using c)]
   congr 1
   have:¬((⟨0,0,0⟩:aa)=⟨x,y,z⟩):=by
    intro h;injection h with h1 h2 h3;exact c ⟨h1.symm,h2.symm,h3.symm⟩
   rw[decide_eq_false this];rfl
 | some w =>
  have hne:l≠[]:=by rintro rfl;simp at hq
  have hpos:0<l.length:=List.length_pos_iff.2 hne
  have e:curP l=w:=by simp[curP,hq]
  rw[if_neg (by simp;omega),if_pos (by simp;omega),gt_last hq (by omega),ae,e]
  congr 2
  rw[Bool.eq_iff_iff]
  cases w
  simp
theorem range_unit{α ε:Type}{f:Nat→α→Unit→Option (Ex ε Unit)}{d:Unit→Option ε}{l:List α}(hf:∀i x,l[i]? = some x→f i x ()=some (.go ())):aS f d l 0 ()=d () :=
  gX (g:=λv _=>v) (R:=λ_ _=>True) (L:=l) (λi x v hx _=>⟨hf i x hx,trivial⟩) l 0 () rfl trivial |>.trans (by
    congr 1)
def wayP(e:Arr3I16):aa:=⟨e.e0,e.e1,e.e2⟩
theorem mx_max(a b:Int):mmI true a b=max a b:=by simp only[mmI];split<;>omega
theorem mx_min(a b:Int):mmI false a b=min a b:=by simp only[mmI];split<;>omega
theorem fold_pair{α β γ:Type}(g:α→β)(h:List γ→α→List γ):∀(l:List α) (b:List β) (c:List γ),l.foldl (λ(v:List β×List γ) x=>(v.1++[g x],h v.2 x)) (b,c)=(b++l.map g,l.foldl h c)
 | [],b,c=>by simp
 | x::l,b,c=>by rw[zA,fold_pair g h l];simp
theorem wstep_len(l:List aa)(q:aa):(wstep l q).length≤l.length+1:=by unfold wstep;split<;>simp
theorem topProbed_plain(a0:cY)(a1:Int)(a2:ct)(h0:inR45Table a0)(h1:(inInt .u8) a1)(h2:iq a2):fB a0 a1 a2=some true:=by
  obtain⟨⟨b1,b2⟩,⟨b3,b4⟩,b5,b6,b7,b8⟩:=h2
  have k1:=ga b1
  have k2:=ga b2
  have k3:=ga b3
  have k4:=ga b4
  have k5:=ga b5
  have k6:=in_u8p b6
  have k0:=in_u8p h1
  clear b1 b2 b3 b4 b5 b6
  unfold fB
  rw[awake51_eq,ae,if_pos rfl]
  by_cases c1:(a0.Lengths.length:Int)>10
  · rw[if_pos (decide_eq_true c1),ae,if_pos rfl,ae]
  rw[if_neg (by simpa using c1)]
  by_cases c2:(a2.Ways.length:Int)>6
  · rw[if_pos (decide_eq_true c2),ae,if_pos rfl,ae]
  rw[if_neg (by simpa using c2)]
  have hl:(dk a0).Lengths.length≤1000:=by simp[dk];omega
  obtain⟨e,he,_⟩:=eZ (dk a0) hl
  rw[show cY.mk a0.Work a0.Lengths=a0 from rfl,←valid_same a0 (by omega),he,ae,ae]
  by_cases c3:e=0
  case neg=>rw[if_pos (by simpa using c3),ae]
  subst c3
  rw[if_neg (by simp)]
  obtain⟨i,hi,hm⟩:∃i:Nat,i<6∧Int.tmod a1 6=(i:Int):=⟨(a1 % 6).toNat,by omega,by rw[Int.tmod_eq_emod_of_nonneg k0.1];omega⟩
  rw[hm]
  have hg : (aB (decide (0 ≤ (i : Int) ∧ (i : Int) < 6)) (
        if ((i:Int)==0)=true then some a0.Work.e0 else if ((i:Int)==1)=true then some a0.Work.e1 else if ((i:Int)==2)=true then some a0.Work.e2 else if ((i:Int)==3)=true then some a0.Work.e3 else if ((i:Int)==4)=true then some a0.Work.e4 else some a0.Work.e5))=some (getE a0.Work i):=by
    rcases six hi with rfl | rfl | rfl | rfl | rfl | rfl<;>rfl
  rw[hg,ae]
  obtain⟨o,hO⟩:∃o,getE a0.Work i=o:=⟨_,rfl⟩
  rw[hO]
  have hW:getE (dk a0).Work i=o:=hO
  by_cases c4:((decide ((mmI true (mmI true o.X o.Y) o.Z)>1000000))||(decide ((mmI false (mmI false o.X o.Y) o.Z)<(-1000000))))=true
  · rw[if_pos c4]
  rw[if_neg c4]
  have ho:(-1000000≤o.X∧o.X≤1000000)∧(-1000000≤o.Y∧o.Y≤1000000)∧(-1000000≤o.Z∧o.Z≤1000000):=by
    simp only[mx_max,mx_min,Bool.or_eq_true,decide_eq_true_eq,not_or]at c4
    omega
  clear c4
  obtain⟨⟨cx,cy⟩,⟨dx,dy⟩,sf,rad,ways⟩:=a2
  simp only at k1 k2 k3 k4 k5 k6 c2 b7 b8 ⊢
  have u1:zF.wrap cx=cx:=bo (by omega) (by omega)
  have u2:zF.wrap cy=cy:=bo (by omega) (by omega)
  have u3:zF.wrap dx=dx:=bo (by omega) (by omega)
  have u4:zF.wrap dy=dy:=bo (by omega) (by omega)
  have u5:zF.wrap sf=sf:=bo (by omega) (by omega)
  have u6:zF.wrap rad=rad:=bo (by omega) (by omega)
  have u7:zF.wrap (cx+dx)=cx+dx:=bo (by omega) (by omega)
  have u8:zF.wrap (cy+dy)=cy+dy:=bo (by omega) (by omega)
  have u9:zF.wrap (cx+dx-9000)=cx+dx-9000:=bo (by omega) (by omega)
  have u10:zF.wrap (cy+dy+9000)=cy+dy+9000:=bo (by omega) (by omega)
  have u11:zF.wrap (sf+5000)=sf+5000:=bo (by omega) (by omega)
  have u12:zF.wrap (1+rad)=1+rad:=bo (by omega) (by omega)
  have u13:zF.wrap (i:Int)=(i:Int):=bo (by omega) (by omega)
  have u14:zF.wrap (1000*(i:Int))=1000*(i:Int):=bo (by omega) (by omega)
  have u15:zF.wrap (54000+1000*(i:Int))=54000+1000*(i:Int):=bo (by omega) (by omega)
  have u16:zF.wrap (o.X+dx)=o.X+dx:=bo (by omega) (by omega)
  have u17:zF.wrap (o.Y+dy)=o.Y+dy:=bo (by omega) (by omega)
  simp only[u1,u2,u3,u4,u5,u6,u7,u8,u9,u10,u11,u12,u13,u14,u15,u16,u17]
  have n7:∀{n:Int},-10000000≤n→n≤10000000→near7 n:=λa b=>⟨a,b⟩
  rw[fh (by omega) (by omega),ae,touch0 (.inl rfl) (n7 (by omega) (by omega)) (n7 (by omega) (by omega)) (n7 (by omega) (by omega)) (n7 (by omega) (by omega)) (by omega) (by omega) (by omega) (n7 (by omega) (by omega)),ae]
  rw[fh (by omega) (by omega),ae,touch1 (.inr rfl) (n7 (by omega) (by omega)) (n7 (by omega) (by omega)) (n7 (by omega) (by omega)) (n7 (by omega) (by omega)) (by omega) (by omega) (by omega) (n7 (by omega) (by omega)),ae]
  rw[fh (by omega) (by omega),ae,touch2 (.inr rfl) (n7 (by omega) (by omega)) (n7 (by omega) (by omega)) (n7 (by omega) (by omega)) (n7 (by omega) (by omega)) (by omega) (by omega) (by omega) (n7 (by omega) (by omega)),ae]
  rw[corner_ok (a:=cx+dx) (b:=cy+dy) (by omega) ⟨n7 (by dsimp only;omega) (by dsimp only;omega),n7 (by dsimp only;omega) (by dsimp only;omega),n7 (by dsimp only;omega) (by dsimp only;omega)⟩ ⟨n7 (by dsimp only;omega) (by dsimp only;omega),n7 (by dsimp only;omega) (by dsimp only;omega),n7 (by dsimp only;omega) (by dsimp only;omega)⟩ (by dsimp only;omega) (by dsimp only;omega) (n7 (by omega) (by omega)) (n7 (by omega) (by omega)),ae]
  rw[if_neg (by simp),table51_eq a0 (by omega),ae]
  have q1:inR ⟨(getE (dk a0).Work i).X+(cx+dx-cx),(getE (dk a0).Work i).Y+(cy+dy-cy),(getE (dk a0).Work i).Z⟩:=by rw[hW];unfold inR;dsimp only;omega
  rw[correct_ok hl he hi (n7 (by omega) (by omega)) (n7 (by omega) (by omega)) (n7 (by omega) (by omega)) (n7 (by omega) (by omega)) q1,ae]
  have hv2:=valid_set hl he hi q1
  have hl2:(al.mk (setE (dk a0).Work ⟨(getE (dk a0).Work i).X+(cx+dx-cx),(getE (dk a0).Work i).Y+(cy+dy-cy),(getE (dk a0).Work i).Z⟩ i) (dk a0).Lengths).Lengths.length≤1000:=hl
  rw[hW]at hv2 hl2 ⊢
  obtain⟨t2,ht2⟩:∃t2,al.mk (setE (dk a0).Work ⟨o.X+(cx+dx-cx),o.Y+(cy+dy-cy),o.Z⟩ i) (dk a0).Lengths=t2:=⟨_,rfl⟩
  have hgt:getE t2.Work i=⟨o.X+(cx+dx-cx),o.Y+(cy+dy-cy),o.Z⟩:=by rw[←ht2];exact get_set _ _ hi
  dsimp only
  rw[ht2]at hv2 hl2 ⊢
  rw[surface_ok hl2 hv2 hi (n7 (by omega) (by omega)),ae,if_neg (by simp)]
  have q2:inR ⟨(getE t2.Work i).X,(getE t2.Work i).Y,-1*(-1*sf-0)⟩:=by rw[hgt];unfold inR;dsimp only;omega
  have hv3:=valid_set hl2 hv2 hi q2
  have hg3:=get_set t2.Work ⟨(getE t2.Work i).X,(getE t2.Work i).Y,-1*(-1*sf-0)⟩ hi
  rw[hgt]at hv3 hg3 ⊢
  dsimp only at hv3 hg3 ⊢
  have hO2:(⟨o.X+(cx+dx-cx),o.Y+(cy+dy-cy),-1*(-1*sf-0)⟩:aa)=⟨o.X+dx,o.Y+dy,sf⟩:=by
    simp only[aa.mk.injEq];omega
  rw[hO2]at hv3 hg3 ⊢
  obtain⟨t3,ht3⟩:∃t3,al.mk (setE t2.Work ⟨o.X+dx,o.Y+dy,sf⟩ i) t2.Lengths=t3:=⟨_,rfl⟩
  have hg4:getE t3.Work i=⟨o.X+dx,o.Y+dy,sf⟩:=by rw[←ht3];exact hg3
  have hl3:t3.Lengths.length≤1000:=by rw[←ht3];exact hl2
  rw[ht3]at hv3 ⊢
  have hlw:ways.length≤6:=by omega
  rw[bE (by omega),bB,gX (g:=λ(v:List au×List aa) (x:Arr3I16)=>(v.1++[blk51 (wayP x)],wstep v.2 (plusP (wayP x) ⟨o.X+dx,o.Y+dy,sf⟩))) (R:=λi v=>v.1.length≤i+1∧v.2.length≤i) (L:=ways) ?_ ways 0 _ rfl ⟨by simp,by simp⟩]
  · rw[fold_pair (λx=>blk51 (wayP x)) (λl x=>wstep l (plusP (wayP x) ⟨o.X+dx,o.Y+dy,sf⟩)) ways,ae]
    dsimp only
    rw[bF (by simp;omega),bB]
    have hws:∀w∈ways.map wayP,sml w∧sml (plusP w (getE t3.Work i)):=by
      intro w hw
      obtain⟨x,hx,rfl⟩:=List.mem_map.1 hw
      obtain⟨x1,x2,x3⟩:=b8 x hx
      have:=ga x1
      have:=ga x2
      have:=ga x3
      rw[hg4]
      unfold sml plusP wayP
      dsimp only
      omega
    obtain⟨ms,e1,e2⟩:=program51 hl3 hv3 hi (by rw[hg4];unfold sml;dsimp only;omega) (ws:=ways.map wayP) (by simp;omega) hws
    rw[hg4]at e2
    have hb:[first51 i]++ways.map (λx=>blk51 (wayP x))++[end51]=first51 i::(ways.map wayP).map blk51++[end51]:=by
      rw[zE];rfl
    have hwant:ways.foldl (λl x=>wstep l (plusP (wayP x) ⟨o.X+dx,o.Y+dy,sf⟩)) []=ms.map (·.To):=by
      have h3:(ms.map bare0).map (·.To)=ms.map (·.To):=by rw[zE];rfl
      have h6:=want_movs ((ways.map wayP).map λw=>plusP w ⟨o.X+dx,o.Y+dy,sf⟩) ⟨0,0,0⟩ [] rfl
      rw[zB]at h6
      rw[←h3,e2,←h6,zD,zD]
    rw[show ([au.mk false [aN.mk 71 (54000+1000*(i:Int)),aN.mk 71 90000] []]:List au)=[first51 i] from rfl,show au.mk false [aN.mk 77 30000] []=end51 from rfl,hb,e1,ae,hwant]
    dsimp only
    rw[if_neg (by simp)]
    have hml:ms.length≤100:=by
      have h4:=movs_len ⟨0,0,0⟩ ((ways.map wayP).map λw=>plusP w ⟨o.X+dx,o.Y+dy,sf⟩)
      rw[←e2]at h4
      simp at h4;omega
    rw[bE (by omega),bB,range_unit (λi x hx=>by
      have h5:(ms.map (·.To))[i]? = some x.To:=by rw[List.getElem?_map,hx];rfl
      rw[show gt (ms.map (·.To)) (i:Int)=some x.To from gt_k h5,ae,if_neg (by simp)])]
    rfl
  · intro j x v hx hr
    have hmem:=List.mem_of_getElem? hx
    obtain⟨x1,x2,x3⟩:=b8 x hmem
    have y1:=ga x1
    have y2:=ga x2
    have y3:=ga x3
    have hlt:=ao hx
    have v1:zF.wrap x.e0=x.e0:=bo (by omega) (by omega)
    have v2:zF.wrap x.e1=x.e1:=bo (by omega) (by omega)
    have v3:zF.wrap x.e2=x.e2:=bo (by omega) (by omega)
    have v4:zF.wrap (o.X+dx+x.e0)=o.X+dx+x.e0:=bo (by omega) (by omega)
    have v5:zF.wrap (o.Y+dy+x.e1)=o.Y+dy+x.e1:=bo (by omega) (by omega)
    have v6:zF.wrap (sf+x.e2)=sf+x.e2:=bo (by omega) (by omega)
    simp only[v1,v2,v3,v4,v5,v6]
    rw[bF (by omega),bB,cond_eq _ _ _ _ (by omega),ae,bF (by omega),bB]
    have hq:(⟨o.X+dx+x.e0,o.Y+dy+x.e1,sf+x.e2⟩:aa)=plusP (wayP x) ⟨o.X+dx,o.Y+dy,sf⟩:=by
      unfold plusP wayP
      simp only[aa.mk.injEq];omega
    rw[hq]
    by_cases c:curP v.2=plusP (wayP x) ⟨o.X+dx,o.Y+dy,sf⟩
    · rw[if_neg (by simp[c]),ae]
      refine⟨?_,?_⟩
      · rw[show wstep v.2 (plusP (wayP x) ⟨o.X+dx,o.Y+dy,sf⟩)=v.2 from if_pos c];rfl
      · have:=wstep_len v.2 (plusP (wayP x) ⟨o.X+dx,o.Y+dy,sf⟩)
        simp;omega
    · rw[if_pos (by simp[c]),ae]
      refine⟨?_,?_⟩
      · rw[show wstep v.2 (plusP (wayP x) ⟨o.X+dx,o.Y+dy,sf⟩)=v.2++[plusP (wayP x) ⟨o.X+dx,o.Y+dy,sf⟩] from if_neg c];rfl
      · have:=wstep_len v.2 (plusP (wayP x) ⟨o.X+dx,o.Y+dy,sf⟩)
        simp;omega
end Go.Proofs.YtgbafiejgciilaaGreatDoor
