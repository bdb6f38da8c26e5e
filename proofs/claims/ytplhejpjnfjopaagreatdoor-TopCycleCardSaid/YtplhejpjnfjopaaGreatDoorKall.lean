/-
  Ka, Kb, Kc, Ke, Kk, Kl in one text.
-/
import Derived.Test.YtplhejpjnfjopaaGreatDoorAall
import Derived.Test.YtplhejpjnfjopaaGreatDoorBall
import Derived.Test.YtplhejpjnfjopaaGreatDoorMH
open List renaming cons_append → zA,nil_append → zB,not_mem_nil → zD,mem_cons → zE,append_assoc → zF,length_cons → zG,length_append → zH,map_cons → zI,map_append → zJ,foldl_cons → zK,any_cons → zM,any_nil → zN,take_add_one → zO,take_length → zQ,append_nil → zR,length_map → zT
open Bool renaming false_eq_true → zL
open Go.IntKind renaming i64 → zU
namespace Go.Proofs.YtplhejpjnfjopaaGreatDoor
open Go.RowKit
set_option linter.unusedVariables false
set_option linter.unusedSimpArgs false
theorem stepP_takes{s:am}{c:ak}{b:ac}{t:aw}{p:ag}(h0:(stepP s c b t p).2.2.2=0):eN b:=by
 unfold stepP at h0
 by_cases hv:eN b
 ·exact hv
 ·rw[if_neg hv]at h0
  exact absurd h0 (show (1:Int)≠0 by decide)
theorem stepP_idle{s:am}{c:ak}{b:ac}{t:aw}{p:ag}(h:eN b)(hx:hasW b [88,89,90,73,74,81,82]=false) :
  stepP s c b t p=([],b.Words.foldl putW s,if cycB (b.Words.foldl putW s).Motion=true then c else zC,0):=by
 unfold stepP
 rw[if_pos h,if_neg (by rw[hx];simp)]
theorem kd{s:am}{c:ak}{b:ac}{t:aw}{p pw:ag}{s1:am}{fl:List aq}{c1:ak}{u:List ao×ag}(h:eN b)(hf:b.Words.foldl putW s=s1)(hx:hasW b [88,89,90,73,74,81,82]=true)
  (hbad:((hasW b [73,74]&&(s1.Motion != 2000)&&(s1.Motion != 3000))||(hasW b [81,82]&&!(cycB s1.Motion)))=false) (hst:((s1.Motion==80000)||((s1.Motion != 0)&&(decide (s1.Feed≤0))))=false)
  (hw:workV t s1.Work (numP s1) p=(pw,0)) (hp:posV s1 (if cycB s1.Motion=true then c else zC) b pw=(fl,c1,0)) (hr:runM t s1.Work (numP s1) (toolP s1) 0 fl ([],p)=.go u) :
  stepP s c b t p=(u.1,s1,c1,0):=by
 unfold stepP
 rw[if_pos h,if_pos hx,hf]
 unfold moveP
 rw[if_neg (by rw[hbad];simp),if_neg (by rw[hst];simp),hw]
 dsimp only
 rw[if_neg (by simp),hp]
 dsimp only
 rw[if_neg (by simp),hr]
theorem stepP_congr{s:am}{c:ak}{b b':ac}{t:aw}{p:ag}(h1:eN b)(h2:eN b')(hf:b'.Words.foldl putW s=b.Words.foldl putW s)
  (hw:∀l∈[88,89,90,73,74,81,82],findW b' l=findW b l) (hp:∀c q,posV (b.Words.foldl putW s) c b' q=posV (b.Words.foldl putW s) c b q):stepP s c b' t p=stepP s c b t p:=by
 have e1:hasW b' [88,89,90,73,74,81,82]=hasW b [88,89,90,73,74,81,82]:=by
  simp only[hasW,zM,zN]
  rw[show (((88:UInt8).toNat:Int))=88 from rfl,show (((89:UInt8).toNat:Int))=89 from rfl,show (((90:UInt8).toNat:Int))=90 from rfl,show (((73:UInt8).toNat:Int))=73 from rfl,show (((74:UInt8).toNat:Int))=74 from rfl,show (((81:UInt8).toNat:Int))=81 from rfl,show (((82:UInt8).toNat:Int))=82 from rfl]
  rw[hw 88 (by simp),hw 89 (by simp),hw 90 (by simp),hw 73 (by simp),hw 74 (by simp),hw 81 (by simp),hw 82 (by simp)]
 have e2:hasW b' [73,74]=hasW b [73,74]:=by
  simp only[hasW,zM,zN]
  rw[show (((73:UInt8).toNat:Int))=73 from rfl,show (((74:UInt8).toNat:Int))=74 from rfl]
  rw[hw 73 (by simp),hw 74 (by simp)]
 have e3:hasW b' [81,82]=hasW b [81,82]:=by
  simp only[hasW,zM,zN]
  rw[show (((81:UInt8).toNat:Int))=81 from rfl,show (((82:UInt8).toNat:Int))=82 from rfl]
  rw[hw 81 (by simp),hw 82 (by simp)]
 unfold stepP moveP
 rw[if_pos h1,if_pos h2,hf,e1,e2,e3]
 simp only[hp]
theorem posV_congr{s:am}{b b':ac}(hw:∀l∈[88,89,90,73,74,81,82],findW b' l=findW b l)(hc:cycB s.Motion=false∨findW b' 70=findW b 70)(c:ak)(q:ag):posV s c b' q=posV s c b q:=by
 have ht:tgtW s b' q=tgtW s b q:=by
  unfold tgtW crd
  rw[hw 88 (by simp),hw 89 (by simp),hw 90 (by simp)]
 have hm:mvV s b' q=mvV s b q:=by
  unfold mvV
  rw[ht,hw 73 (by simp),hw 74 (by simp)]
 unfold posV
 rw[ht,hm]
 rcases hc with hc | hc
 ·rw[hc];simp
 ·have hr:rdC s c b' q=rdC s c b q:=by
   unfold rdC
   rw[hw 82 (by simp),hw 90 (by simp),hw 81 (by simp),hc]
  rw[hr]
inductive Runs (t:aw):am→ak→ag→List ac→List ao→am→ak→ag→Prop
 | nil {s:am} {c:ak} {p:ag}:Runs t s c p [] [] s c p
 | cons {s s1 s2:am} {c c1 c2:ak} {p p2:ag} {b:ac} {l:List ac} {m ms:List ao} (hb:okS b) (hs:stepP s c b t p=(m,s1,c1,0)) (he:endsW b=false) (r:Runs t s1 c1 (endW p m) l ms s2 c2 p2):Runs t s c p (b::l) (m++ms) s2 c2 p2
theorem Runs.app{t:aw}{s s1 s2:am}{c c1 c2:ak}{p p1 p2:ag}{l k:List ac}{m n:List ao}(h:Runs t s c p l m s1 c1 p1)(h2:Runs t s1 c1 p1 k n s2 c2 p2):Runs t s c p (l++k) (m++n) s2 c2 p2:=by
 induction h with
 | nil=>exact h2
 | cons hb hs he r ih =>
  rw[zA,zF]
  exact .cons hb hs he (ih h2)
theorem Runs.one{t:aw}{s s1:am}{c c1:ak}{p p1:ag}{b:ac}{m:List ao}(hb:okS b)(hs:stepP s c b t p=(m,s1,c1,0))(he:endsW b=false)(hp:endW p m=p1):Runs t s c p [b] m s1 c1 p1:=by
 have:=Runs.cons hb hs he (.nil (t:=t))
 rw[zR,hp]at this
 exact this
def bare0(m:ao):ao:=⟨m.From,m.To,m.Rate,m.Tool,0⟩
theorem bare_set(i:Nat):∀(l:List ao),(∀m∈l,m.Block=0)→(l.map (setB i)).map bare0=l
 | [],_=>rfl
 | m::l,h=>by
  rw[zI,zI,bare_set i l (λx hx=>h x (by simp[hx]))]
  have:=h m (by simp)
  congr 1
  cases m
  simp only at this
  subst this;rfl
theorem rgl_feed{s:am}(h:rglS s):i64P s.Feed:=by obtain⟨_,_,_,_,_,a6,_⟩:=h;unfold i64P;omega
theorem step_facts{t:aw}(ht:t.Lengths.length≤1000)(hv:ey t=some 0){s s1:am}{c c1:ak}{p:ag}{b:ac}{m:List ao}(hb:okS b)(hs:stepP s c b t p=(m,s1,c1,0))(hp:inR p)(hrgl:rglS s) :
  eN b∧s1=b.Words.foldl putW s∧inR (endW p m)∧rglS s1∧(cycB s1.Motion=false→c1=zC)∧∀x∈m,x.Block=0:=by
 have hchk:=checked_0 hv hp
 have hF:=rgl_feed hrgl
 have hT:=stepT_P (c:=c) hb ht hF hchk
 have hE:=stepT_E (s:=s) (c:=c) (t:=t) (p:=p) hb ht
 have hk:=step_keeps (c:=c) hrgl hb ht hchk (by rw[hT,hs])
 rw[hT,hs]at hE hk
 obtain⟨_,h0,hgood⟩:=hE
 obtain⟨hk1,hk2,hk3⟩:=hk
 have e1:s1=b.Words.foldl putW s:=hk2
 refine⟨hk1,e1,(hgood rfl).1.2.2,?_,λh=>hk3 (by rw[←e1];exact h),h0⟩
 rw[e1]
 exact rgl_fold _ [] _ hrgl hk1.2.1 hk1.1.2.2.1
theorem Runs.blocks{t:aw}(ht:t.Lengths.length≤1000)(hv:ey t=some 0){s s2:am}{c c2:ak}{p p2:ag}{l:List ac}{ms:List ao}(h:Runs t s c p l ms s2 c2 p2) :
  ∀(N i:Nat) (o:List ao) (rest:List ac),inR p→rglS s→o.length+ms.length≤20000→∃ms',ms'.map bare0=ms∧runB t N i (l++rest) (o,p,s,c)=runB t N (i+l.length) rest (o++ms',p2,s2,c2)∧inR p2∧rglS s2:=by
 induction h with
 | nil =>
  intro N i o rest hp hr _
  exact⟨[],rfl,by simp,hp,hr⟩
 | cons hb hs he r ih =>
  rename_i s s1 s2 c c1 c2 p p2 b l m ms
  intro N i o rest hp hrgl hlen
  rw[zH]at hlen
  obtain⟨hk1,hk2,hin,hrgl1,_,h0⟩:=step_facts ht hv hb hs hp hrgl
  have hT:=stepT_P (c:=c) hb ht (rgl_feed hrgl) (checked_0 hv hp)
  obtain⟨ms',e1,e2,e3,e4⟩:=ih N (i+1) (o++m.map (setB i)) rest hin hrgl1 (by rw[zH,zT];omega)
  refine⟨m.map (setB i)++ms',by rw[zJ,bare_set i m h0,e1],?_,e3,e4⟩
  rw[zA,runB]
  simp only[hT,hs]
  rw[if_neg (by simp),if_neg (by omega),if_neg (by rw[he];simp),e2,zF,zG,show i+1+l.length=i+(l.length+1) by omega]
theorem Runs.program{t:aw}(ht:t.Lengths.length≤1000){s2 s3:am}{c2 c3:ak}{p p2:ag}{X:List ac}{E:ac}{ms:List ao}(hchk:bC t p=some 0)(h:Runs t newS zC p X ms s2 c2 p2)
  (hE:okS E) (hs:stepP s2 c2 E t p2=([],s3,c3,0)) (he:endsW E=true) (hl:ms.length≤20000) (hX:X.length≤90000) (hok:∀b∈X,okS b):∃ms',cD (X++[E]) t p=some (ms',⟨-1,0⟩)∧ms'.map bare0=ms:=by
 obtain⟨hv,hp⟩:=valid_of_checked ht hchk
 obtain⟨ms',e1,e2,e3,e4⟩:=h.blocks ht hv (X++[E]).length 0 [] [E] hp rgl_new (by simpa using hl)
 refine⟨ms',?_,e1⟩
 rw[inp_Blocks_eq (X++[E]) t p 0 hchk (by simp;omega) (λb hb=>by
  rcases List.mem_append.1 hb with hb | hb
  ·exact hok b hb
  ·simp at hb;subst hb;exact hE) ht,if_neg (by simp),e2,zB,runB]
 have hlm:ms'.length≤20000:=by rw[←e1,zT]at hl;exact hl
 have hT:=stepT_P (s:=s2) (c:=c2) (p:=p2) hE ht (rgl_feed e4) (checked_0 hv e3)
 simp only[hT,hs]
 rw[if_neg (by simp),if_neg (by simp;omega),if_pos he]
 simp
theorem good_wk:∀(ws:List ay) (seen seen':List Int),goodW seen ws=true→(∀c∈seen',c∈seen∨∀w∈ws,clsW w≠c)→goodW seen' ws=true
 | [],_,_,_,_=>rfl
 | w::r,seen,seen',h,hs=>by
  simp only[goodW,Bool.and_eq_true,bne_iff_ne,ne_eq,Bool.not_eq_true',List.contains_eq_mem,decide_eq_false_iff_not]at h ⊢
  obtain⟨⟨⟨h1,h0⟩,h2⟩,h3⟩:=h
  refine⟨⟨⟨h1,h0⟩,λz=>(hs _ z).elim h2 (λq=>q w (by simp) rfl)⟩,good_wk r _ _ h3 λc hc=>?_⟩
  rcases List.mem_cons.1 hc with z | z
  ·exact .inl (by simp[z])
  ·rcases hs c z with y | y
   ·exact .inl (by simp[y])
   ·exact .inr λx hx=>y x (by simp[hx])
theorem find_78(b:ac)(v l:Int)(h:l≠78):findW ⟨b.Skip,[⟨78,v⟩]++b.Words,b.Comment⟩ l=findW b l:=by
 unfold findW
 simp only[zA,zB,List.find?_cons]
 rw[show ((78:Int)==l)=false by simp;omega]
theorem step_num{s:am}{c:ak}{b b':ac}(t:aw)(p:ag)(hn:Num b' b)(hb:eN b)(hv:fL b')(h78:∀w∈b.Words,w.Letter≠78):stepP s c b' t p=stepP s c b t p∧endsW b'=endsW b:=by
 rcases hn with rfl | ⟨_,v,rfl⟩
 ·exact⟨rfl,rfl⟩
 ·have hx:∀l,l≠78→findW ⟨b.Skip,[⟨78,v⟩]++b.Words,b.Comment⟩ l=findW b l:=find_78 b v
  refine⟨stepP_congr hb ⟨hv,?_,?_⟩ ?_ (λl hl=>hx l ?_) (λc q=>posV_congr (λl hl=>hx l ?_) (.inr (hx 70 (by decide))) c q),?_⟩
  ·have:=good_wk b.Words [] [88] hb.2.1 (λc hc=>.inr λw hw=>by
    simp only[zE,zD,or_false]at hc
    subst hc
    have:=h78 w hw
    unfold clsW
    split
    ·rcases grp_in w.Value with q | q | q | q | q | q<;>omega
    ·omega)
   simp only[zA,zB,goodW]
   rw[show clsW ⟨78,v⟩=88 from rfl,this]
   rfl
  ·simp only[zA,zB,List.all_cons,hb.2.2,Bool.and_true]
   rfl
  ·simp only[zA,zB,zK]
   congr 1
  ·simp only[zE,zD,or_false]at hl;omega
  ·simp only[zE,zD,or_false]at hl;omega
  ·unfold endsW codesW
   simp
theorem Runs.num{t:aw}{s s2:am}{c c2:ak}{p p2:ag}{X:List ac}{ms:List ao}(h:Runs t s c p X ms s2 c2 p2):∀{A:List ac},NumL A X→(∀b∈A,fL b∧okS b)→(∀b∈X,∀w∈b.Words,w.Letter≠78)→Runs t s c p A ms s2 c2 p2:=by
 induction h with
 | nil =>
  intro A hA _ _
  cases hA
  exact .nil
 | cons hb hs he r ih =>
  intro A hA hv h78
  cases hA with
  | cons h1 tl =>
   obtain⟨e1,e2⟩:=step_num t _ h1 (stepP_takes (by rw[hs])) (hv _ (by simp)).1 (h78 _ (by simp))
   exact .cons (hv _ (by simp)).2 (by rw[e1,hs]) (by rw[e2,he]) (ih tl (λx hx=>hv x (by simp[hx])) (λx hx=>h78 x (by simp[hx])))
def zP:ag:=⟨0,0,0⟩
def chn(d:ag)(n:Int):ag→List aq→List ao
 | _,[]=>[]
 | p,x::l=>(if posEq (addP x.at_ d) p=true then []else [⟨p,addP x.at_ d,x.rate,n,0⟩])++chn d n (addP x.at_ d) l
def lastP(d:ag):ag→List aq→ag
 | p,[]=>p
 | _,x::l=>lastP d (addP x.at_ d) l
theorem chn_app(d:ag)(n:Int)(k:List aq):∀(l:List aq) (p:ag),chn d n p (l++k)=chn d n p l++chn d n (lastP d p l) k
 | [],p=>rfl
 | x::l,p=>by rw[zA,chn,chn,chn_app d n k l,zF];rfl
theorem jR(d:ag)(k:List aq):∀(l:List aq) (p:ag),lastP d p (l++k)=lastP d (lastP d p l) k
 | [],p=>rfl
 | x::l,p=>by rw[zA,lastP,jR d k l];rfl
theorem chn_len(d:ag)(n:Int):∀(l:List aq) (p:ag),(chn d n p l).length≤l.length
 | [],_=>by simp[chn]
 | x::l,p=>by
  rw[chn,zH,zG]
  have:=chn_len d n l (addP x.at_ d)
  split
  ·simp only[List.length_nil];omega
  ·simp only[List.length_singleton];omega
theorem kz(d:ag)(n:Int):∀(l:List aq) (p:ag),endW p (chn d n p l)=lastP d p l
 | [],p=>rfl
 | x::l,p=>by
  rw[chn,endW_append,lastP]
  have:endW p (if posEq (addP x.at_ d) p=true then []else [⟨p,addP x.at_ d,x.rate,n,0⟩])=addP x.at_ d:=by
   split
   ·rename_i h
    exact (posEq_iff.1 h).symm
   ·rfl
  rw[this,kz d n l]
def cycX(c:ak)(s:ag×List au)(g:aG):ag×List au :=
 let m0:=goM s (ag.mk s.1.X s.1.Y (if s.1.Z<c.R then c.R else s.1.Z)) 0
 let m1:=goM m0 (ag.mk g.X g.Y m0.1.Z) 0
 let m2:=goM m1 (ag.mk g.X g.Y c.R) 0
 let m3:=(depL c).foldl (λs z=>goM (goM s (ag.mk g.X g.Y z) c.Rate) (ag.mk g.X g.Y c.R) 0) m2
 if c.High=true then goM m3 (ag.mk g.X g.Y c.Initial) 0 else m3
theorem ir(l:List au)(s:ag×List au)(q:ag)(r:Int):goM (s.1,l++s.2) q r=((goM s q r).1,l++(goM s q r).2):=by
 unfold goM
 by_cases h:q=s.1
 ·rw[if_pos h,if_pos h]
 ·rw[if_neg h,if_neg h,zF]
theorem fold_shift(c:ak)(g:aG)(l:List au):∀(zs:List Int) (s:ag×List au),zs.foldl (λs z=>goM (goM s (ag.mk g.X g.Y z) c.Rate) (ag.mk g.X g.Y c.R) 0) (s.1,l++s.2)=((zs.foldl (λs z=>goM (goM s (ag.mk g.X g.Y z) c.Rate) (ag.mk g.X g.Y c.R) 0) s).1,l++(zs.foldl (λs z=>goM (goM s (ag.mk g.X g.Y z) c.Rate) (ag.mk g.X g.Y c.R) 0) s).2)
 | [],s=>rfl
 | z::zs,s=>by
  rw[zK,zK,ir,ir l (goM s (ag.mk g.X g.Y z) c.Rate)]
  exact fold_shift c g l zs _
theorem cycX_eq(c:ak)(p:ag)(l:List au)(g:aG):cycX c (p,l) g=((cycM c p g).1,l++(cycM c p g).2):=by
 unfold cycX cycM
 dsimp only
 have e0:=ir l (p,[]) (ag.mk p.X p.Y (if p.Z<c.R then c.R else p.Z)) 0
 simp only[zR]at e0
 rw[e0]
 generalize goM (p,[]) (ag.mk p.X p.Y (if p.Z<c.R then c.R else p.Z)) 0=m0
 dsimp only
 rw[ir l m0]
 generalize goM m0 (ag.mk g.X g.Y m0.1.Z) 0=m1
 rw[ir l m1]
 generalize goM m1 (ag.mk g.X g.Y c.R) 0=m2
 rw[fold_shift c g l (depL c) m2]
 generalize (depL c).foldl (λs z=>goM (goM s (ag.mk g.X g.Y z) c.Rate) (ag.mk g.X g.Y c.R) 0) m2=m3
 split
 ·rw[ir l m3]
 ·rfl
def cycB1 (a0 : ak) (dl : List Int) (e2 : aG) (v5 : ag × List au) : Option (Ex (Ex (Ex (List au × Int) (ag × List au)) (ag × List au)) (ag × List au)) :=
              bindO (if (decide (v5.1.Z < a0.R)) = true then
                      bindO (if (!((v5.1.X == v5.1.X) && ((v5.1.Y == v5.1.Y) && (a0.R == v5.1.Z)))) = true then
                            aF (okLen (v5.2.length+1)) (
                            some (a0.R,v5.2++[au.mk 1 (ag.mk v5.1.X v5.1.Y a0.R) (aG.mk 0 0) 0]))
                          else
                            some (v5.1.Z,v5.2)) λ(v6:Int×(List au)) =>
                      some (v6.1,v6.2)
                    else
                      some (v5.1.Z,v5.2)) λ(v7:Int×(List au)) =>
                bindO (if (!((e2.X == v5.1.X) && ((e2.Y == v5.1.Y) && (v7.1 == v7.1)))) = true then
                      aF (okLen (v7.2.length+1)) (
                      some (ag.mk e2.X e2.Y v7.1,v7.2++[au.mk 1 (ag.mk e2.X e2.Y v7.1) (aG.mk 0 0) 0]))
                    else
                      some (ag.mk v5.1.X v5.1.Y v7.1,v7.2)) λ(v8:ag×(List au)) =>
                bindO (if (!((e2.X == v8.1.X) && ((e2.Y == v8.1.Y) && (a0.R == v8.1.Z)))) = true then
                      aF (okLen (v8.2.length+1)) (
                      some (ag.mk e2.X e2.Y a0.R,v8.2++[au.mk 1 (ag.mk e2.X e2.Y a0.R) (aG.mk 0 0) 0]))
                    else
                      some (v8.1,v8.2)) λ(v9:ag×(List au)) =>
                bindO (aF (okIdx dl) (
                    aU (λ(i3:Nat) (e3:Int) (v10:ag×(List au)) =>
                      bindO (if (!((e2.X == v10.1.X) && ((e2.Y == v10.1.Y) && (e3 == v10.1.Z)))) = true then
                            aF (okLen (v10.2.length+1)) (
                            some (ag.mk e2.X e2.Y e3,v10.2++[au.mk 2 (ag.mk e2.X e2.Y e3) (aG.mk 0 0) a0.Rate]))
                          else
                            some (v10.1,v10.2)) λ(v11:ag×(List au)) =>
                      bindO (if (!((e2.X == v11.1.X) && ((e2.Y == v11.1.Y) && (a0.R == v11.1.Z)))) = true then
                            aF (okLen (v11.2.length+1)) (
                            some (ag.mk e2.X e2.Y a0.R,v11.2++[au.mk 1 (ag.mk e2.X e2.Y a0.R) (aG.mk 0 0) 0]))
                          else
                            some (v11.1,v11.2)) λ(v12:ag×(List au)) =>
                      some (.go (v12.1,v12.2))) (λ(v10:ag×(List au))=>some (v10.1,v10.2)) dl 0 (v9.1,v9.2))) λ(v13:ag×(List au)) =>
                bindO (if a0.High = true then
                      bindO (if (!((e2.X == v13.1.X) && ((e2.Y == v13.1.Y) && (a0.Initial == v13.1.Z)))) = true then
                            aF (okLen (v13.2.length+1)) (
                            some (ag.mk e2.X e2.Y a0.Initial,v13.2++[au.mk 1 (ag.mk e2.X e2.Y a0.Initial) (aG.mk 0 0) 0]))
                          else
                            some (v13.1,v13.2)) λ(v14:ag×(List au)) =>
                      some (v14.1,v14.2)
                    else
                      some (v13.1,v13.2)) λ(v15:ag×(List au)) =>
                if (decide ((v15.2.length:Int)>20000))=true then
                  some (.ret (.ret (.ret ([],3))))
                else
                  some (.go (v15.1,v15.2))
theorem cycB1_tot{c:ak}(ok:CycOk c)(p:ag)(l0:List au)(g:aG)(hl0:l0.length≤12000):TotX (cycB1 c (depL c) g (p,l0)) (λ_=>False) (λs=>s=cycX c (p,l0) g):=by
  have hdl:=depL_len ok
  unfold cycB1
  obtain⟨m0,hm0⟩:∃m0,goM (p,l0) (ag.mk p.X p.Y (if p.Z<c.R then c.R else p.Z)) 0=m0:=⟨_,rfl⟩
  obtain⟨m1,hm1⟩:∃m1,goM m0 (ag.mk g.X g.Y m0.1.Z) 0=m1:=⟨_,rfl⟩
  obtain⟨m2,hm2⟩:∃m2,goM m1 (ag.mk g.X g.Y c.R) 0=m2:=⟨_,rfl⟩
  obtain⟨m3,hm3⟩:∃m3,(depL c).foldl (λs z=>goM (goM s (ag.mk g.X g.Y z) c.Rate) (ag.mk g.X g.Y c.R) 0) m2=m3:=⟨_,rfl⟩
  have hcyc:cycX c (p,l0) g=if c.High=true then goM m3 (ag.mk g.X g.Y c.Initial) 0 else m3:=by
    unfold cycX
    dsimp only
    rw[hm0,hm1,hm2,hm3]
  have p0:m0.1=ag.mk p.X p.Y (if p.Z<c.R then c.R else p.Z):=by rw[←hm0];exact goM_pos _ _ _
  have l0':m0.2.length≤l0.length+1:=by rw[←hm0];exact dC _ _ _
  have l1:m1.2.length≤l0.length+2:=by have:=dC m0 (ag.mk g.X g.Y m0.1.Z) 0;rw[hm1]at this;omega
  have l2:m2.2.length≤l0.length+3:=by have:=dC m1 (ag.mk g.X g.Y c.R) 0;rw[hm2]at this;omega
  have l3:m3.2.length≤l0.length+2003:=by have:=fold_len c g (depL c) m2;rw[hm3]at this;omega
  have hlenM:(cycX c (p,l0) g).2.length≤l0.length+2010:=by
    rw[hcyc]
    have:=dC m3 (ag.mk g.X g.Y c.Initial) 0
    split<;>omega
  have hrate:c.Rate>0:=by have:=ok.rate;omega
  dsimp only
  refine TotX.bind (E:=λv=>v=(m0.1.Z,m0.2)) (Tot.ite (λq=>?_) (λq=>.ok ?_)) (λv hv=>?_)
  · have q':p.Z<c.R:=by simpa using q
    have e0:m0=(ag.mk p.X p.Y c.R,l0++[au.mk 1 (ag.mk p.X p.Y c.R) (aG.mk 0 0) 0]):=by
      rw[←hm0,if_pos q']
      unfold goM
      rw[if_neg (by
        show ¬(ag.mk p.X p.Y c.R=p)
        rw[pos_ext]
        show ¬(p.X=p.X∧p.Y=p.Y∧c.R=p.Z)
        omega)]
      rfl
    rw[e0]
    refine Tot.bind (E:=λv=>v=(c.R,l0++[au.mk 1 (ag.mk p.X p.Y c.R) (aG.mk 0 0) 0])) (Tot.ite (λ_=>.guard (bA (by omega)) (.ok rfl)) (λq2=>?_)) (λv hv=>.ok (by rw[hv]))
    simp at q2;omega
  · have q':¬p.Z<c.R:=by simpa using q
    have e0:m0=(p,l0):=by
      rw[←hm0,if_neg q']
      unfold goM
      rw[if_pos (pos_eta p)]
    rw[e0]
  · subst hv
    dsimp only
    have e0:(ag.mk p.X p.Y m0.1.Z,m0.2)=m0:=by
      have:ag.mk p.X p.Y m0.1.Z=m0.1:=by rw[p0]
      rw[this]
    have g1:=kV (p:=ag.mk p.X p.Y m0.1.Z) (q:=ag.mk g.X g.Y m0.1.Z) (l:=m0.2) (k:=1) (r:=0) rfl (by omega)
    refine TotX.bind (E:=λv=>v=m1) (Tot.eq g1 (by rw[e0,hm1])) (λv hv=>?_)
    subst hv
    have g2:=kV (p:=v.1) (q:=ag.mk g.X g.Y c.R) (l:=v.2) (k:=1) (r:=0) rfl (by omega)
    refine TotX.bind (E:=λv=>v=m2) (Tot.eq g2 hm2) (λv2 hv=>?_)
    subst hv
    refine TotX.bind (E:=λv=>v=m3) (Tot.guard (bn (by omega)) (Tot.range (λi v=>v=((depL c).take i).foldl (λs z=>goM (goM s (ag.mk g.X g.Y z) c.Rate) (ag.mk g.X g.Y c.R) 0) v2∧v.2.length≤l0.length+3+2*i) _ ⟨rfl,by simpa using l2⟩ (λi z u hx hu=>?_) (λu hu=>.ok ?_))) (λv3 hv=>?_)
    · obtain⟨hu1,hu2⟩:=hu
      have hil:=az hx
      have g3:=kV (p:=u.1) (q:=ag.mk g.X g.Y z) (l:=u.2) (k:=2) (r:=c.Rate) (by rw[if_pos hrate]) (by omega)
      have lu:=dC (u.1,u.2) (ag.mk g.X g.Y z) c.Rate
      refine TotX.bind (E:=λw=>w=goM (u.1,u.2) (ag.mk g.X g.Y z) c.Rate) (Tot.eq g3 rfl) (λw hw=>?_)
      subst hw
      have g4:=kV (p:=(goM (u.1,u.2) (ag.mk g.X g.Y z) c.Rate).1) (q:=ag.mk g.X g.Y c.R) (l:=(goM (u.1,u.2) (ag.mk g.X g.Y z) c.Rate).2) (k:=1) (r:=0) rfl (by
        have:(u.1,u.2).2.length=u.2.length:=rfl
        omega)
      refine TotX.bind (E:=λw=>w=goM (goM (u.1,u.2) (ag.mk g.X g.Y z) c.Rate) (ag.mk g.X g.Y c.R) 0) (Tot.eq g4 rfl) (λw hw=>.go ?_)
      subst hw
      have lw:=dC (goM (u.1,u.2) (ag.mk g.X g.Y z) c.Rate) (ag.mk g.X g.Y c.R) 0
      refine⟨?_,?_⟩
      · rw[zO,hx,List.foldl_append,←hu1];rfl
      · have:(u.1,u.2).2.length=u.2.length:=rfl
        show (goM (goM (u.1,u.2) (ag.mk g.X g.Y z) c.Rate) (ag.mk g.X g.Y c.R) 0).2.length≤_
        omega
    · rw[hu.1,zQ,hm3]
    · subst hv
      refine TotX.bind (E:=λv=>v=cycX c (p,l0) g) (Tot.ite (λq=>?_) (λq=>.ok ?_)) (λv4 hv=>?_)
      · have g5:=kV (p:=v3.1) (q:=ag.mk g.X g.Y c.Initial) (l:=v3.2) (k:=1) (r:=0) rfl (by omega)
        refine Tot.bind (E:=λw=>w=cycX c (p,l0) g) (Tot.eq g5 (by rw[hcyc,if_pos q])) (λw hw=>.ok (by rw[hw]))
      · rw[hcyc,if_neg (by rw[q];simp)]
      · subst hv
        refine TotX.ite (λq=>?_) (λ_=>.go rfl)
        simp at q;omega
def movs(c:ak):ag→List aG→List au
 | _,[]=>[]
 | p,g::r=>(cycM c p g).2++movs c (cycM c p g).1 r
def posS(c:ak):ag→List aG→ag
 | p,[]=>p
 | p,g::r=>posS c (cycM c p g).1 r
theorem movs_snoc(c:ak)(g:aG):∀(l:List aG) (p:ag),movs c p (l++[g])=movs c p l++(cycM c (posS c p l) g).2∧posS c p (l++[g])=(cycM c (posS c p l) g).1
 | [],p=>by simp[movs,posS]
 | x::l,p=>by
  obtain⟨h1,h2⟩:=movs_snoc c g l (cycM c p x).1
  rw[zA,movs,movs,posS,posS,h1,h2,zF]
  exact⟨rfl,rfl⟩
theorem movs_len{c:ak}(h:CycOk c):∀(l:List aG) (p:ag),(movs c p l).length≤2010*l.length
 | [],_=>by simp[movs]
 | g::l,p=>by
  rw[movs,zH,zG]
  have:=cycM_len h p g
  have:=movs_len h l (cycM c p g).1
  omega
def nearG(g:aG):Prop:=(-10000000≤g.X∧g.X≤10000000)∧(-10000000≤g.Y∧g.Y≤10000000)
theorem cy_Expand_many{c:ak}{p:ag}{l:List aG}(h:cycV c=0)(hp:inR p)(hg:∀g∈l,nearG g)(hl:l.length≤5):dX c p l=some (movs c p l,0):=by
 have ok:=jg h
 unfold inR at hp
 apply Tot.get
 unfold dX
 rw[jX,aA,if_pos h,if_neg (by simp)]
 have hfar:∀n:Int,-10000000≤n→n≤10000000→eO n=some false:=λn a b=>by rw[fu,decide_eq_false (by omega)]
 rw[hfar _ hp.1.1 hp.1.2,hfar _ hp.2.1.1 hp.2.1.2,hfar _ hp.2.2.1 hp.2.2.2]
 simp only[aA,zL,if_false]
 refine Tot.bind (E:=λv=>v=false) (Tot.guard (bn (by omega)) (Tot.range (λ_ v=>v=false) _ rfl (λi g v hx hv=>?_) (λv hv=>.ok hv))) (λv hv=>?_)
 ·have hgg:=hg g (List.mem_of_getElem? hx)
  unfold nearG at hgg
  subst hv
  rw[hfar _ hgg.1.1 hgg.1.2,hfar _ hgg.2.1 hgg.2.2]
  simp only[aA,zL,if_false]
  exact TotX.go rfl
 ·subst hv
  rw[if_neg (by simp)]
  refine Tot.bindX (E:=λs=>s.2=movs c p l) (TotX.guard (bn (by omega)) (TotX.of (Tot.range (λi v=>v=(posS c p (l.take i),movs c p (l.take i))) _ rfl (λi g v hx hv=>?_) (λv hv=>.ok ?_)))) (λs hs=>.ok (by rw[hs]))
  ·subst hv
   have hi:=az hx
   have hml:=movs_len ok (l.take i) p
   rw[List.length_take]at hml
   refine TotX.bindX (E:=λs=>s=cycX c (posS c p (l.take i),movs c p (l.take i)) g) ?_ (λs hs=>.go ?_)
   ·refine TotX.mono (cycB1_tot ok (posS c p (l.take i)) (movs c p (l.take i)) g (by omega)) (λx hx=>hx.elim) (λx hx=>hx)
   ·have ht:l.take (i+1)=l.take i++[g]:=by rw[zO,hx];rfl
    obtain⟨h1,h2⟩:=movs_snoc c g (l.take i) p
    rw[hs,cycX_eq,ht,h1,h2]
  ·rw[hv,zQ]
theorem kl{b:ac}(h:fL b):okS b:=⟨λw hw=>by
 obtain⟨a1,a2,_⟩:=h.2.2.1 w hw
 unfold u8W;omega,by have:=h.1;omega,by have:=h.2.1;omega⟩
def T0:aw:=⟨⟨zP,zP,zP,zP,zP,zP⟩,[]⟩
theorem T0_len:T0.Lengths.length≤1000:=by decide
theorem T0_valid:ey T0=some 0:=by rfl
theorem T0_offset:gv T0 54000 0=some (zP,0):=by rfl
theorem addz(q:ag):addP q zP=q:=by unfold addP zP;simp
theorem machV0{q:ag}(hq:inR q):machV T0 54000 0 q=(q,0):=by
 have h:cz T0 54000 0 q=some (q,0):=by
  unfold cz
  rw[T0_offset,aA]
  simp only[bne_self_eq_false,zL,if_false]
  have hi:=hq
  unfold inR at hi
  have e1:zU.wrap (q.X+zU.wrap (1*zP.X))=q.X:=by rw[wrap_i64 (n:=1*zP.X) (by decide) (by decide),show 1*zP.X=0 from rfl,wrap_i64 (by omega) (by omega)];omega
  have e2:zU.wrap (q.Y+zU.wrap (1*zP.Y))=q.Y:=by rw[wrap_i64 (n:=1*zP.Y) (by decide) (by decide),show 1*zP.Y=0 from rfl,wrap_i64 (by omega) (by omega)];omega
  have e3:zU.wrap (q.Z+zU.wrap (1*zP.Z))=q.Z:=by rw[wrap_i64 (n:=1*zP.Z) (by decide) (by decide),show 1*zP.Z=0 from rfl,wrap_i64 (by omega) (by omega)];omega
  unfold eZ
  rw[e1,e2,e3,gw,decide_eq_true hq]
  rfl
 have:=machV_eq T0_len 54000 0 q
 rw[h]at this
 injection this with this
 exact this.symm
theorem workV0{q:ag}(hq:inR q):workV T0 54000 0 q=(q,0):=by
 have h:=machV_back (t:=T0) T0_len (w:=54000) (n:=0) (q:=q) (by rw[machV0 hq])
 rw[machV0 hq]at h
 exact h
theorem runM0:∀(L:List aq) (v:List ao×ag),(∀x∈L,inR x.at_)→runM T0 54000 0 0 0 L v=.go (v.1++chn zP 0 v.2 L,lastP zP v.2 L)
 | [],v,_=>by simp[runM,chn,lastP]
 | x::l,v,hs=>by
  rw[runM,machV0 (hs x (by simp))]
  dsimp only
  rw[if_neg (by simp),runM0 l _ (λy hy=>hs y (by simp[hy]))]
  unfold addM
  rw[chn,lastP,addz]
  cases hp:posEq x.at_ v.2<;>simp[hp]
def S0(m f r:Int):am:=⟨m,90000,54000,49000,r,f,0,0⟩
def okMv(m:au):Prop:=((m.Kind=1∧m.Rate=0)∨(m.Kind=2∧0<m.Rate∧m.Rate≤1000000000000))∧inR m.To∧m.Center=⟨0,0⟩
theorem inR_far{q:ag}(h:inR q):farP q.X=false∧farP q.Y=false∧farP q.Z=false:=by
 unfold inR at h
 unfold farP
 exact⟨decide_eq_false (by omega),decide_eq_false (by omega),decide_eq_false (by omega)⟩
theorem iU{p:ag}{m:au}(hp:inR p)(h:okMv m):movB p m=(⟨false,movW p m,[]⟩,0):=by
 obtain⟨h1,h2,_⟩:=h
 have hv:movV p m=0:=by
  unfold movV
  rw[if_pos (by omega)]
  obtain⟨a,b,c⟩:=inR_far hp
  obtain⟨d,e,f⟩:=inR_far h2
  have:far6 p m.To=false:=by unfold far6;rw[a,b,c,d,e,f];rfl
  rw[this];simp
 unfold movB
 rw[if_neg (by simpa using hv),if_neg (by omega)]
theorem okPos_in{q:ag}(h:inR q):okPos q:=by unfold inR at h;unfold okPos i64P;omega
theorem okMove_mv{m:au}(h:okMv m):okMove m:=by
 obtain⟨h1,h2,h3⟩:=h
 refine⟨by unfold i64P;omega,okPos_in h2,?_,?_,by unfold i64P;omega⟩
 ·rw[h3];unfold i64P;dsimp only;omega
 ·rw[h3];unfold i64P;dsimp only;omega
theorem step_straight{p:ag}{m:au}{k f r:Int}(hp:inR p)(h:okMv m):∃f',stepP (S0 k f r) zC (movB p m).1 T0 p=(chn zP 0 p [reM m],S0 (1000*(m.Kind-1)) f' r,zC,0)∧okS (movB p m).1∧endsW (movB p m).1=false:=by
 have hb:=iU hp h
 have hgood:=good_mov (p:=p) (m:=m) (by rw[hb])
 rw[hb]at hgood ⊢
 obtain⟨h1,h2,h3⟩:=h
 have hrun:=runM0 [reM m] ([],p) (λx hx=>by simp at hx;subst hx;exact h2)
 have hw:=workV0 hp
 have hi:=h2
 unfold inR at hi
 have hokS:okS ⟨false,movW p m,[]⟩:=⟨hgood.2.1,by have:=hgood.2.2;simp only at this ⊢;omega,by simp⟩
 obtain⟨K,To,C,rt⟩:=m
 simp only at h1 hi
 rcases h1 with⟨rfl,rfl⟩|⟨rfl,e1,e2⟩
 ·have hW:movW p ⟨1,To,C,0⟩=[⟨71,0⟩,⟨88,To.X⟩,⟨89,To.Y⟩,⟨90,To.Z⟩]:=by simp[movW]
  rw[hW]at hgood hokS ⊢
  have htk:eN ⟨false,[⟨71,0⟩,⟨88,To.X⟩,⟨89,To.Y⟩,⟨90,To.Z⟩],[]⟩:=by
   refine⟨⟨by simp,by simp,λw hw=>?_,by simp⟩,hgood.1,by rfl⟩
   simp only[zE,zD,or_false]at hw
   rcases hw with rfl | rfl | rfl | rfl<;>(unfold okW;dsimp only;omega)
  refine⟨f,?_,hokS,rfl⟩
  exact kd (s1:=S0 0 f r) (pw:=p) (fl:=[reM ⟨1,To,C,0⟩]) (u:=(chn zP 0 p [reM ⟨1,To,C,0⟩],lastP zP p [reM ⟨1,To,C,0⟩])) htk rfl rfl rfl rfl hw rfl (by
   show runM T0 54000 0 0 0 _ _=_
   rw[hrun,zB])
 ·have hW:movW p ⟨2,To,C,rt⟩=[⟨71,1000⟩,⟨88,To.X⟩,⟨89,To.Y⟩,⟨90,To.Z⟩,⟨70,rt⟩]:=by simp[movW]
  rw[hW]at hgood hokS ⊢
  have htk:eN ⟨false,[⟨71,1000⟩,⟨88,To.X⟩,⟨89,To.Y⟩,⟨90,To.Z⟩,⟨70,rt⟩],[]⟩:=by
   refine⟨⟨by simp,by simp,λw hw=>?_,by simp⟩,hgood.1,by rfl⟩
   simp only[zE,zD,or_false]at hw
   rcases hw with rfl | rfl | rfl | rfl | rfl<;>(unfold okW;dsimp only;omega)
  refine⟨rt,?_,hokS,rfl⟩
  exact kd (s1:=S0 1000 rt r) (pw:=p) (fl:=[reM ⟨2,To,C,rt⟩]) (u:=(chn zP 0 p [reM ⟨2,To,C,rt⟩],lastP zP p [reM ⟨2,To,C,rt⟩])) htk rfl rfl rfl (by
   show (false||(true&&decide (rt≤0)))=false
   rw[decide_eq_false (by omega)];rfl) hw rfl (by
   show runM T0 54000 0 0 0 _ _=_
   rw[hrun,zB])
def blkL:ag→List au→List ac
 | _,[]=>[]
 | p,m::r=>(movB p m).1::blkL m.To r
theorem blkL_len:∀(l:List au) (p:ag),(blkL p l).length=l.length
 | [],_=>rfl
 | m::r,p=>by rw[blkL,zG,zG,blkL_len r]
theorem run_straight:∀(l:List au) (p:ag) (k f r:Int),inR p→(∀m∈l,okMv m)→∃k' f',Runs T0 (S0 k f r) zC p (blkL p l) (chn zP 0 p (l.map reM)) (S0 k' f' r) zC (lastP zP p (l.map reM))∧inR (lastP zP p (l.map reM))∧∀b∈blkL p l,okS b
 | [],p,k,f,r,hp,_=>⟨k,f,.nil,hp,λb hb=>by simp[blkL]at hb⟩
 | m::l,p,k,f,r,hp,h=>by
  obtain⟨f1,s1,s2,s3⟩:=step_straight (k:=k) (f:=f) (r:=r) hp (h m (by simp))
  have hl:lastP zP p [reM m]=m.To:=by show addP m.To zP=m.To;exact addz _
  obtain⟨k',f',a1,a2,a3⟩:=run_straight l m.To (1000*(m.Kind-1)) f1 r (h m (by simp)).2.1 (λx hx=>h x (by simp[hx]))
  refine⟨k',f',?_,?_,λb hb=>?_⟩
  ·rw[blkL,zI,show reM m::l.map reM=[reM m]++l.map reM from rfl,chn_app,jR,hl]
   exact .cons s2 s1 s3 (by rw[kz,hl];exact a1)
  ·rw[zI,show reM m::l.map reM=[reM m]++l.map reM from rfl,jR,hl]
   exact a2
  ·rw[blkL]at hb
   rcases List.mem_cons.1 hb with rfl | hb
   ·exact s2
   ·exact a3 b hb
theorem depL_bd{c:ak}(h:CycOk c):∀z∈depL c,c.Z≤z∧z≤c.R:=by
 intro z hz
 have hzr:=h.zr
 unfold depL at hz
 rcases List.mem_append.1 hz with hz | hz
 ·obtain⟨k,hk,rfl⟩:=List.mem_map.1 hz
  have hk:=List.mem_range.1 hk
  unfold depN at hk
  by_cases hc:c.Code=83000
  ·rw[if_pos hc]at hk
   have hq:=(h.q hc).1
   have h1:=(dep_iff (R:=c.R) (Z:=c.Z) hq k).2 (by omega)
   have h2:0≤((k:Int)+1)*c.Q:=Int.mul_nonneg (by omega) (by omega)
   omega
  ·rw[if_neg hc]at hk;omega
 ·simp only[zE,zD,or_false]at hz
  subst hz;omega
def goodS(p:ag)(s:ag×List au):Prop:=inR s.1∧(∀m∈s.2,okMv m)∧lastP zP p (s.2.map reM)=s.1
theorem kr{p:ag}{s:ag×List au}{q:ag}{r:Int}(h:goodS p s)(hq:inR q)(hr:0≤r∧r≤1000000000000):goodS p (goM s q r):=by
 unfold goM
 by_cases e:q=s.1
 ·rw[if_pos e];exact h
 ·rw[if_neg e]
  obtain⟨h1,h2,h3⟩:=h
  refine⟨hq,λm hm=>?_,?_⟩
  ·rcases List.mem_append.1 hm with hm | hm
   ·exact h2 m hm
   ·simp only[zE,zD,or_false]at hm
    subst hm
    refine⟨?_,hq,rfl⟩
    by_cases hr0:r>0
    ·rw[if_pos hr0];exact .inr ⟨rfl,hr0,hr.2⟩
    ·rw[if_neg hr0];exact .inl ⟨rfl,by dsimp only;omega⟩
  ·rw[zJ,jR,h3]
   exact addz q
theorem jW{c:ak}(h:CycOk c){p:ag}{g:aG}(hp:inR p)(hg:nearG g):goodS p (cycM c p g):=by
 obtain⟨r1,r2⟩:=h.r
 obtain⟨i1,i2⟩:=h.i
 obtain⟨t1,t2⟩:=h.rate
 have hpp:=hp
 unfold inR at hpp
 unfold nearG at hg
 unfold cycM
 have b0:goodS p (p,[]):=⟨hp,λm hm=>by simp at hm,rfl⟩
 have b1:=kr (q:=ag.mk p.X p.Y (if p.Z<c.R then c.R else p.Z)) (r:=0) b0 (by unfold inR;dsimp only;split<;>omega) (by omega)
 dsimp only
 generalize goM (p,[]) (ag.mk p.X p.Y (if p.Z<c.R then c.R else p.Z)) 0=m0 at b1 ⊢
 have hz:=b1.1
 unfold inR at hz
 have b2:=kr (q:=ag.mk g.X g.Y m0.1.Z) (r:=0) b1 (by unfold inR;dsimp only;omega) (by omega)
 generalize goM m0 (ag.mk g.X g.Y m0.1.Z) 0=m1 at b2 ⊢
 have b3:=kr (q:=ag.mk g.X g.Y c.R) (r:=0) b2 (by unfold inR;dsimp only;omega) (by omega)
 generalize goM m1 (ag.mk g.X g.Y c.R) 0=m2 at b3 ⊢
 have b4:∀(zs:List Int) (s:ag×List au),(∀z∈zs,c.Z≤z∧z≤c.R)→goodS p s→goodS p (zs.foldl (λs z=>goM (goM s (ag.mk g.X g.Y z) c.Rate) (ag.mk g.X g.Y c.R) 0) s):=by
  intro zs
  induction zs with
  | nil=>intro s _ hs;exact hs
  | cons z zs ih =>
   intro s hz hs
   have hz1:=hz z (by simp)
   have hzz:=h.z
   rw[zK]
   exact ih _ (λy hy=>hz y (by simp[hy])) (kr (kr hs (by unfold inR;dsimp only;omega) (by omega)) (by unfold inR;dsimp only;omega) (by omega))
 have b5:=b4 (depL c) m2 (depL_bd h) b3
 generalize (depL c).foldl (λs z=>goM (goM s (ag.mk g.X g.Y z) c.Rate) (ag.mk g.X g.Y c.R) 0) m2=m3 at b5 ⊢
 split
 ·exact kr b5 (by unfold inR;dsimp only;omega) (by omega)
 ·exact b5
theorem movs_good{c:ak}(h:CycOk c):∀(l:List aG) (p:ag),inR p→(∀g∈l,nearG g)→inR (posS c p l)∧(∀m∈movs c p l,okMv m)∧lastP zP p ((movs c p l).map reM)=posS c p l
 | [],p,hp,_=>⟨hp,λm hm=>by simp[movs]at hm,rfl⟩
 | g::l,p,hp,hg=>by
  obtain⟨a1,a2,a3⟩:=jW h hp (hg g (by simp))
  obtain⟨b1,b2,b3⟩:=movs_good h l (cycM c p g).1 a1 (λx hx=>hg x (by simp[hx]))
  refine⟨b1,λm hm=>?_,?_⟩
  ·rw[movs]at hm
   rcases List.mem_append.1 hm with hm | hm
   ·exact a2 m hm
   ·exact b2 m hm
  ·rw[movs,zJ,jR,a3,b3];rfl
def xyB(g:aG):ac:=⟨false,[⟨88,g.X⟩,⟨89,g.Y⟩],[]⟩
theorem expV_go{c:ak}{p:ag}{g:aG}(h:cycV c=0)(hp:inR p)(hg:nearG g):expV c p g=((cycM c p g).2,0):=by
 unfold inR at hp
 unfold nearG at hg
 unfold expV
 rw[if_pos h,if_neg (show ¬far3 p g by unfold far3;omega)]
theorem cycB_code{k:Int}(h:k=83000∨k=81000∨k=82000):cycB k=true∧(k==80000)=false∧(k != 0)=true∧k≠0∧k≠1000:=by
 rcases h with rfl | rfl | rfl<;>exact⟨rfl,rfl,rfl,by decide,by decide⟩
theorem step_xy{c:ak}(h:cycV c=0){p:ag}{g:aG}(hp:inR p)(hg:nearG g):stepP (S0 c.Code c.Rate (if c.High=true then 98000 else 99000)) c (xyB g) T0 p=(chn zP 0 p ((cycM c p g).2.map reM),S0 c.Code c.Rate (if c.High=true then 98000 else 99000),c,0)∧okS (xyB g)∧endsW (xyB g)=false:=by
 have ok:=jg h
 obtain⟨k1,k2,k3,k4,k5⟩:=cycB_code ok.code
 have hg':=hg
 unfold nearG at hg'
 have htk:eN (xyB g):=by
  refine⟨⟨by simp[xyB],by simp[xyB],λw hw=>?_,by simp[xyB]⟩,rfl,rfl⟩
  simp only[xyB,zE,zD,or_false]at hw
  rcases hw with rfl | rfl<;>(unfold okW;dsimp only;omega)
 obtain⟨a1,a2,a3⟩:=jW ok hp hg
 refine⟨?_,kl htk.1,rfl⟩
 have hrd:rdC (S0 c.Code c.Rate (if c.High=true then 98000 else 99000)) c (xyB g) p=c:=by
  show ak.mk c.Code c.R c.Z c.Q c.Rate (iniW c p) ((if c.High=true then (98000:Int)else 99000)==98000)=c
  have e1:iniW c p=c.Initial:=by
   unfold iniW
   rw[if_neg]
   have:(c.Code==0)=false:=by simpa using k4
   rw[this];simp
  have e2:((if c.High=true then (98000:Int)else 99000)==98000)=c.High:=by cases c.High<;>rfl
  rw[e1,e2]
 have htg:aG.mk (tgtW (S0 c.Code c.Rate (if c.High=true then 98000 else 99000)) (xyB g) p).X (tgtW (S0 c.Code c.Rate (if c.High=true then 98000 else 99000)) (xyB g) p).Y=g:=by
  show aG.mk g.X g.Y=g
  rfl
 have hpos:posV (S0 c.Code c.Rate (if c.High=true then 98000 else 99000)) (if cycB (S0 c.Code c.Rate (if c.High=true then 98000 else 99000)).Motion=true then c else zC) (xyB g) p=((cycM c p g).2.map reM,c,0):=by
  rw[show (S0 c.Code c.Rate (if c.High=true then 98000 else 99000)).Motion=c.Code from rfl,if_pos k1]
  unfold posV
  rw[show (S0 c.Code c.Rate (if c.High=true then 98000 else 99000)).Motion=c.Code from rfl,if_neg k4,if_neg k5,if_pos k1,hrd,htg,h,expV_go h hp hg]
  simp
 have hrate:=ok.rate.1
 refine kd (u:=(chn zP 0 p ((cycM c p g).2.map reM),lastP zP p ((cycM c p g).2.map reM))) (pw:=p) htk rfl rfl ?_ ?_ (workV0 hp) hpos ?_
 ·rfl
 ·rw[show (S0 c.Code c.Rate (if c.High=true then 98000 else 99000)).Motion=c.Code from rfl,k2,k3]
  show (false||(true&&decide (c.Rate≤0)))=false
  rw[decide_eq_false (by omega)];rfl
 ·show runM T0 54000 0 0 0 _ _=_
  rw[runM0 _ ([],p) (λx hx=>by
   obtain⟨m,hm,rfl⟩:=List.mem_map.1 hx
   exact (a2 m hm).2.1),zB]
theorem run_xy{c:ak}(h:cycV c=0):∀(l:List aG) (p:ag),inR p→(∀g∈l,nearG g)→Runs T0 (S0 c.Code c.Rate (if c.High=true then 98000 else 99000)) c p (l.map xyB) (chn zP 0 p ((movs c p l).map reM)) (S0 c.Code c.Rate (if c.High=true then 98000 else 99000)) c (posS c p l)
 | [],p,_,_=>.nil
 | g::l,p,hp,hg=>by
  obtain⟨s1,s2,s3⟩:=step_xy h hp (hg g (by simp))
  obtain⟨a1,a2,a3⟩:=jW (jg h) hp (hg g (by simp))
  have:=run_xy h l (cycM c p g).1 a1 (λx hx=>hg x (by simp[hx]))
  rw[zI,movs,zJ,chn_app,a3]
  exact .cons s2 s1 s3 (by rw[kz,a3];exact this)
def fP(c:ak)(g:aG):ac:=⟨false,[⟨71,if c.High=true then 98000 else 99000⟩,⟨71,c.Code⟩,⟨88,g.X⟩,⟨89,g.Y⟩,⟨82,c.R⟩,⟨90,c.Z⟩]++(if c.Code=83000 then [⟨81,c.Q⟩]else [])++[⟨70,c.Rate⟩],[]⟩
def readC(c:ak):ak:=⟨c.Code,c.R,c.Z,if c.Code=83000 then c.Q else 0,c.Rate,c.Initial,c.High⟩
theorem readC_ok{c:ak}(h:cycV c=0):cycV (readC c)=0∧∀p g,cycM (readC c) p g=cycM c p g:=by
 by_cases hc:c.Code=83000
 ·have:readC c=c:=by unfold readC;rw[if_pos hc]
  rw[this];exact⟨h,λ_ _=>rfl⟩
 ·have e:readC c=⟨c.Code,c.R,c.Z,0,c.Rate,c.Initial,c.High⟩:=by unfold readC;rw[if_neg hc]
  rw[e]
  constructor
  ·rw[←h]
   unfold cycV
   simp[hc]
  ·intro p g
   have hd:depL ⟨c.Code,c.R,c.Z,0,c.Rate,c.Initial,c.High⟩=depL c:=by
    unfold depL depN
    rw[if_neg hc,if_neg hc]
    rfl
   unfold cycM
   rw[hd]
theorem movs_read{c:ak}(h:cycV c=0):∀(l:List aG) (p:ag),movs (readC c) p l=movs c p l∧posS (readC c) p l=posS c p l
 | [],_=>⟨rfl,rfl⟩
 | g::l,p=>by
  have e:=(readC_ok h).2 p g
  obtain⟨a,b⟩:=movs_read h l (cycM c p g).1
  rw[movs,movs,posS,posS,e,a,b]
  exact⟨rfl,rfl⟩
theorem step_drill{c:ak}(h:cycV c=0){p:ag}{g:aG}{f r:Int}(hp:inR p)(hg:nearG g)(hz:p.Z=c.Initial):stepP (S0 0 f r) zC (fP c g) T0 p=(chn zP 0 p ((cycM c p g).2.map reM),S0 c.Code c.Rate (if c.High=true then 98000 else 99000),readC c,0)∧okS (fP c g)∧endsW (fP c g)=false:=by
 have ok:=jg h
 obtain⟨k1,k2,k3,k4,k5⟩:=cycB_code ok.code
 obtain⟨h1,h2⟩:=readC_ok h
 have hrr:=ok.r;have hzz:=ok.z;have hrt:=ok.rate
 have hg':=hg
 unfold nearG at hg'
 have hq:c.Code=83000→-1000000000000≤c.Q∧c.Q≤1000000000000:=λe=>by have:=ok.q e;omega
 obtain⟨a1,a2,a3⟩:=jW ok hp hg
 have key:∀b:ac,b=fP c g→eN b→b.Words.foldl putW (S0 0 f r)=S0 c.Code c.Rate (if c.High=true then 98000 else 99000)→hasW b [88,89,90,73,74,81,82]=true→hasW b [73,74]=false→rdC (S0 c.Code c.Rate (if c.High=true then 98000 else 99000)) zC b p=readC c→aG.mk (tgtW (S0 c.Code c.Rate (if c.High=true then 98000 else 99000)) b p).X (tgtW (S0 c.Code c.Rate (if c.High=true then 98000 else 99000)) b p).Y=g →
   stepP (S0 0 f r) zC b T0 p=(chn zP 0 p ((cycM c p g).2.map reM),S0 c.Code c.Rate (if c.High=true then 98000 else 99000),readC c,0):=by
  intro b _ htk hf hx hij hrd htg
  have hpos:posV (S0 c.Code c.Rate (if c.High=true then 98000 else 99000)) (if cycB (S0 c.Code c.Rate (if c.High=true then 98000 else 99000)).Motion=true then zC else zC) b p=((cycM c p g).2.map reM,readC c,0):=by
   rw[show (S0 c.Code c.Rate (if c.High=true then 98000 else 99000)).Motion=c.Code from rfl,if_pos k1]
   unfold posV
   rw[show (S0 c.Code c.Rate (if c.High=true then 98000 else 99000)).Motion=c.Code from rfl,if_neg k4,if_neg k5,if_pos k1,hrd,htg,h1,expV_go h1 hp hg,h2]
   simp
  refine kd (u:=(chn zP 0 p ((cycM c p g).2.map reM),lastP zP p ((cycM c p g).2.map reM))) (pw:=p) htk hf hx ?_ ?_ (workV0 hp) hpos ?_
  ·rw[hij,show (S0 c.Code c.Rate (if c.High=true then 98000 else 99000)).Motion=c.Code from rfl,k1]
   simp
  ·rw[show (S0 c.Code c.Rate (if c.High=true then 98000 else 99000)).Motion=c.Code from rfl,k2,k3]
   show (false||(true&&decide (c.Rate≤0)))=false
   rw[decide_eq_false (by omega)];rfl
  ·show runM T0 54000 0 0 0 _ _=_
   rw[runM0 _ ([],p) (λx hx=>by
    obtain⟨m,hm,rfl⟩:=List.mem_map.1 hx
    exact (a2 m hm).2.1),zB]
 obtain⟨code,R,Z,Q,rate,ini,high⟩:=c
 simp only at hrr hzz hrt hq k1 k2 k3 k4 k5 hz
 have hcode:code=83000∨code=81000∨code=82000:=ok.code
 have hini:iniW zC p=ini:=hz
 rcases hcode with rfl | rfl | rfl<;>cases high
 all_goals
  refine (λ(htk:eN _)=>⟨key _ rfl htk ?_ rfl rfl ?_ rfl,kl htk.1,rfl⟩) ?_
  ·refine⟨⟨by simp[fP],by simp[fP],λw hw=>?_,by simp[fP]⟩,?_,by rfl⟩
   ·simp[fP]at hw
    rcases hw with rfl | rfl | rfl | rfl | rfl | rfl | rfl | rfl<;>(unfold okW;dsimp only;omega)
   ·simp[fP,goodW,clsW,fK,grp,codes1,codes2,codes3,codes4,codes5]
    omega
  ·rfl
  ·simp only[rdC,readC,fP,S0]
   rw[hini]
   rfl
end Go.Proofs.YtplhejpjnfjopaaGreatDoor
