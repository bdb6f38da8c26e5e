/-
  Ka, Kb, Kc, Ke, Kn, Kf, Kg, Kh, Ki in one text.
-/
import Derived.Test.YtgojngpeaknbnaaGreatDoorAall
import Derived.Test.YtgojngpeaknbnaaGreatDoorBall
import Derived.Test.YtgojngpeaknbnaaGreatDoorMH
open List renaming not_mem_nil → zA,mem_cons → zB,length_append → zD,nil_append → zE,cons_append → zF,length_cons → zI,length_map → zJ,append_assoc → zK,take_add_one → zL,mem_of_mem_take → zN,any_cons → zQ,any_nil → zT,append_nil → zV,foldl_cons → zW,length_nil → zX,length_filter_le → zY,length_singleton → kK,mem_append → kP,map_cons → kT
open Int renaming tdiv → zG,mul_le_mul_of_nonneg_right → zM,mul_le_mul_of_nonneg_left → zO,tmod_eq_emod_of_nonneg → zR,tmod → zU,ediv_lt_of_lt_mul → zZ,mul_ediv_cancel → kL,emod_nonneg → kR
open Bool renaming false_eq_true → zH,and_eq_true → kN,or_eq_true → kO
open Go.IntKind renaming i64 → kU,u8 → kV
namespace Go.Proofs.YtgojngpeaknbnaaGreatDoor
open Go.RowKit
set_option linter.unusedVariables false
set_option linter.unusedSimpArgs false
theorem kn{s:ak}{c:av}{b:aa}{t:aw}{p:ae}(h0:(stepP s c b t p).2.2.2=0):cN b:=by
 unfold stepP at h0
 by_cases hv:cN b
 ·exact hv
 ·rw[if_neg hv]at h0
  exact absurd h0 (show (1:Int)≠0 by decide)
theorem stepP_idle{s:ak}{c:av}{b:aa}{t:aw}{p:ae}(h:cN b)(hx:hasW b [88,89,90,73,74,81,82]=false) :
  stepP s c b t p=([],b.Words.foldl putW s,if cycB (b.Words.foldl putW s).Motion=true then c else zC,0):=by
 unfold stepP
 rw[if_pos h,if_neg (by rw[hx];simp)]
theorem jI{s:ak}{c:av}{b:aa}{t:aw}{p pw:ae}{s1:ak}{fl:List au}{c1:av}{u:List am×ae}(h:cN b)(hf:b.Words.foldl putW s=s1)(hx:hasW b [88,89,90,73,74,81,82]=true)
  (hbad:((hasW b [73,74]&&(s1.Motion != 2000)&&(s1.Motion != 3000))||(hasW b [81,82]&&!(cycB s1.Motion)))=false) (hst:((s1.Motion==80000)||((s1.Motion != 0)&&(decide (s1.Feed≤0))))=false)
  (hw:workV t s1.Work (numP s1) p=(pw,0)) (hp:posV s1 (if cycB s1.Motion=true then c else zC) b pw=(fl,c1,0)) (hr:runM t s1.Work (numP s1) (toolP s1) 0 fl ([],p)=.go u) :
  stepP s c b t p=(u.1,s1,c1,0):=by
 unfold stepP
 rw[if_pos h,if_pos hx,hf]
 unfold moveP
 rw[if_neg (by rw[hbad];simp),if_neg (by rw[hst];simp),hw]
 dsimp only
 rw[if_neg (by simp),hp]
 dsimp only
 rw[if_neg (by simp),hr]
theorem stepP_congr{s:ak}{c:av}{b b':aa}{t:aw}{p:ae}(h1:cN b)(h2:cN b')(hf:b'.Words.foldl putW s=b.Words.foldl putW s)
  (hw:∀l∈[88,89,90,73,74,81,82],findW b' l=findW b l) (hp:∀c q,posV (b.Words.foldl putW s) c b' q=posV (b.Words.foldl putW s) c b q):stepP s c b' t p=stepP s c b t p:=by
 have e1:hasW b' [88,89,90,73,74,81,82]=hasW b [88,89,90,73,74,81,82]:=by
  simp only[hasW,zQ,zT]
  rw[show (((88:UInt8).toNat:Int))=88 from rfl,show (((89:UInt8).toNat:Int))=89 from rfl,show (((90:UInt8).toNat:Int))=90 from rfl,show (((73:UInt8).toNat:Int))=73 from rfl,show (((74:UInt8).toNat:Int))=74 from rfl,show (((81:UInt8).toNat:Int))=81 from rfl,show (((82:UInt8).toNat:Int))=82 from rfl]
  rw[hw 88 (by simp),hw 89 (by simp),hw 90 (by simp),hw 73 (by simp),hw 74 (by simp),hw 81 (by simp),hw 82 (by simp)]
 have e2:hasW b' [73,74]=hasW b [73,74]:=by
  simp only[hasW,zQ,zT]
  rw[show (((73:UInt8).toNat:Int))=73 from rfl,show (((74:UInt8).toNat:Int))=74 from rfl]
  rw[hw 73 (by simp),hw 74 (by simp)]
 have e3:hasW b' [81,82]=hasW b [81,82]:=by
  simp only[hasW,zQ,zT]
  rw[show (((81:UInt8).toNat:Int))=81 from rfl,show (((82:UInt8).toNat:Int))=82 from rfl]
  rw[hw 81 (by simp),hw 82 (by simp)]
 unfold stepP moveP
 rw[if_pos h1,if_pos h2,hf,e1,e2,e3]
 simp only[hp]
theorem posV_congr{s:ak}{b b':aa}(hw:∀l∈[88,89,90,73,74,81,82],findW b' l=findW b l)(hc:cycB s.Motion=false∨findW b' 70=findW b 70)(c:av)(q:ae):posV s c b' q=posV s c b q:=by
 have ht:tgtW s b' q=tgtW s b q:=by
  unfold tgtW crd
  rw[hw 88 (by simp),hw 89 (by simp),hw 90 (by simp)]
 have hm:mvV s b' q=mvV s b q:=by
  unfold mvV
  rw[ht,hw 73 (by simp),hw 74 (by simp)]
 unfold posV
 rw[ht,hm]
 rcases hc with hc | hc
 ·rw[hc];simp
 ·have hr:rdC s c b' q=rdC s c b q:=by
   unfold rdC
   rw[hw 82 (by simp),hw 90 (by simp),hw 81 (by simp),hc]
  rw[hr]
inductive Runs (t:aw):ak→av→ae→List aa→List am→ak→av→ae→Prop
 | nil {s:ak} {c:av} {p:ae}:Runs t s c p [] [] s c p
 | cons {s s1 s2:ak} {c c1 c2:av} {p p2:ae} {b:aa} {l:List aa} {m ms:List am} (hp:inR p) (hb:okS b) (hs:stepP s c b t p=(m,s1,c1,0)) (he:endsW b=false) (r:Runs t s1 c1 (endW p m) l ms s2 c2 p2):Runs t s c p (b::l) (m++ms) s2 c2 p2
theorem Runs.app{t:aw}{s s1 s2:ak}{c c1 c2:av}{p p1 p2:ae}{l k:List aa}{m n:List am}(h:Runs t s c p l m s1 c1 p1)(h2:Runs t s1 c1 p1 k n s2 c2 p2):Runs t s c p (l++k) (m++n) s2 c2 p2:=by
 induction h with
 | nil=>exact h2
 | cons hp hb hs he r ih =>
  rw[zF,zK]
  exact .cons hp hb hs he (ih h2)
theorem Runs.one{t:aw}{s s1:ak}{c c1:av}{p p1:ae}{b:aa}{m:List am}(hr:inR p)(hb:okS b)(hs:stepP s c b t p=(m,s1,c1,0))(he:endsW b=false)(hp:endW p m=p1):Runs t s c p [b] m s1 c1 p1:=by
 have:=Runs.cons hr hb hs he (.nil (t:=t))
 rw[zV,hp]at this
 exact this
def bare0(m:am):am:=⟨m.From,m.To,m.Rate,m.Tool,0⟩
theorem bare_set(i:Nat):∀(l:List am),(∀m∈l,m.Block=0)→(l.map (setB i)).map bare0=l
 | [],_=>rfl
 | m::l,h=>by
  rw[kT,kT,bare_set i l (λx hx=>h x (by simp[hx]))]
  have:=h m (by simp)
  congr 1
  cases m
  simp only at this
  subst this;rfl
theorem rgl_feed{s:ak}(h:rglS s):i64P s.Feed:=by obtain⟨_,_,_,_,_,a6,_⟩:=h;unfold i64P;omega
theorem runM_blk(t:aw)(w n tool:Int):∀(l:List au) (v u:List am×ae),runM t w n tool 0 l v=.go u→(∀x∈v.1,x.Block=0)→∀x∈u.1,x.Block=0
 | [],v,u,h,hv=>by
  rw[runM]at h;injection h with h;subst h;exact hv
 | y::l,v,u,h,hv=>by
  rw[runM]at h
  split at h
  ·cases h
  ·refine runM_blk t w n tool l _ u h (λx hx=>?_)
   unfold addM at hx
   dsimp only at hx
   split at hx
   ·rcases List.mem_append.1 hx with z | z
    ·exact hv x z
    ·simp only[zB,zA,or_false]at z;subst z;rfl
   ·exact hv x hx
theorem ko{t:aw}{s s1:ak}{c c1:av}{p:ae}{b:aa}{m:List am}(hs:stepP s c b t p=(m,s1,c1,0)):cN b∧s1=b.Words.foldl putW s∧(cycB s1.Motion=false→c1=zC)∧∀x∈m,x.Block=0:=by
 have htk:=kn (s:=s) (c:=c) (b:=b) (t:=t) (p:=p) (by rw[hs])
 have hfail:∀e:Int,e≠0→failP e≠(m,s1,c1,0):=λe he h=>by
  have:(failP e).2.2.2=0:=by rw[h]
  exact he this
 unfold stepP at hs
 rw[if_pos htk]at hs
 generalize b.Words.foldl putW s=f at hs
 by_cases hx:hasW b [88,89,90,73,74,81,82]=true
 ·rw[if_pos hx]at hs
  generalize (if cycB f.Motion=true then c else zC)=c0 at hs
  unfold moveP at hs
  split at hs
  ·exact absurd hs (hfail 1 (by decide))
  ·split at hs
   ·exact absurd hs (hfail 13 (by decide))
   ·split at hs
    ·rename_i e;exact absurd hs (hfail _ e)
    ·split at hs
     ·rename_i e;exact absurd hs (hfail _ e)
     ·cases hr:runM t f.Work (numP f) (toolP f) 0 (posV f c0 b (workV t f.Work (numP f) p).1).1 ([],p)with
      | ret e=>rw[hr]at hs;exact absurd hs (hfail e (runM_ret _ _ _ _ _ _ _ _ hr))
      | go u =>
       rw[hr]at hs
       simp only[Prod.mk.injEq]at hs
       obtain⟨h1,h2,h3,_⟩:=hs
       subst h1;subst h2
       refine⟨htk,rfl,λhn=>?_,runM_blk _ _ _ _ _ _ _ hr (by simp)⟩
       rw[←h3]
       unfold posV
       split
       ·rfl
       ·split
        ·rfl
        ·rw[if_neg (by rw[hn];simp)]
         split<;>rfl
 ·rw[if_neg hx]at hs
  simp only[Prod.mk.injEq]at hs
  obtain⟨h1,h2,h3,_⟩:=hs
  subst h1;subst h2
  refine⟨htk,rfl,λhn=>?_,by simp⟩
  rw[←h3,if_neg (by rw[hn];simp)]
theorem good_wk:∀(ws:List ap) (seen seen':List Int),goodW seen ws=true→(∀c∈seen',c∈seen∨∀w∈ws,clsW w≠c)→goodW seen' ws=true
 | [],_,_,_,_=>rfl
 | w::r,seen,seen',h,hs=>by
  simp only[goodW,kN,bne_iff_ne,ne_eq,Bool.not_eq_true',List.contains_eq_mem,decide_eq_false_iff_not]at h ⊢
  obtain⟨⟨⟨h1,h0⟩,h2⟩,h3⟩:=h
  refine⟨⟨⟨h1,h0⟩,λz=>(hs _ z).elim h2 (λq=>q w (by simp) rfl)⟩,good_wk r _ _ h3 λc hc=>?_⟩
  rcases List.mem_cons.1 hc with z | z
  ·exact .inl (by simp[z])
  ·rcases hs c z with y | y
   ·exact .inl (by simp[y])
   ·exact .inr λx hx=>y x (by simp[hx])
theorem find_78(b:aa)(v l:Int)(h:l≠78):findW ⟨b.Skip,[⟨78,v⟩]++b.Words,b.Comment⟩ l=findW b l:=by
 unfold findW
 simp only[zF,zE,List.find?_cons]
 rw[show ((78:Int)==l)=false by simp;omega]
theorem step_num{s:ak}{c:av}{b b':aa}(t:aw)(p:ae)(hn:Num b' b)(hb:cN b)(hv:bL b')(h78:∀w∈b.Words,w.Letter≠78):stepP s c b' t p=stepP s c b t p∧endsW b'=endsW b:=by
 rcases hn with rfl | ⟨_,v,rfl⟩
 ·exact⟨rfl,rfl⟩
 ·have hx:∀l,l≠78→findW ⟨b.Skip,[⟨78,v⟩]++b.Words,b.Comment⟩ l=findW b l:=find_78 b v
  refine⟨stepP_congr hb ⟨hv,?_,?_⟩ ?_ (λl hl=>hx l ?_) (λc q=>posV_congr (λl hl=>hx l ?_) (.inr (hx 70 (by decide))) c q),?_⟩
  ·have:=good_wk b.Words [] [88] hb.2.1 (λc hc=>.inr λw hw=>by
    simp only[zB,zA,or_false]at hc
    subst hc
    have:=h78 w hw
    unfold clsW
    split
    ·rcases grp_in w.Value with q | q | q | q | q | q<;>omega
    ·omega)
   simp only[zF,zE,goodW]
   rw[show clsW ⟨78,v⟩=88 from rfl,this]
   rfl
  ·simp only[zF,zE,List.all_cons,hb.2.2,Bool.and_true]
   rfl
  ·simp only[zF,zE,zW]
   congr 1
  ·simp only[zB,zA,or_false]at hl;omega
  ·simp only[zB,zA,or_false]at hl;omega
  ·unfold endsW codesW
   simp
theorem Runs.num{t:aw}{s s2:ak}{c c2:av}{p p2:ae}{X:List aa}{ms:List am}(h:Runs t s c p X ms s2 c2 p2):∀{A:List aa},NumL A X→(∀b∈A,bL b∧okS b)→(∀b∈X,∀w∈b.Words,w.Letter≠78)→Runs t s c p A ms s2 c2 p2:=by
 induction h with
 | nil =>
  intro A hA _ _
  cases hA
  exact .nil
 | cons hp0 hb hs he r ih =>
  intro A hA hv h78
  cases hA with
  | cons h1 tl =>
   obtain⟨e1,e2⟩:=step_num t _ h1 (kn (by rw[hs])) (hv _ (by simp)).1 (h78 _ (by simp))
   exact .cons hp0 (hv _ (by simp)).2 (by rw[e1,hs]) (by rw[e2,he]) (ih tl (λx hx=>hv x (by simp[hx])) (λx hx=>h78 x (by simp[hx])))
def noCyc(b:aa):Prop:=∀w∈b.Words,w.Letter=71→cycB w.Value=false
theorem put_cyc{s:ak}{w:ap}(h:cycB s.Motion=false)(hw:w.Letter=71→cycB w.Value=false):cycB (putW s w).Motion=false:=by
 unfold putW
 by_cases q:w.Letter=71
 ·rw[if_pos q]
  split
  ·exact hw q
  ·repeat' split
   all_goals exact h
 ·rw[if_neg q]
  repeat' split
  all_goals exact h
theorem fold_cyc:∀(l:List ap) (s:ak),cycB s.Motion=false→(∀w∈l,w.Letter=71→cycB w.Value=false)→cycB (l.foldl putW s).Motion=false
 | [],s,h,_=>h
 | w::l,s,h,hw=>fold_cyc l _ (put_cyc h (hw w (by simp))) (λx hx=>hw x (by simp[hx]))
theorem idle_letter{s:ak}{w:ap}(h:idleW s w=true):w.Letter=71∨w.Letter=70∨w.Letter=84∨w.Letter=72:=by
 unfold idleW at h
 simp only[kN,kO,beq_iff_eq]at h
 exact h.1
theorem kB{s:ak}(sk:Bool)(cm:List UInt8)(b:aa)(l:Int)(hl:l∈[88,89,90,73,74,81,82,77]):findW ⟨sk,b.Words.filter λw=>!idleW s w,cm⟩ l=findW b l:=by
 have key:∀ws:List ap,(ws.filter λw=>!idleW s w).find? (λw=>w.Letter==l)=ws.find? (λw=>w.Letter==l):=by
  intro ws
  induction ws with
  | nil=>rfl
  | cons w r ih =>
   rw[List.filter_cons,List.find?_cons]
   cases hi:idleW s w with
   | true =>
    rw[if_neg (by simp),ih]
    have:=idle_letter hi
    rw[show (w.Letter==l)=false by
     simp only[zB,zA,or_false]at hl
     simp;omega]
   | false =>
    rw[if_pos (by simp),List.find?_cons,ih]
 unfold findW
 rw[key]
theorem codes_filter{s:ak}(sk:Bool)(cm:List UInt8)(b:aa):codesW ⟨sk,b.Words.filter λw=>!idleW s w,cm⟩ 77=codesW b 77:=by
 unfold codesW
 rw[List.filter_filter]
 congr 1
 refine List.filter_congr λw hw=>?_
 cases hi:idleW s w with
 | false=>simp
 | true =>
  have:=idle_letter hi
  rw[show (w.Letter==77)=false by simp;omega]
  rfl
theorem Runs.cmp{t:aw}{s s2:ak}{c c2:av}{p p2:ae}{X:List aa}{ms:List am}(h:Runs t s c p X ms s2 c2 p2) :
  c=zC→cycB s.Motion=false→(∀b∈X,noCyc b∧b.Comment=[])→Runs t s c p (cmpV s X) ms s2 c2 p2:=by
 induction h with
 | nil=>intro _ _ _;exact .nil
 | cons hp0 hb hs he r ih =>
  rename_i s s1 s2 c c1 c2 p p2 b l m ms
  intro hc hy hX
  obtain⟨k1,k2,k5,k6⟩:=ko hs
  obtain⟨n1,n2⟩:=hX b (by simp)
  have hy1:cycB s1.Motion=false:=by rw[k2];exact fold_cyc _ _ hy n1
  have hrest:=ih (k5 hy1) hy1 (λx hx=>hX x (by simp[hx]))
  have hpf:=put_filter s b.Words [] s k1.2.1 hb.1 (λ_ _=>rfl)
  have hwf:∀w∈b.Words.filter (λw=>!idleW s w),w∈b.Words:=λw hw=>(List.mem_filter.1 hw).1
  have hlen:=zY (λw=>!idleW s w) b.Words
  rw[cmpV,←k2]
  unfold cmpB
  split
  ·refine .cons hp0 ⟨λw hw=>hb.1 w (hwf w hw),by have:=hb.2.1;simp only;omega,hb.2.2⟩ ?_ ?_ hrest
   ·rw[←hs]
    refine stepP_congr k1 ⟨⟨by have:=k1.1.1;simp only;omega,k1.1.2.1,λw hw=>k1.1.2.2.1 w (hwf w hw),k1.1.2.2.2⟩,kA _ _ [] [] (λc hc=>hc) k1.2.1,?_⟩ hpf (λl hl=>kB _ _ b l ?_) (λc q=>posV_congr (λl hl=>kB _ _ b l ?_) (.inl (by rw[←k2];exact hy1)) c q)
    ·rw[List.all_eq_true]
     intro w hw
     exact List.all_eq_true.1 k1.2.2 w (hwf w hw)
    ·simp only[zB,zA,or_false]at hl ⊢;omega
    ·simp only[zB,zA,or_false]at hl ⊢;omega
   ·rw[←he]
    unfold endsW
    rw[codes_filter]
  ·rename_i q
   have hz:(b.Words.filter λw=>!idleW s w)=[]:=by
    simp only[kO,decide_eq_true_eq,not_or]at q
    exact List.eq_nil_of_length_eq_zero (by omega)
   rw[hz]at hpf
   have hnone:∀l∈[88,89,90,73,74,81,82],findW b l=(0,false):=λl hl=>by
    have:=kB (s:=s) b.Skip b.Comment b l (by simp only[zB,zA,or_false]at hl ⊢;omega)
    rw[←this,hz];rfl
   have hh:hasW b [88,89,90,73,74,81,82]=false:=by
    simp only[hasW,zQ,zT]
    rw[show (((88:UInt8).toNat:Int))=88 from rfl,show (((89:UInt8).toNat:Int))=89 from rfl,show (((90:UInt8).toNat:Int))=90 from rfl,show (((73:UInt8).toNat:Int))=73 from rfl,show (((74:UInt8).toNat:Int))=74 from rfl,show (((81:UInt8).toNat:Int))=81 from rfl,show (((82:UInt8).toNat:Int))=82 from rfl]
    rw[hnone 88 (by simp),hnone 89 (by simp),hnone 90 (by simp),hnone 73 (by simp),hnone 74 (by simp),hnone 81 (by simp),hnone 82 (by simp)]
    rfl
   rw[stepP_idle k1 hh]at hs
   simp only[Prod.mk.injEq]at hs
   obtain⟨rfl,_,hcc,_⟩:=hs
   have hss:s1=s:=by rw[k2,←hpf];rfl
   have hc1:=k5 hy1
   rw[zE]
   rw[hc1]at hrest
   rw[hc,←hss]
   exact hrest
def zP:ae:=⟨0,0,0⟩
def len9:List aQ:=[⟨1,11000⟩,⟨2,12000⟩,⟨3,13000⟩,⟨4,14000⟩,⟨5,15000⟩,⟨6,16000⟩,⟨7,17000⟩,⟨8,18000⟩,⟨9,19000⟩]
def T53(o:ae):aw:=⟨⟨zP,o,zP,zP,zP,zP⟩,len9⟩
def lenT(n:Int):Int:=if n=0 then 0 else 10000+1000*n
def offN(o:ae)(n:Int):ae:=⟨o.X,o.Y,o.Z+lenT n⟩
def subP(p d:ae):ae:=⟨p.X-d.X,p.Y-d.Y,p.Z-d.Z⟩
def bR(p:ae):Prop:=(-1000000≤p.X∧p.X≤1000000)∧(-1000000≤p.Y∧p.Y≤1000000)∧(-1000000≤p.Z∧p.Z≤1000000)
def tenth(p:ae):Prop:=(-100000≤p.X∧p.X≤100000)∧(-100000≤p.Y∧p.Y≤100000)∧(-100000≤p.Z∧p.Z≤100000)
theorem T53_len(o:ae):(T53 o).Lengths.length≤1000:=by show len9.length≤1000;decide
theorem n_cases{n:Int}(h0:0≤n)(h9:n≤9):n=0∨n=1∨n=2∨n=3∨n=4∨n=5∨n=6∨n=7∨n=8∨n=9:=by omega
theorem T53_valid{o:ae}(h:tenth o):dI (T53 o)=some 0:=by
 have ho:inR o:=by unfold tenth at h;unfold inR;omega
 unfold dI
 simp only[fT,ah,T53]
 have hz:inR zP:=by unfold inR zP;simp
 simp only[decide_eq_true hz,decide_eq_true ho,Bool.not_true,zH,if_false]
 rfl
theorem T53_length(o:ae){n:Int}(h0:0≤n)(h9:n≤9):fS (T53 o) n=some (lenT n,0):=by
 have hl:∀W,fS ⟨W,len9⟩ n=some (lenT n,0):=by
  intro W
  rcases n_cases h0 h9 with rfl | rfl | rfl | rfl | rfl | rfl | rfl | rfl | rfl | rfl<;>rfl
 exact hl _
theorem T53_offset{o:ae}(h:tenth o){n:Int}(h0:0≤n)(h9:n≤9):eW (T53 o) 55000 n=some (offN o n,0):=by
 have hl0:0≤lenT n∧lenT n≤19000:=by unfold lenT;split<;>omega
 have hs:tb_slot 55000=some (1,0):=by decide
 unfold eW
 rw[T53_valid h,ah,if_neg (by simp),hs,ah,show aw.mk (T53 o).Work (T53 o).Lengths=T53 o from rfl,T53_length o h0 h9,ah]
 unfold tenth at h
 simp only[bne_self_eq_false,Bool.or_self,zH,if_false]
 rw[show (decide ((0:Int)≤1∧(1:Int)<6))=true from rfl,aD]
 simp only[show ((1:Int)==0)=false from rfl,show ((1:Int)==1)=true from rfl,zH,if_false,if_true,ah]
 rw[show (T53 o).Work.e1=o from rfl,wrap_i64 (by omega) (by omega)]
 rfl
theorem jo{o:ae}(h:tenth o){n:Int}(h0:0≤n)(h9:n≤9):(-200000≤(offN o n).X∧(offN o n).X≤200000)∧(-200000≤(offN o n).Y∧(offN o n).Y≤200000)∧(-200000≤(offN o n).Z∧(offN o n).Z≤200000):=by
 unfold tenth at h
 have hl0:0≤lenT n∧lenT n≤19000:=by unfold lenT;split<;>omega
 unfold offN
 dsimp only;omega
theorem T53_machine{o q:ae}(h:tenth o){n:Int}(h0:0≤n)(h9:n≤9)(hq:bR q):db (T53 o) 55000 n q=some (addP q (offN o n),0):=by
 have hs:=jo h h0 h9
 unfold db
 rw[T53_offset h h0 h9,ah]
 simp only[bne_self_eq_false,zH,if_false]
 generalize offN o n=d at hs
 unfold bR at hq
 have e1:kU.wrap (q.X+kU.wrap (1*d.X))=q.X+d.X:=by rw[wrap_i64 (n:=1*d.X) (by omega) (by omega),wrap_i64 (by omega) (by omega)];omega
 have e2:kU.wrap (q.Y+kU.wrap (1*d.Y))=q.Y+d.Y:=by rw[wrap_i64 (n:=1*d.Y) (by omega) (by omega),wrap_i64 (by omega) (by omega)];omega
 have e3:kU.wrap (q.Z+kU.wrap (1*d.Z))=q.Z+d.Z:=by rw[wrap_i64 (n:=1*d.Z) (by omega) (by omega),wrap_i64 (by omega) (by omega)];omega
 unfold gA
 rw[e1,e2,e3,fT,fT,decide_eq_true (show inR q by unfold inR;omega),decide_eq_true (show inR ⟨q.X+d.X,q.Y+d.Y,q.Z+d.Z⟩ by unfold inR;dsimp only;omega)]
 rfl
theorem T53_work{o q:ae}(h:tenth o){n:Int}(h0:0≤n)(h9:n≤9)(hq:bR q):il (T53 o) 55000 n q=some (subP q (offN o n),0):=by
 have hs:=jo h h0 h9
 unfold il
 rw[show aw.mk (T53 o).Work (T53 o).Lengths=T53 o from rfl,T53_offset h h0 h9,ah]
 simp only[bne_self_eq_false,zH,if_false]
 generalize offN o n=d at hs
 unfold bR at hq
 have e1:kU.wrap (q.X+kU.wrap ((-1)*d.X))=q.X-d.X:=by rw[wrap_i64 (n:=(-1)*d.X) (by omega) (by omega),wrap_i64 (by omega) (by omega)];omega
 have e2:kU.wrap (q.Y+kU.wrap ((-1)*d.Y))=q.Y-d.Y:=by rw[wrap_i64 (n:=(-1)*d.Y) (by omega) (by omega),wrap_i64 (by omega) (by omega)];omega
 have e3:kU.wrap (q.Z+kU.wrap ((-1)*d.Z))=q.Z-d.Z:=by rw[wrap_i64 (n:=(-1)*d.Z) (by omega) (by omega),wrap_i64 (by omega) (by omega)];omega
 unfold gA
 rw[e1,e2,e3,fT,fT,decide_eq_true (show inR q by unfold inR;omega),decide_eq_true (show inR ⟨q.X-d.X,q.Y-d.Y,q.Z-d.Z⟩ by unfold inR;dsimp only;omega)]
 rfl
theorem machV53{o q:ae}(h:tenth o){n:Int}(h0:0≤n)(h9:n≤9)(hq:bR q):machV (T53 o) 55000 n q=(addP q (offN o n),0):=by
 have:=machV_eq (T53_len o) 55000 n q
 rw[T53_machine h h0 h9 hq]at this
 injection this with this
 exact this.symm
theorem workV53{o q:ae}(h:tenth o){n:Int}(h0:0≤n)(h9:n≤9)(hq:bR q):workV (T53 o) 55000 n q=(subP q (offN o n),0):=by
 have:=workV_eq (T53_len o) 55000 n q
 rw[T53_work h h0 h9 hq]at this
 injection this with this
 exact this.symm
theorem add_sub(p d:ae):addP (subP p d) d=p:=by
 unfold addP subP
 cases p
 simp only[ae.mk.injEq];omega
theorem sub_add(p d:ae):subP (addP p d) d=p:=by
 unfold addP subP
 cases p
 simp only[ae.mk.injEq];omega
theorem dir_of{q:ae}{c:bw}(h:0<rad q c):(qd q c=0∧q.X=c.X+rad q c∧q.Y=c.Y)∨(qd q c=1∧q.X=c.X∧q.Y=c.Y+rad q c)∨(qd q c=2∧q.X=c.X-rad q c∧q.Y=c.Y)∨(qd q c=3∧q.X=c.X∧q.Y=c.Y-rad q c):=by
 unfold rad dst at h ⊢
 unfold qd
 by_cases e1:q.Y=c.Y
 ·rw[if_pos e1]at h ⊢
  by_cases e2:q.X<c.X
  ·rw[if_pos e2]at h ⊢
   right;right;left
   rw[if_neg (by omega),if_neg (by omega),if_pos ⟨e1,e2⟩]
   omega
  ·rw[if_neg e2]at h ⊢
   left
   rw[if_pos (by omega)]
   omega
 ·rw[if_neg e1]at h ⊢
  by_cases e3:q.X=c.X
  ·rw[if_pos e3]at h ⊢
   by_cases e2:q.Y<c.Y
   ·rw[if_pos e2]at h ⊢
    right;right;right
    rw[if_neg (by omega),if_neg (by omega),if_neg (by omega),if_pos ⟨e3,e2⟩]
    omega
   ·rw[if_neg e2]at h ⊢
    right;left
    rw[if_neg (by omega),if_pos (by omega)]
    omega
  ·rw[if_neg e3]at h;omega
theorem chord_end{R n:Int}(h:0<n):jz R n n=0∧iQ R n n=R:=by
 have hn:0<n*n:=Int.mul_pos h h
 unfold jz iQ
 constructor
 ·rw[show n*n-n*n=0 by omega,Int.mul_zero,Int.zero_ediv]
 ·rw[show 2*R*n*n=R*(n*n+n*n) by grind,kL _ (by omega)]
theorem ediv_in{a k N:Int}(hN:0<N)(hk:0<k)(hkN:k≤N){b:Int}(h1:-b≤a)(h2:a≤b)(hb:0≤b):-b≤a*k / N∧a*k / N≤b:=by
 have e1:a*k≤b*N:=by
  have:=zM h2 (Int.le_of_lt hk)
  have:=zO hkN hb
  omega
 have e2:-(b*N)≤a*k:=by
  have:=zM h1 (Int.le_of_lt hk)
  have h3:=zO hkN hb
  rw[Int.neg_mul]at this
  omega
 constructor
 ·apply Int.le_ediv_of_mul_le hN
  rw[Int.neg_mul];exact e2
 ·have:a*k / N<b+1:=zZ hN (by rw[Int.add_mul,Int.one_mul];omega)
  omega
theorem arc_last{p:ae}{m:ay}(h:ArcOk p m):(arcL p m).getLast? = some m.To:=by
 have hn:=h.n
 have hq:=h.q
 have ha:=h.all
 unfold arcL
 rw[List.getLast?_map,List.getLast?_range,if_neg (by omega),Option.map_some]
 congr 1
 unfold arcPt jC
 have hN:0<(arcN p m:Int):=by omega
 have hT:arcN p m*arcQ p m-1=arcN p m*(arcQ p m-1)+(arcN p m-1):=by
  obtain⟨q,hq'⟩:∃q,arcQ p m=q+1:=⟨arcQ p m-1,by omega⟩
  rw[hq',Nat.mul_add,Nat.add_sub_cancel];omega
 obtain⟨i1,i2⟩:=arc_idx (N:=arcN p m) (q:=arcQ p m-1) (j:=arcN p m-1) (by omega)
 rw[hT,i1,i2,show arcN p m-1+1=arcN p m by omega]
 obtain⟨c1,c2⟩:=chord_end (R:=rad p m.Center) hN
 rw[c1,c2,←hT,show arcN p m*arcQ p m-1+1=arcN p m*arcQ p m by omega]
 have hz:(m.To.Z-p.Z)*((arcN p m*arcQ p m:Nat):Int) / ((arcN p m*arcQ p m:Nat):Int)=m.To.Z-p.Z:=kL _ (by omega)
 rw[hz]
 have hqq:arcQ p m=qtr m.Kind (qd p m.Center) (qd m.To m.Center):=rfl
 rw[hqq]
 have hR:=h.r1
 have hto:=dir_of (q:=m.To) (c:=m.Center) (by rw[←hR];exact h.r0)
 rw[←hR]at hto
 have hp4:=qd_le p m.Center
 generalize rad p m.Center=R at hto ⊢
 have hxy:(ae.mk (m.Center.X+(arcXY m.Kind (qd p m.Center) (qtr m.Kind (qd p m.Center) (qd m.To m.Center)-1) 0 R).1) (m.Center.Y+(arcXY m.Kind (qd p m.Center) (qtr m.Kind (qd p m.Center) (qd m.To m.Center)-1) 0 R).2) (p.Z+(m.To.Z-p.Z)))=m.To:=by
  have hkey:(arcXY m.Kind (qd p m.Center) (qtr m.Kind (qd p m.Center) (qd m.To m.Center)-1) 0 R)=(m.To.X-m.Center.X,m.To.Y-m.Center.Y):=by
   generalize qd p m.Center=f at hp4
   have hf:f=0∨f=1∨f=2∨f=3:=by omega
   rcases h.kind with k | k
   ·rw[k]
    rcases hto with⟨d,x,y⟩|⟨d,x,y⟩|⟨d,x,y⟩|⟨d,x,y⟩<;>rw[d]<;>rcases hf with rfl | rfl | rfl | rfl<;>simp[arcXY,qtr,rot]<;>omega
   ·rw[k]
    rcases hto with⟨d,x,y⟩|⟨d,x,y⟩|⟨d,x,y⟩|⟨d,x,y⟩<;>rw[d]<;>rcases hf with rfl | rfl | rfl | rfl<;>simp[arcXY,qtr,rot]<;>omega
  rw[hkey]
  cases hm:m.To
  simp only[ae.mk.injEq];omega
 exact hxy
theorem arc_small{p:ae}{m:ay}(h:ArcOk p m)(hr:rad p m.Center≤50000)(hp:bR p)(ht:tenth m.To):(∀q∈arcL p m,bR q)∧(arcL p m).length≤284:=by
 have hn:=h.n
 have hq:=h.q
 have hc:=dir_of (q:=m.To) (c:=m.Center) (by rw[←h.r1];exact h.r0)
 rw[←h.r1]at hc
 unfold tenth at ht
 constructor
 ·intro q hm
  unfold arcL at hm
  obtain⟨i,hi,rfl⟩:=List.mem_map.1 hm
  have hi:=List.mem_range.1 hi
  have hmod:i % arcN p m<arcN p m:=Nat.mod_lt _ (by omega)
  obtain⟨_,_,_,_,_,_,_,_,_,_,_,f1,f2⟩:=kH (R:=rad p m.Center) (n:=(arcN p m:Int)) (K:=((i % arcN p m+1:Nat):Int)) h.r0 h.rad_le (by omega) (by omega) (by omega)
  obtain⟨g1,g2⟩:=arcXY_bd (rad p m.Center) m.Kind (qd p m.Center) (i / arcN p m) f1 f2
  have hz:=ediv_in (a:=m.To.Z-p.Z) (k:=((i+1:Nat):Int)) (N:=((arcN p m*arcQ p m:Nat):Int)) (b:=1100000) (by omega) (by omega) (by omega) (by unfold bR at hp;omega) (by unfold bR at hp;omega) (by omega)
  have hz2:(p.Z≤p.Z+(m.To.Z-p.Z)*((i+1:Nat):Int) / ((arcN p m*arcQ p m:Nat):Int)∧p.Z+(m.To.Z-p.Z)*((i+1:Nat):Int) / ((arcN p m*arcQ p m:Nat):Int)≤m.To.Z)∨(m.To.Z≤p.Z+(m.To.Z-p.Z)*((i+1:Nat):Int) / ((arcN p m*arcQ p m:Nat):Int)∧p.Z+(m.To.Z-p.Z)*((i+1:Nat):Int) / ((arcN p m*arcQ p m:Nat):Int)≤p.Z):=by
   rcases Int.le_total p.Z m.To.Z with z | z
   ·left
    have h1:=ediv_in (a:=m.To.Z-p.Z) (k:=((i+1:Nat):Int)) (N:=((arcN p m*arcQ p m:Nat):Int)) (b:=m.To.Z-p.Z) (by omega) (by omega) (by omega) (by omega) (by omega) (by omega)
    have h2:0≤(m.To.Z-p.Z)*((i+1:Nat):Int) / ((arcN p m*arcQ p m:Nat):Int):=Int.ediv_nonneg (Int.mul_nonneg (by omega) (by omega)) (by omega)
    omega
   ·right
    have h1:=ediv_in (a:=m.To.Z-p.Z) (k:=((i+1:Nat):Int)) (N:=((arcN p m*arcQ p m:Nat):Int)) (b:=p.Z-m.To.Z) (by omega) (by omega) (by omega) (by omega) (by omega) (by omega)
    have h2:(m.To.Z-p.Z)*((i+1:Nat):Int) / ((arcN p m*arcQ p m:Nat):Int)≤0:=by
     have h3:(m.To.Z-p.Z)*((i+1:Nat):Int)≤0:=Int.mul_nonpos_of_nonpos_of_nonneg (by omega) (by omega)
     have:(m.To.Z-p.Z)*((i+1:Nat):Int) / ((arcN p m*arcQ p m:Nat):Int)<1:=zZ (by omega) (by omega)
     omega
    omega
  unfold bR at hp ⊢
  unfold arcPt jC
  dsimp only
  generalize (arcXY m.Kind (qd p m.Center) (i / arcN p m) (jz (rad p m.Center) (arcN p m:Int) ((i % arcN p m+1:Nat):Int)) (iQ (rad p m.Center) (arcN p m:Int) ((i % arcN p m+1:Nat):Int)))=xy at g1 g2
  generalize (m.To.Z-p.Z)*((i+1:Nat):Int) / ((arcN p m*arcQ p m:Nat):Int)=zz at hz2
  omega
 ·unfold arcL
  rw[zJ,List.length_range]
  have h1:=(chordsM_is h.r0).le (b:=71) (by omega) (by omega)
  have h2:arcN p m≤71:=by rw[hn.1]at h1;omega
  have:=Nat.mul_le_mul h2 hq.2
  omega
def reach(p:ae)(m:ay):List au:=if m.Kind=3∨m.Kind=4 then (arcL p m).map (λq=>⟨q,m.Rate⟩)else [⟨m.To,m.Rate⟩]
def waysL:ae→List ay→List au
 | _,[]=>[]
 | p,m::r=>reach p m++waysL m.To r
def chn(d:ae)(n:Int):ae→List au→List am
 | _,[]=>[]
 | p,x::l=>(if posEq (addP x.at_ d) p=true then []else [⟨p,addP x.at_ d,x.rate,n,0⟩])++chn d n (addP x.at_ d) l
def lastP(d:ae):ae→List au→ae
 | p,[]=>p
 | _,x::l=>lastP d (addP x.at_ d) l
theorem chn_app(d:ae)(n:Int)(k:List au):∀(l:List au) (p:ae),chn d n p (l++k)=chn d n p l++chn d n (lastP d p l) k
 | [],p=>rfl
 | x::l,p=>by rw[zF,chn,chn,chn_app d n k l,zK];rfl
theorem lastP_app(d:ae)(k:List au):∀(l:List au) (p:ae),lastP d p (l++k)=lastP d (lastP d p l) k
 | [],p=>rfl
 | x::l,p=>by rw[zF,lastP,lastP_app d k l];rfl
theorem chn_len(d:ae)(n:Int):∀(l:List au) (p:ae),(chn d n p l).length≤l.length
 | [],_=>by simp[chn]
 | x::l,p=>by
  rw[chn,zD,zI]
  have:=chn_len d n l (addP x.at_ d)
  split
  ·simp only[zX];omega
  ·simp only[kK];omega
theorem endW_chn(d:ae)(n:Int):∀(l:List au) (p:ae),endW p (chn d n p l)=lastP d p l
 | [],p=>rfl
 | x::l,p=>by
  rw[chn,endW_append,lastP]
  have:endW p (if posEq (addP x.at_ d) p=true then []else [⟨p,addP x.at_ d,x.rate,n,0⟩])=addP x.at_ d:=by
   split
   ·rename_i h
    exact (posEq_iff.1 h).symm
   ·rfl
  rw[this,endW_chn d n l]
theorem lastP_last(d:ae):∀(l:List au) (p:ae) (x:au),l.getLast? = some x→lastP d p l=addP x.at_ d
 | [],_,_,h=>by simp at h
 | [y],p,x,h=>by simp at h;subst h;rfl
 | y::z::l,p,x,h=>by
  rw[lastP,lastP_last d (z::l) _ x (by rw[List.getLast?_cons_cons]at h;exact h)]
theorem runM_chn{o:ae}(h:tenth o){n:Int}(h0:0≤n)(h9:n≤9):∀(L:List au) (v:List am×ae),(∀x∈L,bR x.at_)→runM (T53 o) 55000 n n 0 L v=.go (v.1++chn (offN o n) n v.2 L,lastP (offN o n) v.2 L)
 | [],v,_=>by simp[runM,chn,lastP]
 | x::l,v,hs=>by
  rw[runM,machV53 h h0 h9 (hs x (by simp))]
  dsimp only
  rw[if_neg (by simp),runM_chn h h0 h9 l _ (λy hy=>hs y (by simp[hy]))]
  unfold addM
  rw[chn,lastP]
  cases hp:posEq (addP x.at_ (offN o n)) v.2<;>simp[hp]
theorem rad_congr{p q:ae}(c:bw)(hx:q.X=p.X)(hy:q.Y=p.Y):rad q c=rad p c:=by unfold rad;rw[hx,hy]
theorem movV_congr{p q:ae}{m:ay}(hx:q.X=p.X)(hy:q.Y=p.Y)(hz:farP q.Z=false)(h:movV p m=0):movV q m=0:=by
 have hf:far6 p m.To=false→far6 q m.To=false:=by
  unfold far6
  rw[hx,hy,hz]
  intro h
  simp only[Bool.or_eq_false_iff]at h ⊢
  simp only[h,and_self]
 unfold movV at h ⊢
 rw[rad_congr m.Center hx hy]
 by_cases c1:(m.Kind=1∧m.Rate=0)∨(m.Kind=2∧m.Rate>0)
 ·rw[if_pos c1]at h ⊢
  cases hq:far6 p m.To with
  | true=>rw[hq]at h;simp at h
  | false=>rw[hf hq];simp
 ·rw[if_neg c1]at h ⊢
  by_cases c2:(m.Kind=3∨m.Kind=4)∧m.Rate>0∧rad p m.Center>0∧rad p m.Center=rad m.To m.Center
  ·rw[if_pos c2]at h ⊢
   cases hq:far6 p m.To with
   | true=>rw[hq]at h;simp at h
   | false=>rw[hq]at h;rw[hf hq];exact h
  ·rw[if_neg c2]at h;omega
theorem small_far{q:ae}(h:bR q):farP q.X=false∧farP q.Y=false∧farP q.Z=false:=by
 unfold bR at h
 unfold farP
 refine⟨decide_eq_false (by omega),decide_eq_false (by omega),decide_eq_false (by omega)⟩
theorem reach_facts{p:ae}{m:ay}(hv:movV p m=0)(hp:bR p)(ht:tenth m.To)(hr:(m.Kind=3∨m.Kind=4)→rad p m.Center≤50000):(∀x∈reach p m,bR x.at_)∧(reach p m).length≤284∧∀d q,lastP d q (reach p m)=addP m.To d:=by
 unfold reach
 by_cases k:m.Kind=3∨m.Kind=4
 ·rw[if_pos k]
  have ok:=arc_ok k hv
  obtain⟨a1,a2⟩:=arc_small ok (hr k) hp ht
  refine⟨λx hx=>?_,by simpa using a2,λd q=>?_⟩
  ·obtain⟨y,hy,rfl⟩:=List.mem_map.1 hx
   exact a1 y hy
  ·rw[lastP_last d _ q ⟨m.To,m.Rate⟩ (by rw[List.getLast?_map,arc_last ok];rfl)]
 ·rw[if_neg k]
  refine⟨λx hx=>?_,by simp,λd q=>rfl⟩
  simp at hx;subst hx
  unfold tenth at ht;unfold bR;dsimp only;omega
def St(n:Int)(s:ak):Prop:=s.Distance=90000∧s.Work=55000∧s.Length=43000∧s.Tool=1000*n∧s.Offset=1000*n
theorem movB_go{p:ae}{m:ay}(h:(movB p m).2=0):movV p m=0∧m.Rate≤1000000000000∧(movB p m).1=⟨false,movW p m,[]⟩:=by
 unfold movB at h ⊢
 by_cases c1:movV p m=0
 ·rw[if_neg (by simpa using c1)]at h ⊢
  by_cases c2:m.Rate>1000000000000
  ·rw[if_pos c2]at h;simp at h
  ·rw[if_neg c2];exact⟨c1,by omega,rfl⟩
 ·rw[if_pos c1]at h;exact absurd h c1
theorem movV_rates{p:ae}{m:ay}(h:movV p m=0):(m.Kind=1→m.Rate=0)∧(m.Kind≠1→0<m.Rate):=by
 unfold movV at h
 by_cases c1:(m.Kind=1∧m.Rate=0)∨(m.Kind=2∧m.Rate>0)
 ·omega
 ·rw[if_neg c1]at h
  by_cases c2:(m.Kind=3∨m.Kind=4)∧m.Rate>0∧rad p m.Center>0∧rad p m.Center=rad m.To m.Center
  ·omega
  ·rw[if_neg c2]at h;omega
theorem rot_center{p:ae}{c:bw}(h:0<rad p c):(p.X-rad p c≤c.X∧c.X≤p.X+rad p c)∧(p.Y-rad p c≤c.Y∧c.Y≤p.Y+rad p c):=by
 rcases dir_of h with⟨_,a,b⟩|⟨_,a,b⟩|⟨_,a,b⟩|⟨_,a,b⟩<;>omega
theorem num_of{n:Int}(h0:0≤n)(h9:n≤9):kU.wrap (zG (1000*n) 1000)=n:=by
 rw[Int.tdiv_eq_ediv_of_nonneg (by omega),show 1000*n / 1000=n by omega,wrap_i64 (by omega) (by omega)]
theorem step_mov{o:ae}(h:tenth o){n:Int}(h0:1≤n)(h9:n≤9){p pw:ae}{m:ay}{s:ak}(hm0:(movB p m).2=0)(hpt:tenth p)(hx:pw.X=p.X)(hy:pw.Y=p.Y)(hpw:bR pw)(hpm:bR (addP pw (offN o n)))
  (ht:tenth m.To) (hr:(m.Kind=3∨m.Kind=4)→rad p m.Center≤50000) (hs:St n s) :
  ∃s1,St n s1∧stepP s zC (movB p m).1 (T53 o) (addP pw (offN o n))=(chn (offN o n) n (addP pw (offN o n)) (reach pw m),s1,zC,0)∧okS (movB p m).1∧endsW (movB p m).1=false∧noCyc (movB p m).1∧(movB p m).1.Comment=[]:=by
 obtain⟨hv,hrt,hb⟩:=movB_go hm0
 have hgood:=good_mov hm0
 rw[hb]at hgood ⊢
 have hvw:=movV_congr (q:=pw) hx hy (small_far hpw).2.2 hv
 obtain⟨r1,r2⟩:=movV_rates hv
 obtain⟨f1,_,_⟩:=reach_facts hvw hpw ht (λk=>by rw[rad_congr _ hx hy];exact hr k)
 have hrun:=runM_chn h (by omega:(0:Int)≤n) h9 (reach pw m) ([],addP pw (offN o n)) f1
 have hwork:workV (T53 o) 55000 n (addP pw (offN o n))=(pw,0):=by rw[workV53 h (by omega) h9 hpm,sub_add]
 have hnum:=num_of (n:=n) (by omega) h9
 obtain⟨s1',s2',s3',s4',s5'⟩:=hs
 obtain⟨M,D,W,L,R,F,T,O⟩:=s
 simp only at s1' s2' s3' s4' s5'
 subst s1' s2' s3' s4' s5'
 have ht':=ht
 unfold tenth at ht' hpt
 have hokS:okS ⟨false,movW p m,[]⟩:=⟨hgood.2.1,by have:=hgood.2.2;simp only at this ⊢;omega,by simp⟩
 obtain⟨K,To,⟨cx,cy⟩,rt⟩:=m
 simp only at ht' r1 r2 hrt
 rcases movV_kind hv with k | k | k | k<;>simp only at k<;>subst k
 ·have e0:rt=0:=r1 rfl
  subst e0
  have hW:movW p ⟨1,To,⟨cx,cy⟩,0⟩=[⟨71,0⟩,⟨88,To.X⟩,⟨89,To.Y⟩,⟨90,To.Z⟩]:=by simp[movW]
  rw[hW]at hgood hokS ⊢
  have htk:cN ⟨false,[⟨71,0⟩,⟨88,To.X⟩,⟨89,To.Y⟩,⟨90,To.Z⟩],[]⟩:=by
   refine⟨⟨by simp,by simp,λw hw=>?_,by simp⟩,hgood.1,by rfl⟩
   simp only[zB,zA,or_false]at hw
   rcases hw with rfl | rfl | rfl | rfl<;>(unfold okW;dsimp only;omega)
  refine⟨⟨0,90000,55000,43000,R,F,1000*n,1000*n⟩,⟨rfl,rfl,rfl,rfl,rfl⟩,?_,hokS,rfl,λw hw q=>?_,rfl⟩
  ·refine jI (pw:=pw) (u:=(chn (offN o n) n (addP pw (offN o n)) (reach pw ⟨1,To,⟨cx,cy⟩,0⟩),lastP (offN o n) (addP pw (offN o n)) (reach pw ⟨1,To,⟨cx,cy⟩,0⟩))) (fl:=reach pw ⟨1,To,⟨cx,cy⟩,0⟩) htk rfl rfl rfl rfl ?_ rfl ?_
   ·show workV (T53 o) 55000 (kU.wrap (zG (1000*n) 1000)) _=_
    rw[hnum,hwork]
   ·show runM (T53 o) 55000 (kU.wrap (zG (1000*n) 1000)) (kU.wrap (zG (1000*n) 1000)) 0 _ _=_
    rw[hnum,hrun,zE]
  ·simp only[zB,zA,or_false]at hw
   rcases hw with rfl | rfl | rfl | rfl<;>first | rfl | (simp at q)
 ·have e0:=r2 (by omega)
  have hW:movW p ⟨2,To,⟨cx,cy⟩,rt⟩=[⟨71,1000⟩,⟨88,To.X⟩,⟨89,To.Y⟩,⟨90,To.Z⟩,⟨70,rt⟩]:=by simp[movW]
  rw[hW]at hgood hokS ⊢
  have htk:cN ⟨false,[⟨71,1000⟩,⟨88,To.X⟩,⟨89,To.Y⟩,⟨90,To.Z⟩,⟨70,rt⟩],[]⟩:=by
   refine⟨⟨by simp,by simp,λw hw=>?_,by simp⟩,hgood.1,by rfl⟩
   simp only[zB,zA,or_false]at hw
   rcases hw with rfl | rfl | rfl | rfl | rfl<;>(unfold okW;dsimp only;omega)
  refine⟨⟨1000,90000,55000,43000,R,rt,1000*n,1000*n⟩,⟨rfl,rfl,rfl,rfl,rfl⟩,?_,hokS,rfl,λw hw q=>?_,rfl⟩
  ·refine jI (pw:=pw) (u:=(chn (offN o n) n (addP pw (offN o n)) (reach pw ⟨2,To,⟨cx,cy⟩,rt⟩),lastP (offN o n) (addP pw (offN o n)) (reach pw ⟨2,To,⟨cx,cy⟩,rt⟩))) (fl:=reach pw ⟨2,To,⟨cx,cy⟩,rt⟩) htk rfl rfl rfl ?_ ?_ rfl ?_
   ·simp;omega
   ·show workV (T53 o) 55000 (kU.wrap (zG (1000*n) 1000)) _=_
    rw[hnum,hwork]
   ·show runM (T53 o) 55000 (kU.wrap (zG (1000*n) 1000)) (kU.wrap (zG (1000*n) 1000)) 0 _ _=_
    rw[hnum,hrun,zE]
  ·simp only[zB,zA,or_false]at hw
   rcases hw with rfl | rfl | rfl | rfl | rfl<;>first | rfl | (simp at q)
 all_goals
  have e0:=r2 (by omega)
  have hrad:=hr (by simp)
  have hok:=arc_ok (by simp) hv
  have hcen:=rot_center hok.r0
  simp only at hrad hcen
  have hcx:kU.wrap (cx-p.X)=cx-p.X:=by rw[wrap_i64 (by omega) (by omega)]
  have hcy:kU.wrap (cy-p.Y)=cy-p.Y:=by rw[wrap_i64 (by omega) (by omega)]
 ·have hW:movW p ⟨3,To,⟨cx,cy⟩,rt⟩=[⟨71,2000⟩,⟨88,To.X⟩,⟨89,To.Y⟩,⟨90,To.Z⟩,⟨73,cx-p.X⟩,⟨74,cy-p.Y⟩,⟨70,rt⟩]:=by simp[movW,hcx,hcy]
  rw[hW]at hgood hokS ⊢
  have htk:cN ⟨false,[⟨71,2000⟩,⟨88,To.X⟩,⟨89,To.Y⟩,⟨90,To.Z⟩,⟨73,cx-p.X⟩,⟨74,cy-p.Y⟩,⟨70,rt⟩],[]⟩:=by
   refine⟨⟨by simp,by simp,λw hw=>?_,by simp⟩,hgood.1,by rfl⟩
   simp only[zB,zA,or_false]at hw
   rcases hw with rfl | rfl | rfl | rfl | rfl | rfl | rfl<;>(unfold okW;dsimp only;omega)
  have hmv:mvV ⟨2000,90000,55000,43000,R,rt,1000*n,1000*n⟩ ⟨false,[⟨71,2000⟩,⟨88,To.X⟩,⟨89,To.Y⟩,⟨90,To.Z⟩,⟨73,cx-p.X⟩,⟨74,cy-p.Y⟩,⟨70,rt⟩],[]⟩ pw=⟨3,To,⟨cx,cy⟩,rt⟩:=by
   show ay.mk 3 ⟨To.X,To.Y,To.Z⟩ ⟨pw.X+(cx-p.X),pw.Y+(cy-p.Y)⟩ rt=_
   rw[hx,hy,show p.X+(cx-p.X)=cx by omega,show p.Y+(cy-p.Y)=cy by omega]
  refine⟨⟨2000,90000,55000,43000,R,rt,1000*n,1000*n⟩,⟨rfl,rfl,rfl,rfl,rfl⟩,?_,hokS,rfl,λw hw q=>?_,rfl⟩
  ·refine jI (pw:=pw) (u:=(chn (offN o n) n (addP pw (offN o n)) (reach pw ⟨3,To,⟨cx,cy⟩,rt⟩),lastP (offN o n) (addP pw (offN o n)) (reach pw ⟨3,To,⟨cx,cy⟩,rt⟩))) (fl:=reach pw ⟨3,To,⟨cx,cy⟩,rt⟩) htk rfl rfl rfl ?_ ?_ ?_ ?_
   ·simp;omega
   ·show workV (T53 o) 55000 (kU.wrap (zG (1000*n) 1000)) _=_
    rw[hnum,hwork]
   ·unfold posV
    rw[if_neg (by simp),if_neg (by simp),if_neg (by simp[cycB]),hmv,if_pos hvw]
    simp[reach]
   ·show runM (T53 o) 55000 (kU.wrap (zG (1000*n) 1000)) (kU.wrap (zG (1000*n) 1000)) 0 _ _=_
    rw[hnum,hrun,zE]
  ·simp only[zB,zA,or_false]at hw
   rcases hw with rfl | rfl | rfl | rfl | rfl | rfl | rfl<;>first | rfl | (simp at q)
 ·have hW:movW p ⟨4,To,⟨cx,cy⟩,rt⟩=[⟨71,3000⟩,⟨88,To.X⟩,⟨89,To.Y⟩,⟨90,To.Z⟩,⟨73,cx-p.X⟩,⟨74,cy-p.Y⟩,⟨70,rt⟩]:=by simp[movW,hcx,hcy]
  rw[hW]at hgood hokS ⊢
  have htk:cN ⟨false,[⟨71,3000⟩,⟨88,To.X⟩,⟨89,To.Y⟩,⟨90,To.Z⟩,⟨73,cx-p.X⟩,⟨74,cy-p.Y⟩,⟨70,rt⟩],[]⟩:=by
   refine⟨⟨by simp,by simp,λw hw=>?_,by simp⟩,hgood.1,by rfl⟩
   simp only[zB,zA,or_false]at hw
   rcases hw with rfl | rfl | rfl | rfl | rfl | rfl | rfl<;>(unfold okW;dsimp only;omega)
  have hmv:mvV ⟨3000,90000,55000,43000,R,rt,1000*n,1000*n⟩ ⟨false,[⟨71,3000⟩,⟨88,To.X⟩,⟨89,To.Y⟩,⟨90,To.Z⟩,⟨73,cx-p.X⟩,⟨74,cy-p.Y⟩,⟨70,rt⟩],[]⟩ pw=⟨4,To,⟨cx,cy⟩,rt⟩:=by
   show ay.mk 4 ⟨To.X,To.Y,To.Z⟩ ⟨pw.X+(cx-p.X),pw.Y+(cy-p.Y)⟩ rt=_
   rw[hx,hy,show p.X+(cx-p.X)=cx by omega,show p.Y+(cy-p.Y)=cy by omega]
  refine⟨⟨3000,90000,55000,43000,R,rt,1000*n,1000*n⟩,⟨rfl,rfl,rfl,rfl,rfl⟩,?_,hokS,rfl,λw hw q=>?_,rfl⟩
  ·refine jI (pw:=pw) (u:=(chn (offN o n) n (addP pw (offN o n)) (reach pw ⟨4,To,⟨cx,cy⟩,rt⟩),lastP (offN o n) (addP pw (offN o n)) (reach pw ⟨4,To,⟨cx,cy⟩,rt⟩))) (fl:=reach pw ⟨4,To,⟨cx,cy⟩,rt⟩) htk rfl rfl rfl ?_ ?_ ?_ ?_
   ·simp;omega
   ·show workV (T53 o) 55000 (kU.wrap (zG (1000*n) 1000)) _=_
    rw[hnum,hwork]
   ·unfold posV
    rw[if_neg (by simp),if_neg (by simp),if_neg (by simp[cycB]),hmv,if_pos hvw]
    simp[reach]
   ·show runM (T53 o) 55000 (kU.wrap (zG (1000*n) 1000)) (kU.wrap (zG (1000*n) 1000)) 0 _ _=_
    rw[hnum,hrun,zE]
  ·simp only[zB,zA,or_false]at hw
   rcases hw with rfl | rfl | rfl | rfl | rfl | rfl | rfl<;>first | rfl | (simp at q)
theorem rgl_step{s:ak}{b:aa}(h:rglS s)(hb:cN b):rglS (b.Words.foldl putW s):=rgl_fold _ [] _ h hb.2.1 hb.1.2.2.1
theorem step_nc{t:aw}(ht:t.Lengths.length≤1000)(hv:dI t=some 0){s s1:ak}{c c1:av}{p:ae}{b:aa}{m:List am}(hp:inR p)(hb:okS b)(hr:rglS s)(hy:cycB s.Motion=false)(hn:noCyc b)(hs:stepP s c b t p=(m,s1,c1,0)):fG s c b t p=some (m,s1,c1,0):=by
 obtain⟨k1,k2,_,_⟩:=ko hs
 rw[inp_Step_nc hb ht (rgl_feed hr) (checked_0 hv hp) k1 (fold_cyc _ _ hy hn),hs]
theorem Runs.loopN{t:aw}(ht:t.Lengths.length≤1000)(hv:dI t=some 0){ε:Type}{f:Nat→aa→Run→Option (Ex ε Run)}{d:Run→Option ε}
  (hf:∀(i:Nat) (b:aa) (v:Run) (m:List am) (s1:ak) (c1:av),fG v.2.2.1 v.2.2.2 b t v.2.1=some (m,s1,c1,0)→okS b→v.1.length+m.length≤20000→endsW b=false→f i b v=some (.go (v.1++m.map (setB i),endW v.2.1 m,s1,c1)))
  {s s2:ak} {c c2:av} {p p2:ae} {l:List aa} {ms:List am} (h:Runs t s c p l ms s2 c2 p2) :
  ∀(i:Nat) (o:List am) (rest:List aa),rglS s→cycB s.Motion=false→(∀b∈l,noCyc b)→o.length+ms.length≤20000→∃ms',ms'.map bare0=ms∧aI f d (l++rest) i (o,p,s,c)=aI f d rest (i+l.length) (o++ms',p2,s2,c2)∧rglS s2∧cycB s2.Motion=false:=by
 induction h with
 | nil =>
  intro i o rest hr hy _ _
  exact⟨[],rfl,by simp,hr,hy⟩
 | cons hp hb hs he r ih =>
  rename_i s s1 s2 c c1 c2 p p2 b l m ms
  intro i o rest hr hy hn hlen
  rw[zD]at hlen
  have hst:=step_nc ht hv hp hb hr hy (hn b (by simp)) hs
  obtain⟨k1,k2,k3,k4⟩:=ko hs
  have hr1:rglS s1:=by rw[k2];exact rgl_step hr k1
  have hy1:cycB s1.Motion=false:=by rw[k2];exact fold_cyc _ _ hy (hn b (by simp))
  obtain⟨ms',e1,e2,e3,e4⟩:=ih (i+1) (o++m.map (setB i)) rest hr1 hy1 (λx hx=>hn x (by simp[hx])) (by rw[zD,zJ];omega)
  refine⟨m.map (setB i)++ms',by rw[List.map_append,bare_set i m k4,e1],?_,e3,e4⟩
  rw[zF,aI,hf i b (o,p,s,c) m s1 c1 hst hb (by simp only;omega) he]
  simp only
  rw[e2,zK,zI,show i+1+l.length=i+(l.length+1) by omega]
theorem contains_end{b:aa}(h:b.Words.length≤1000):cu b 77=some (codesW b 77)∧aM (codesW b 77) 30000=some (endsW b):=by
 refine⟨bk_Codes_eq b _ h,?_⟩
 rw[contains_eq _ _ (by
  unfold codesW
  have:=zY (λw:ap=>w.Letter==77) b.Words
  simp;omega)]
 rfl
theorem Runs.programN {t : aw} (ht : t.Lengths.length ≤ 1000) {s2 s3 : ak} {c2 c3 : av} {p p2 : ae} {X : List aa} {E : aa} {ms : List am} (hchk : bK t p = some 0) (h : Runs t newS zC p X ms s2 c2 p2)
    (hp2:inR p2) (hE:okS E) (hs:stepP s2 c2 E t p2=([],s3,c3,0)) (he:endsW E=true) (hl:ms.length≤20000) (hX:X.length≤90000) (hn:∀b∈X++[E],noCyc b):∃ms',fN (X++[E]) t p=some (ms',⟨-1,0⟩)∧ms'.map bare0=ms:=by
  obtain⟨hv,hp⟩:=valid_of_checked ht hchk
  unfold fN
  rw[hchk,ah,if_neg (by simp)]
  simp only[md_New,ah]
  rw[aR (by simp;omega),aD]
  have step : ∀ (i : Nat) (b : aa) (v : Run) (m : List am) (s1 : ak) (c1 : av) (K : List am → ae → Bool → Option (Ex (Ex (Ex (List am × aH) Run) Run) Run)), fG v.2.2.1 v.2.2.2 b t v.2.1 = some (m, s1, c1, 0) → okS b → v.1.length + m.length ≤ 20000 →
      (bindO (az (okIdx m) (aI (λ(i2:Nat) (e2:am) (v4:(List am))=>bindO (gt v4 (i2:Int)) λ(e3:am)=>some (.go (v4.set (Int.toNat (i2:Int)) (am.mk e3.From e3.To e3.Rate e3.Tool (i:Int))))) (λ(v4:(List am))=>some v4) m 0 m)) λ(v5:(List am)) =>
        az (okLen (v.1.length+v5.length)) (bindO (kz v.2.1 v5) λ(y4:ae)=>bindO (cu b 77) λ(y5:(List Int))=>bindO (aM y5 30000) λ(y6:Bool)=>K v5 y4 y6))=K (m.map (setB i)) (endW v.2.1 m) (endsW b):=by
    intro i b v m s1 c1 K _ hb hlen
    obtain⟨g1,g2⟩:=contains_end hb.2.1
    rw[aR (by omega),aD,range_set (setB i) (λk x v e hg=>by rw[hg,ah];rfl),ah,aZ (by simp;omega),aD,inp_End_eq _ _ (by simp;omega),ah,g1,ah,g2,ah,endW_map]
  have hw:∀(a b:Nat),a+b≤20000→decide (kU.wrap ((a:Int)+(b:Int))>20000)=false:=λa b h=>by
    rw[wrap_i64 (by omega) (by omega)];simp;omega
  obtain ⟨ms', e1, e2, e3, e4⟩ := h.loopN ht hv (f := λ(i1 : Nat) (e1 : aa) (v1 : Run) =>
          bindX (bindO (fG v1.2.2.1 v1.2.2.2 e1 (aw.mk t.Work t.Lengths) v1.2.1) λ(y3 : (List am) × ak × av × Int) =>
              bindO (if (y3.2.2.2 == 0) = true then
                    some (decide ((kU.wrap ((v1.1.length:Int)+(y3.1.length:Int)))>20000))
                  else
                    some false) λ(v2:Bool) =>
              bindO (if v2 = true then
                    some 3
                  else
                    some y3.2.2.2) λ(v3:Int) =>
              if (v3 != 0)=true then
                some (.ret (.ret (.ret (v1.1,aH.mk (i1:Int) v3))))
              else
                bindO (az (okIdx y3.1) (
                    aI (λ(i2:Nat) (e2:am) (v4:(List am)) =>
                      bindO (gt v4 (i2:Int)) λ(e3:am) =>
                      some (.go (v4.set (Int.toNat (i2:Int)) (am.mk e3.From e3.To e3.Rate e3.Tool (i1:Int))))) (λ(v4:(List am))=>some v4) y3.1 0 y3.1)) λ(v5:(List am)) =>
                az (okLen (v1.1.length+v5.length)) (
                bindO (kz v1.2.1 v5) λ(y4:ae) =>
                bindO (cu e1 77) λ(y5:(List Int)) =>
                bindO (aM y5 30000) λ(y6:Bool) =>
                if y6=true then
                  some (.ret (.ret (.ret (v1.1++v5,aH.mk (-1) 0))))
                else
                  some (.go (v1.1++v5,y4,y3.2.1,y3.2.2.1)))) λ(v6:Run) =>
          some (.go (v6.1,v6.2.1,v6.2.2.1,v6.2.2.2))) (d:=λ(v1:Run)=>some (Ex.go (ε:=List am×aH) (v1.1,v1.2.1,v1.2.2.1,v1.2.2.2))) (λi b v m s1 c1 hst hb hlen hen=>by
    rw[show aw.mk t.Work t.Lengths=t from rfl,hst,ah]
    dsimp only
    rw[if_pos (by simp),hw _ _ hlen,ah,if_neg (by simp),ah,if_neg (by simp),step i b v m s1 c1 _ hst hb hlen,hen,if_neg (by simp),bindX_go]) 0 [] [E] rgl_new rfl (λb hb=>hn b (by simp[hb])) (by simpa using hl)
  refine⟨ms',?_,e1⟩
  have hlm:ms'.length≤20000:=by rw[←e1,zJ]at hl;exact hl
  have hst:=step_nc ht hv hp2 hE e3 e4 (hn E (by simp)) hs
  rw[show (ak.mk 0 90000 54000 49000 98000 0 0 0)=newS from rfl,show av.mk 0 0 0 0 0 0 false=zC from rfl,e2,zE,aI]
  dsimp only
  rw[show aw.mk t.Work t.Lengths=t from rfl,hst,ah]
  dsimp only
  rw[if_pos (by simp),hw _ _ (by simpa using hlm),ah,if_neg (by simp),ah,if_neg (by simp),step (0+X.length) E (ms',p2,s2,c2) [] s3 c3 _ hst hE (by simpa using hlm),he,if_pos rfl]
  simp[bindX]
theorem okS_vp{b:aa}(h:bL b):okS b:=⟨λw hw=>by
 obtain⟨a1,a2,_⟩:=h.2.2.1 w hw
 unfold u8W;omega,by have:=h.1;omega,by have:=h.2.1;omega⟩
def okM:ae→List ay→Prop
 | _,[]=>True
 | p,m::r=>tenth m.To∧((m.Kind=3∨m.Kind=4)→rad p m.Center≤50000)∧okM m.To r
theorem small_in{p:ae}(h:bR p):inR p:=by unfold bR at h;unfold inR;omega
theorem tenth_small{p:ae}(h:tenth p):bR p:=by unfold tenth at h;unfold bR;omega
theorem add_small{p o:ae}(h:tenth p)(ho:tenth o){n:Int}(h0:0≤n)(h9:n≤9):bR (addP p (offN o n)):=by
 have:=jo ho h0 h9
 unfold tenth at h;unfold bR addP;dsimp only;omega
theorem run_moves{o:ae}(h:tenth o){n:Int}(h0:1≤n)(h9:n≤9):∀(l:List ay) (p pw:ae) (s:ak) (v:List aa×ae),ce p l=.go v→okM p l→tenth p→pw.X=p.X→pw.Y=p.Y→bR pw→bR (addP pw (offN o n))→St n s →
  ∃s1,St n s1∧Runs (T53 o) s zC (addP pw (offN o n)) v.1 (chn (offN o n) n (addP pw (offN o n)) (waysL pw l)) s1 zC (lastP (offN o n) (addP pw (offN o n)) (waysL pw l))∧(∀b∈v.1,noCyc b∧b.Comment=[])∧v.2=ck p l∧tenth v.2∧(waysL pw l).length≤284*l.length∧lastP (offN o n) (addP pw (offN o n)) (waysL pw l)=(if l=[]then addP pw (offN o n)else addP v.2 (offN o n))
 | [],p,pw,s,v,hv,_,hp,_,_,_,_,hs=>by
  injection hv with hv;subst hv
  exact⟨s,hs,.nil,λb hb=>by simp at hb,rfl,hp,by simp[waysL],rfl⟩
 | m::r,p,pw,s,v,hv,hok,hp,hx,hy,hpw,hpm,hs=>by
  rw[ce]at hv
  by_cases hm0:(movB p m).2=0
  ·rw[if_pos hm0]at hv
   cases hq:ce m.To r with
   | ret e=>rw[hq]at hv;cases hv
   | go u =>
    rw[hq]at hv
    injection hv with hv;subst hv
    obtain⟨ht,hr,hok'⟩:=hok
    obtain⟨s1,a1,a2,a3,a4,a5,a6⟩:=step_mov h h0 h9 hm0 hp hx hy hpw hpm ht hr hs
    have hvw:=movV_congr (q:=pw) hx hy (small_far hpw).2.2 (movB_go hm0).1
    obtain⟨f1,f2,f3⟩:=reach_facts hvw hpw ht (λk=>by rw[rad_congr _ hx hy];exact hr k)
    obtain⟨s2,b1,b2,b3,b4,b5,b6,b7⟩:=run_moves h h0 h9 r m.To m.To s1 u hq hok' ht rfl rfl (tenth_small ht) (add_small ht h (by omega) h9) a1
    refine⟨s2,b1,?_,λb hb=>?_,b4,b5,?_,?_⟩
    ·rw[waysL,chn_app,lastP_app,f3]
     exact .cons (small_in hpm) a3 a2 a4 (by rw[endW_chn,f3];exact b2)
    ·rcases List.mem_cons.1 hb with rfl | hb
     ·exact⟨a5,a6⟩
     ·exact b3 b hb
    ·rw[waysL,zD,zI];omega
    ·rw[waysL,lastP_app,f3,b7,if_neg (show ¬(m::r=[]) by simp)]
     split
     ·rename_i hr0
      subst hr0
      have:u.2=m.To:=b4
      rw[this]
     ·rfl
  ·rw[if_neg hm0]at hv;cases hv
theorem ite_zC(b:Prop)[Decidable b]:(if b then zC else zC)=zC:=by split<;>rfl
theorem run_idle{t:aw}{s s1:ak}{p:ae}{b:aa}(hp:inR p)(hb:cN b)(hx:hasW b [88,89,90,73,74,81,82]=false)(hf:b.Words.foldl putW s=s1)(he:endsW b=false):Runs t s zC p [b] [] s1 zC p:=by
 have:=stepP_idle (s:=s) (c:=zC) (t:=t) (p:=p) hb hx
 rw[ite_zC,hf]at this
 exact .one hp (okS_vp hb.1) this he rfl
theorem run_change{t:aw}{n:Int}(h0:1≤n)(h9:n≤9){s:ak}(hD:s.Distance=90000)(hW:s.Work=55000)(p:ae)(hp:inR p):∃s1,St n s1∧Runs t s zC p (chgB n) [] s1 zC p∧∀b∈chgB n,noCyc b∧b.Comment=[]:=by
 have hc:(chgV n).2=0∧(chgV n).1=chgB n:=by unfold chgV;rw[if_neg (by omega)];exact⟨rfl,rfl⟩
 have hg:∀b∈chgB n,goodB b:=λb hb=>good_chg hc.1 (by rw[hc.2];exact hb)
 have g1:=hg ⟨false,[⟨84,1000*n⟩,⟨77,6000⟩],[]⟩ (by simp[chgB])
 have g2:=hg ⟨false,[⟨71,43000⟩,⟨72,1000*n⟩],[]⟩ (by simp[chgB])
 have t1:cN ⟨false,[⟨84,1000*n⟩,⟨77,6000⟩],[]⟩:=by
  refine⟨⟨by simp,by simp,λw hw=>?_,by simp⟩,g1.1,by rfl⟩
  simp only[zB,zA,or_false]at hw
  rcases hw with rfl | rfl<;>(unfold okW;dsimp only;omega)
 have t2:cN ⟨false,[⟨71,43000⟩,⟨72,1000*n⟩],[]⟩:=by
  refine⟨⟨by simp,by simp,λw hw=>?_,by simp⟩,g2.1,by rfl⟩
  simp only[zB,zA,or_false]at hw
  rcases hw with rfl | rfl<;>(unfold okW;dsimp only;omega)
 obtain⟨M,D,W,L,R,F,T,O⟩:=s
 simp only at hD hW
 subst hD hW
 have r1:=run_idle (t:=t) (p:=p) (s:=⟨M,90000,55000,L,R,F,T,O⟩) (s1:=⟨M,90000,55000,L,R,F,1000*n,O⟩) hp t1 rfl rfl rfl
 have r2:=run_idle (t:=t) (p:=p) (s:=⟨M,90000,55000,L,R,F,1000*n,O⟩) (s1:=⟨M,90000,55000,43000,R,F,1000*n,1000*n⟩) hp t2 rfl rfl rfl
 refine⟨⟨M,90000,55000,43000,R,F,1000*n,1000*n⟩,⟨rfl,rfl,rfl,rfl,rfl⟩,r1.app r2,λb hb=>?_⟩
 simp only[chgB,zB,zA,or_false]at hb
 rcases hb with rfl | rfl
 ·refine⟨λw hw q=>?_,rfl⟩
  simp only[zB,zA,or_false]at hw
  rcases hw with rfl | rfl<;>first | rfl | (simp at q)
 ·refine⟨λw hw q=>?_,rfl⟩
  simp only[zB,zA,or_false]at hw
  rcases hw with rfl | rfl<;>first | rfl | (simp at q)
def okG:ae→List aW→Prop
 | _,[]=>True
 | p,s::r=>(1≤s.Tool∧s.Tool≤9)∧s.Moves.length≤20∧okM p s.Moves∧okG (ck p s.Moves) r
def motsS(o:ae):ae→List aW→List am
 | _,[]=>[]
 | pm,s::r=>chn (offN o s.Tool) s.Tool pm (waysL (subP pm (offN o s.Tool)) s.Moves)++motsS o (lastP (offN o s.Tool) pm (waysL (subP pm (offN o s.Tool)) s.Moves)) r
def midQ(p:ae):Prop:=(-300000≤p.X∧p.X≤300000)∧(-300000≤p.Y∧p.Y≤300000)∧(-300000≤p.Z∧p.Z≤300000)
theorem mid_small{p:ae}(h:midQ p):bR p:=by unfold midQ at h;unfold bR;omega
theorem mid_work{p o:ae}(h:midQ p)(ho:tenth o){n:Int}(h0:0≤n)(h9:n≤9):bR (subP p (offN o n)):=by
 have:=jo ho h0 h9
 unfold midQ at h;unfold bR subP;dsimp only;omega
theorem add_mid{p o:ae}(h:tenth p)(ho:tenth o){n:Int}(h0:0≤n)(h9:n≤9):midQ (addP p (offN o n)):=by
 have:=jo ho h0 h9
 unfold tenth at h;unfold midQ addP;dsimp only;omega
theorem run_stages{o:ae}(h:tenth o):∀(l:List aW) (p pm:ae) (s:ak) (v:List aa×ae),bO p l=.go v→okG p l→tenth p→pm.X=p.X+o.X→pm.Y=p.Y+o.Y→midQ pm→s.Distance=90000→s.Work=55000 →
  ∃s1 pm1,Runs (T53 o) s zC pm v.1 (motsS o pm l) s1 zC pm1∧(∀b∈v.1,noCyc b∧b.Comment=[])∧(motsS o pm l).length≤5680*l.length∧inR pm1
 | [],p,pm,s,v,hv,_,_,_,_,hm,_,_=>by
  injection hv with hv;subst hv
  exact⟨s,pm,.nil,λb hb=>by simp at hb,by simp[motsS],small_in (mid_small hm)⟩
 | g::r,p,pm,s,v,hv,hok,hp,hx,hy,hm,hD,hW=>by
  rw[bO]at hv
  obtain⟨⟨h0,h9⟩,hml,hom,hor⟩:=hok
  by_cases hc:(chgV g.Tool).2=0
  ·rw[if_pos hc]at hv
   cases hq:ce p g.Moves with
   | ret e=>rw[hq]at hv;cases hv
   | go u =>
    rw[hq]at hv
    simp only at hv
    cases hq2:bO u.2 r with
    | ret e=>rw[hq2]at hv;cases hv
    | go w =>
     rw[hq2]at hv
     injection hv with hv;subst hv
     have hcB:(chgV g.Tool).1=chgB g.Tool:=by unfold chgV;rw[if_neg (by omega)]
     obtain⟨s1,c1,c2,c3⟩:=run_change (t:=T53 o) h0 h9 hD hW pm (small_in (mid_small hm))
     have hsub:addP (subP pm (offN o g.Tool)) (offN o g.Tool)=pm:=add_sub _ _
     obtain⟨s2,d1,d2,d3,d4,d5,d6,d7⟩:=run_moves h h0 h9 g.Moves p (subP pm (offN o g.Tool)) s1 u hq hom hp (by unfold subP offN;dsimp only;omega) (by unfold subP offN;dsimp only;omega) (mid_work hm h (by omega) h9) (by rw[hsub];exact mid_small hm) c1
     rw[hsub]at d2 d7
     have hnext:(lastP (offN o g.Tool) pm (waysL (subP pm (offN o g.Tool)) g.Moves)).X=u.2.X+o.X∧(lastP (offN o g.Tool) pm (waysL (subP pm (offN o g.Tool)) g.Moves)).Y=u.2.Y+o.Y∧midQ (lastP (offN o g.Tool) pm (waysL (subP pm (offN o g.Tool)) g.Moves)):=by
      rw[d7]
      split
      ·rename_i hm0
       rw[hm0]at d4
       have d4:u.2=p:=d4
       rw[d4];exact⟨hx,hy,hm⟩
      ·exact⟨rfl,rfl,add_mid d5 h (by omega) h9⟩
     obtain⟨s3,pm1,e1,e2,e3,e4⟩:=run_stages h r u.2 _ s2 w hq2 (by rw[d4];exact hor) d5 hnext.1 hnext.2.1 hnext.2.2 d1.1 d1.2.1
     refine⟨s3,pm1,?_,λb hb=>?_,?_,e4⟩
     ·rw[hcB,motsS]
      have:=(c2.app d2).app e1
      rw[zE]at this
      exact this
     ·rw[hcB]at hb
      rcases List.mem_append.1 hb with hb | hb
      ·rcases List.mem_append.1 hb with hb | hb
       ·exact c3 b hb
       ·exact d3 b hb
      ·exact e2 b hb
     ·rw[motsS,zD,zI]
      have:=chn_len (offN o g.Tool) g.Tool (waysL (subP pm (offN o g.Tool)) g.Moves) pm
      omega
  ·rw[if_neg hc]at hv;cases hv
theorem run_plain{o p:ae}{l:List aW}(h:tenth o)(hp:tenth p)(hl:okG p l)(h0:(bj l p 55000).2=0):∃X s1 pm1,(bj l p 55000).1=X++[endBB]∧Runs (T53 o) newS zC (addP p (offN o 0)) X (motsS o (addP p (offN o 0)) l) s1 zC pm1∧(∀b∈X,noCyc b∧b.Comment=[])∧(motsS o (addP p (offN o 0)) l).length≤5680*l.length∧inR pm1:=by
 unfold bj at h0 ⊢
 by_cases hf:(farP p.X||farP p.Y||farP p.Z)=true
 ·rw[if_pos hf]at h0;simp at h0
 ·rw[if_neg hf]at h0 ⊢
  cases hs:bO p l with
  | ret e=>rw[hs]at h0;exact absurd h0 (jJ _ _ _ hs)
  | go v =>
   have hhd:cN ⟨false,[⟨71,0⟩,⟨71,90000⟩,⟨71,55000⟩,⟨71,49000⟩,⟨71,98000⟩],[]⟩:=by
    refine⟨⟨by simp,by simp,λw hw=>?_,by simp⟩,by decide,by rfl⟩
    simp only[zB,zA,or_false]at hw
    rcases hw with rfl | rfl | rfl | rfl | rfl<;>(unfold okW;dsimp only;omega)
   have htl:cN ⟨false,[⟨71,49000⟩],[]⟩:=by
    refine⟨⟨by simp,by simp,λw hw=>?_,by simp⟩,by decide,by rfl⟩
    simp only[zB,zA,or_false]at hw
    rcases hw with rfl<;>(unfold okW;dsimp only;omega)
   have r1:=run_idle (t:=T53 o) (p:=addP p (offN o 0)) (s:=newS) (s1:=⟨0,90000,55000,49000,98000,0,0,0⟩) (small_in (mid_small (add_mid hp h (by omega) (by omega)))) hhd rfl (by decide) rfl
   obtain⟨s1,pm1,e1,e2,e3,e4⟩:=run_stages h l p (addP p (offN o 0)) ⟨0,90000,55000,49000,98000,0,0,0⟩ v hs hl hp rfl rfl (add_mid hp h (by omega) (by omega)) rfl rfl
   have r2:=run_idle (t:=T53 o) (p:=pm1) (s:=s1) (s1:=List.foldl putW s1 [⟨71,49000⟩]) e4 htl rfl rfl rfl
   refine⟨headB 55000++v.1++[⟨false,[⟨71,49000⟩],[]⟩],List.foldl putW s1 [⟨71,49000⟩],pm1,by simp[tailB,endBB,markB],?_,λb hb=>?_,e3,e4⟩
   ·have:=(r1.app e1).app r2
    rw[zE,zV]at this
    exact this
   ·have hone:∀c,c∈[⟨false,[⟨71,0⟩,⟨71,90000⟩,⟨71,55000⟩,⟨71,49000⟩,⟨71,98000⟩],[]⟩,(⟨false,[⟨71,49000⟩],[]⟩:aa)]→noCyc c∧c.Comment=[]:=by
     intro c hc
     simp only[zB,zA,or_false]at hc
     rcases hc with rfl | rfl
     ·refine⟨λw hw q=>?_,rfl⟩
      simp only[zB,zA,or_false]at hw
      rcases hw with rfl | rfl | rfl | rfl | rfl<;>rfl
     ·refine⟨λw hw q=>?_,rfl⟩
      simp only[zB,zA,or_false]at hw
      rcases hw with rfl<;>rfl
    rcases List.mem_append.1 hb with hb | hb
    ·rcases List.mem_append.1 hb with hb | hb
     ·simp only[headB,zB,zA,or_false]at hb
      exact hone b (by simp[hb])
     ·exact e2 b hb
    ·simp only[zB,zA,or_false]at hb
     exact hone b (by simp[hb])
theorem jx:∀(X:List aa) (s:ak),cmpV s (X++[endBB])=cmpV s X++[endBB]
 | [],s=>by simp[cmpV,cmpB,endBB,markB,idleW]
 | b::r,s=>by rw[zF,cmpV,cmpV,jx r,zK]
theorem cmpV_cyc:∀(L:List aa) (s:ak),(∀b∈L,noCyc b)→∀b∈cmpV s L,noCyc b
 | [],_,_,b,hb=>by simp[cmpV]at hb
 | c::r,s,h,b,hb=>by
  rw[cmpV]at hb
  rcases List.mem_append.1 hb with q | q
  ·unfold cmpB at q
   split at q
   ·simp only[zB,zA,or_false]at q
    subst q
    exact λw hw=>h c (by simp) w (List.mem_filter.1 hw).1
   ·simp at q
  ·exact cmpV_cyc r _ (λx hx=>h x (by simp[hx])) b q
theorem Num.noCyc{b' b:aa}(h:Num b' b)(hb:noCyc b):noCyc b':=by
 rcases h with rfl | ⟨_,v,rfl⟩
 ·exact hb
 ·intro w hw q
  rcases List.mem_append.1 hw with z | z
  ·simp only[zB,zA,or_false]at z;subst z;simp at q
  ·exact hb w z q
theorem emit_run{o p:ae}{l:List aW}{c:Bool}{n f:Int}(h:tenth o)(hp:tenth p)(hok:di l)(hG:okG p l)(hl3:l.length≤3)(h0:(bH l p 55000 c n f).2=0)(hA:∀b∈(bH l p 55000 c n f).1,bL b) :
  ∃q L ms,eS (bH l p 55000 c n f).1=some (q,0)∧eg q=some (L,0)∧fN L (T53 o) (addP p (offN o 0))=some (ms,⟨-1,0⟩)∧ms.map bare0=motsS o (addP p (offN o 0)) l:=by
 have hpp:okPos p:=by unfold tenth at hp;unfold okPos i64P;omega
 have hbf:=blocks_few (w:=55000) (c:=c) (n:=n) (f:=f) hok hpp
 have hov:optV 55000 n f=0:=by
  by_cases q:optV 55000 n f=0
  ·exact q
  ·unfold bH at h0;rw[if_pos q]at h0;exact absurd h0 q
 have hpv:(bj l p 55000).2=0:=by
  by_cases q:(bj l p 55000).2=0
  ·exact q
  ·unfold bH at h0;rw[if_neg (by simpa using hov),if_pos q]at h0;exact absurd h0 q
 obtain⟨o1,o2,o3,o4⟩:=optV_ok hov
 obtain⟨X,hX,hXl,hXs⟩:=base_std (c:=c) hok hpp o1 hpv
 obtain⟨X0,s1,pm1,p1,p2,p3,p4,p5⟩:=run_plain h hp hG hpv
 have hv:=T53_valid h
 have hin:inR (addP p (offN o 0)):=by
  have:=add_mid hp h (n:=0) (by omega) (by omega)
  unfold midQ at this;unfold inR;omega
 have hchk:=checked_0 hv hin
 have hR:Runs (T53 o) newS zC (addP p (offN o 0)) X (motsS o (addP p (offN o 0)) l) s1 zC pm1:=by
  rw[p1]at hX
  cases c with
  | false =>
   have:X0=X:=by
    rw[if_neg (by simp)]at hX
    exact (List.append_inj' hX rfl).1
   rw[←this];exact p2
  | true =>
   have:cmpV newS X0=X:=by
    rw[if_pos rfl,jx]at hX
    exact (List.append_inj' hX rfl).1
   rw[←this]
   exact p2.cmp rfl rfl p3
 have hXn:∀b∈X,noCyc b:=by
  rw[p1]at hX
  cases c with
  | false =>
   have:X0=X:=by
    rw[if_neg (by simp)]at hX
    exact (List.append_inj' hX rfl).1
   rw[←this];exact λb hb=>(p3 b hb).1
  | true =>
   have:cmpV newS X0=X:=by
    rw[if_pos rfl,jx]at hX
    exact (List.append_inj' hX rfl).1
   rw[←this]
   exact cmpV_cyc X0 newS (λb hb=>(p3 b hb).1)
 have hNum:NumL (bH l p 55000 c n f).1 (if f.toNat=0 then X++[endBB]else foldJ (X++[endBB]) f.toNat):=by
  have ebody:bodyV l p 55000 c f=(if f.toNat=0 then X++[endBB]else foldJ (X++[endBB]) f.toNat):=by
   unfold bodyV
   simp only[hX]
   by_cases hf0:f=0
   ·subst hf0;rfl
   ·rw[if_neg hf0,if_neg (by omega)]
  unfold bH
  rw[if_neg (by simpa using hov),if_neg (by simpa using hpv),ebody]
  by_cases he:n=0
  ·simp only[he,if_true];exact NumL.refl _
  ·simp only[he,if_false];exact NumL.of _ _ _
 obtain⟨q,L,r1,r2,r3,r4⟩:=round hXs hXl (by omega) hNum hbf.1
 obtain⟨A1,A2,rfl,h1,h2⟩:=r3.split
 obtain⟨E,rfl,hE⟩:=h2.one
 have hvL:∀b∈A1++[E],bL b:=λb hb=>hA b (r4 b hb)
 have hokL:∀b∈A1++[E],okS b:=λb hb=>okS_vp (hvL b hb)
 have hR2:Runs (T53 o) newS zC (addP p (offN o 0)) A1 (motsS o (addP p (offN o 0)) l) s1 zC pm1:=hR.num h1 (λb hb=>⟨hvL b (by simp[hb]),hokL b (by simp[hb])⟩) (λb hb w hw=>((hXs b hb).2 w hw).1)
 have hte:cN endBB:=by
  refine⟨⟨by simp[endBB,markB],by simp[endBB,markB],λw hw=>?_,by simp[endBB,markB]⟩,by decide,by rfl⟩
  simp only[endBB,markB,zB,zA,or_false]at hw
  rcases hw with rfl;unfold okW;dsimp only;omega
 have hse:stepP s1 zC endBB (T53 o) pm1=([],s1,zC,0):=by
  have:=stepP_idle (s:=s1) (c:=zC) (t:=T53 o) (p:=pm1) hte rfl
  rw[ite_zC]at this
  exact this
 obtain⟨n1,n2⟩:=step_num (s:=s1) (c:=zC) (T53 o) pm1 hE hte (hvL E (by simp)) (λw hw=>by
  simp only[endBB,markB,zB,zA,or_false]at hw
  rcases hw with rfl;decide)
 have hA1l:A1.length≤900:=by have:=h1.len;omega
 obtain⟨ms,m1,m2⟩:=hR2.programN (T53_len o) hchk p5 (hokL E (by simp)) (by rw[n1,hse]) (by rw[n2];rfl) (by omega) (by omega) (λb hb=>by
  rcases List.mem_append.1 hb with hb | hb
  ·obtain⟨x,hx,hn⟩:=h1.mem b hb
   exact hn.noCyc (hXn x hx)
  ·simp only[zB,zA,or_false]at hb;subst hb
   refine hE.noCyc (λw hw q=>?_)
   simp only[endBB,markB,zB,zA,or_false]at hw
   subst hw;simp at q)
 exact⟨q,_,ms,r1,r2,m1,m2⟩
theorem Runs.takes{t:aw}{s s2:ak}{c c2:av}{p p2:ae}{X:List aa}{ms:List am}(h:Runs t s c p X ms s2 c2 p2):∀b∈X,cN b:=by
 induction h with
 | nil=>intro b hb;simp at hb
 | cons hp0 hb hs he r ih =>
  intro x hx
  rcases List.mem_cons.1 hx with rfl | hx
  ·exact kn (by rw[hs])
  ·exact ih x hx
def tinyB(k:Nat)(b:aa):Prop:=bL b∧b.Words.length≤k∧b.Comment=[]
theorem tiny_mark{c n:Int}(h1:65≤c)(h2:c≤90)(h3:-1000000000000≤n)(h4:n≤1000000000000):tinyB 7 (markB c n):=by
 refine⟨⟨by simp[markB],by simp[markB],λw hw=>?_,by simp[markB]⟩,by simp[markB],rfl⟩
 simp only[markB,zB,zA,or_false]at hw
 subst hw;exact⟨h1,h2,h3,h4⟩
theorem tiny_call:tinyB 7 callB:=by
 refine⟨⟨by simp[callB],by simp[callB],λw hw=>?_,by simp[callB]⟩,by simp[callB],rfl⟩
 simp only[callB,zB,zA,or_false]at hw
 rcases hw with rfl | rfl<;>(unfold okW;dsimp only;omega)
theorem foldM_mem{l:List aa}{n a:Nat}:∀(f i:Nat),∀b∈foldM l n a f i,b=callB∨b∈l
 | 0,i,b,hb=>by simp[foldM]at hb
 | f+1,i,b,hb=>by
  rw[foldM]at hb
  cases hx:l[i]? with
  | none=>rw[hx]at hb;simp at hb
  | some c =>
   rw[hx]at hb
   simp only at hb
   split at hb
   ·rcases List.mem_cons.1 hb with q | q
    ·exact .inl q
    ·exact foldM_mem f _ b q
   ·rcases List.mem_cons.1 hb with q | q
    ·subst q;exact .inr (List.mem_of_getElem? hx)
    ·exact foldM_mem f _ b q
theorem foldJ_tiny{l:List aa}{n:Nat}(hf:∀b∈l,tinyB 7 b):∀b∈foldJ l n,tinyB 7 b:=by
 unfold foldJ
 cases ha:atV l n with
 | none=>exact hf
 | some a =>
  intro b hb
  simp only[kP,zB,zA,or_false]at hb
  rcases hb with ((q | q) | q) | q
  ·rcases foldM_mem _ _ b q with z | z
   ·subst z;exact tiny_call
   ·exact hf b z
  ·subst q;exact tiny_mark (by omega) (by omega) (by omega) (by omega)
  ·exact hf b (List.mem_of_mem_drop (zN q))
  ·subst q;exact tiny_mark (by omega) (by omega) (by omega) (by omega)
theorem numV_tiny{n:Int}(h0:0≤n)(h1:n≤1000):∀(l:List aa) (k:Int),0≤k→k+1000*l.length≤100000000→(∀b∈l,tinyB 7 b)→∀b∈numV n k l,tinyB 8 b
 | [],_,_,_,_,b,hb=>by simp[numV]at hb
 | c::r,k,hk,hl,h,b,hb=>by
  rw[zI]at hl
  obtain⟨⟨v1,v2,v3,v4⟩,c2,c3⟩:=h c (by simp)
  have e1:kU.wrap (k+n)=k+n:=by rw[wrap_i64 (by omega) (by omega)]
  have e2:kU.wrap (1000*(k+n))=1000*(k+n):=by rw[wrap_i64 (by omega) (by omega)]
  have hn:tinyB 8 (numB n k c).1∧0≤(numB n k c).2∧(numB n k c).2≤k+1000:=by
   unfold numB
   split
   ·rw[e1,e2]
    refine⟨⟨⟨by simp only[zD,zI,zX];omega,v2,λw hw=>?_,v4⟩,by simp only[zD,zI,zX];omega,c3⟩,by omega,by omega⟩
    rcases List.mem_append.1 hw with hw | hw
    ·simp only[zB,zA,or_false]at hw
     subst hw;unfold okW;dsimp only;omega
    ·exact v3 w hw
   ·exact⟨⟨⟨v1,v2,v3,v4⟩,by simp only;omega,c3⟩,hk,by simp only;omega⟩
  rw[numV]at hb
  rcases List.mem_cons.1 hb with q | q
  ·subst q;exact hn.1
  ·exact numV_tiny h0 h1 r _ hn.2.1 (by have:=hn.2.2;omega) (λx hx=>h x (by simp[hx])) b q
theorem fmt_len150(b:aa)(h:tinyB 8 b):(fmtV b).length≤150:=by
  obtain⟨hv,hw,hc⟩:=h
  have hjA:∀(l:List (List UInt8)),(∀x∈l,x.length≤17)→(jn l).length≤l.length*18:=by
    intro l h1
    exact jn_len 17 l h1
  have:=hjA (b.Words.map wt) (λx hx=>by
    obtain⟨w,hw,rfl⟩:=List.mem_map.1 hx
    obtain⟨_,_,h3,h4⟩:=hv.2.2.1 w hw
    have:=txt_len16 w.Value h3 h4
    unfold wt;simp;omega)
  have e0:cmT b.Comment=[]:=by unfold cmT;rw[hc];rfl
  unfold fmtV
  rw[zD,e0,zV]
  have e1:(if b.Skip=true then ([47]:List UInt8)else []).length≤1:=by split<;>simp
  rw[zJ]at this
  omega
theorem prt_len150:∀l:List aa,(∀b∈l,tinyB 8 b)→(prt l).length≤l.length*151
 | [],_=>by simp[prt]
 | b::l,h=>by
  have hp:prt (b::l)=(fmtV b++[10])++prt l:=by simp[prt]
  have ih:=prt_len150 l (λx hx=>h x (by simp[hx]))
  have:=fmt_len150 b (h b (by simp))
  rw[hp,zD,zD,kK,zI,Nat.add_mul]
  omega
theorem emit_ok{o p:ae}{l:List aW}{c:Bool}{n f:Int}(h:tenth o)(hp:tenth p)(hok:di l)(hG:okG p l)(hov:optV 55000 n f=0)(h0:(bj l p 55000).2=0) :
  (bH l p 55000 c n f).2=0∧(∀b∈(bH l p 55000 c n f).1,tinyB 8 b)∧(bH l p 55000 c n f).1.length≤300:=by
 have hpp:okPos p:=by unfold tenth at hp;unfold okPos i64P;omega
 have hbf:=blocks_few (w:=55000) (c:=c) (n:=n) (f:=f) hok hpp
 obtain⟨o1,o2,o3,o4⟩:=optV_ok hov
 obtain⟨X,hX,hXl,hXs⟩:=base_std (c:=c) hok hpp o1 h0
 obtain⟨X0,s1,pm1,p1,p2,p3,p4,_⟩:=run_plain h hp hG h0
 have hv:=T53_valid h
 have hin:inR (addP p (offN o 0)):=by
  have:=add_mid hp h (n:=0) (by omega) (by omega)
  unfold midQ at this;unfold inR;omega
 have htk:∀b∈X,cN b:=by
  rw[p1]at hX
  cases c with
  | false =>
   have:X0=X:=by
    rw[if_neg (by simp)]at hX
    exact (List.append_inj' hX rfl).1
   rw[←this];exact p2.takes
  | true =>
   have:cmpV newS X0=X:=by
    rw[if_pos rfl,jx]at hX
    exact (List.append_inj' hX rfl).1
   rw[←this]
   exact (p2.cmp rfl rfl p3).takes
 have hcm:∀b∈X,b.Comment=[]:=by
  rw[p1]at hX
  cases c with
  | false =>
   have:X0=X:=by
    rw[if_neg (by simp)]at hX
    exact (List.append_inj' hX rfl).1
   rw[←this];exact λb hb=>(p3 b hb).2
  | true =>
   have:cmpV newS X0=X:=by
    rw[if_pos rfl,jx]at hX
    exact (List.append_inj' hX rfl).1
   rw[←this]
   have key:∀(L:List aa) (s:ak),(∀b∈L,b.Comment=[])→∀b∈cmpV s L,b.Comment=[]:=by
    intro L
    induction L with
    | nil=>intro s _ b hb;simp[cmpV]at hb
    | cons c r ih =>
     intro s hL b hb
     rw[cmpV]at hb
     rcases List.mem_append.1 hb with q | q
     ·unfold cmpB at q
      split at q
      ·simp only[zB,zA,or_false]at q
       subst q
       exact hL c (by simp)
      ·simp at q
     ·exact ih _ (λx hx=>hL x (by simp[hx])) b q
   exact key X0 newS (λb hb=>(p3 b hb).2)
 have hXt:∀b∈X++[endBB],tinyB 7 b:=λb hb=>by
  rcases List.mem_append.1 hb with hb | hb
  ·exact⟨(htk b hb).1,(hXs b hb).1,hcm b hb⟩
  ·simp only[zB,zA,or_false]at hb;subst hb
   exact tiny_mark (by omega) (by omega) (by omega) (by omega)
 have hbody:∀b∈bodyV l p 55000 c f,tinyB 7 b:=by
  unfold bodyV
  simp only[hX]
  split
  ·exact hXt
  ·exact foldJ_tiny hXt
 have hbl:(bodyV l p 55000 c f).length≤300:=(body_few hok hpp hov).1
 unfold bH
 rw[if_neg (by simpa using hov),if_neg (by simpa using h0)]
 refine⟨rfl,?_,?_⟩
 ·simp only
  split
  ·exact λb hb=>by
    obtain⟨a,b',c'⟩:=hbody b hb
    exact⟨a,by omega,c'⟩
  ·exact numV_tiny o2 o3 _ 0 (by omega) (by omega) hbody
 ·simp only
  split
  ·exact hbl
  ·rw[numV_len];exact hbl
theorem emit_text{o p:ae}{l:List aW}{c:Bool}{n f:Int}(h:tenth o)(hp:tenth p)(hok:di l)(hG:okG p l)(hov:optV 55000 n f=0) :
  ((bj l p 55000).2≠0∧fY l p ⟨55000,c,n,f⟩=some ([],(bj l p 55000).2))∨((bj l p 55000).2=0∧(∀b∈(bH l p 55000 c n f).1,tinyB 8 b)∧(bH l p 55000 c n f).1.length≤300∧fY l p ⟨55000,c,n,f⟩=some (prt (bH l p 55000 c n f).1,0)):=by
 have hpp:okPos p:=by unfold tenth at hp;unfold okPos i64P;omega
 by_cases h0:(bj l p 55000).2=0
 ·right
  obtain⟨a1,a2,a3⟩:=emit_ok (c:=c) h hp hok hG hov h0
  refine⟨h0,a2,a3,?_⟩
  unfold fY
  rw[show ae.mk p.X p.Y p.Z=p from rfl,jl hok hpp,ah,a1,if_neg (by simp),print_ok _ (by omega) (λb hb=>(a2 b hb).1),ah]
  have:=prt_len150 _ a2
  rw[if_neg (by simp),if_neg (by simp only[decide_eq_true_eq];omega)]
 ·left
  refine⟨h0,?_⟩
  have hb:bH l p 55000 c n f=([],(bj l p 55000).2):=by
   unfold bH
   rw[if_neg (by simpa using hov),if_pos h0]
  unfold fY
  rw[show ae.mk p.X p.Y p.Z=p from rfl,jl hok hpp,ah,hb,if_pos (by simpa using h0)]
theorem run_text{o p:ae}{l:List aW}{c:Bool}{n f:Int}(h:tenth o)(hp:tenth p)(hok:di l)(hG:okG p l)(hl3:l.length≤3)(hov:optV 55000 n f=0)(h0:(bj l p 55000).2=0) :
  ∃ms,ky (prt (bH l p 55000 c n f).1) (T53 o) (addP p (offN o 0))=some (ms,⟨-1,0⟩,0)∧ms.map bare0=motsS o (addP p (offN o 0)) l∧ms.length≤20000:=by
 obtain⟨a1,a2,a3⟩:=emit_ok (c:=c) h hp hok hG hov h0
 obtain⟨q,L,ms,r1,r2,r3,r4⟩:=emit_run h hp hok hG hl3 a1 (λb hb=>(a2 b hb).1)
 obtain⟨_,_,_,_,_,_,hlen,_⟩:=run_plain h hp hG h0
 refine⟨ms,?_,r4,?_⟩
 ·have hin:inR (addP p (offN o 0)):=by
   have:=add_mid hp h (n:=0) (by omega) (by omega)
   unfold midQ at this;unfold inR;omega
  have hchk:=checked_0 (T53_valid h) hin
  have hpl:=prt_len150 _ a2
  have hvA:∀b∈(bH l p 55000 c n f).1,bL b:=λb hb=>(a2 b hb).1
  have hpg:fO (prt (bH l p 55000 c n f).1)=some ((bH l p 55000 c n f).1,0,0):=by
   obtain⟨w,hw,rfl⟩:=bk_Program_tot (prt (bH l p 55000 c n f).1) (by omega) (by rw[count_prt _ hvA];omega)
   have:=(prt_len4 _ hvA).1
   rw[hw,pgV_prt _ _ [] hvA (by omega),zE]
  unfold ky
  rw[show aw.mk (T53 o).Work (T53 o).Lengths=T53 o from rfl,hchk,ah,if_neg (by simp),hpg,ah]
  simp only[bne_self_eq_false,zH,if_false]
  rw[r1,ah]
  simp only[bne_self_eq_false,zH,if_false]
  rw[r2,ah]
  simp only[bne_self_eq_false,zH,if_false]
  rw[r3,ah]
 ·have:ms.length=(motsS o (addP p (offN o 0)) l).length:=by rw[←r4,zJ]
  omega
theorem kh{n:Int}(h:(inInt .i64) n):i64P n:=by
 simp[inInt,Lit.wf,IntKind.min,IntKind.max,IntKind.signed,IntKind.bits]at h
 unfold i64P;omega
theorem lastTo_snoc(m:ay):∀(l:List ay) (p:ae),ck p (l++[m])=m.To
 | [],p=>rfl
 | x::l,p=>by rw[zF,ck,lastTo_snoc m l]
theorem ku:∀(l:List ay) (p:ae) (m:ay),l.getLast? = some m→ck p l=m.To
 | [],_,_,h=>by simp at h
 | [y],p,m,h=>by simp at h;subst h;rfl
 | y::z::l,p,m,h=>by
  rw[ck,ku (z::l) _ m (by rw[List.getLast?_cons_cons]at h;exact h)]
theorem r33_End_eq(p:ae)(l:List ay)(hl:l.length≤9223372036854775807):r33_End p l=some (ck p l):=by
 unfold r33_End
 cases hx:l.getLast? with
 | none =>
  have:l=[]:=by simpa using hx
  subst this;rfl
 | some m =>
  have hne:l≠[]:=by intro e;subst e;simp at hx
  have hp:0<l.length:=by
   cases l with
   | nil=>exact absurd rfl hne
   | cons a b=>simp
  rw[if_neg (by simp;omega),wrap_i64 (by omega) (by omega)]
  have:gt l ((l.length:Int)-1)=some m:=by
   rw[show (l.length:Int)-1=((l.length-1:Nat):Int) by omega]
   refine gt_k ?_
   rw[←hx,List.getLast?_eq_getElem?]
  rw[this,ah,ku l p m hx]
def fewM(p:ae)(l:List ay):Prop:=∀i m,l[i]? = some m→(∀j m',j≤i→l[j]? = some m'→movV (ck p (l.take j)) m'=0)→(m.Kind=3∨m.Kind=4)→rad (ck p (l.take i)) m.Center≤50000
theorem rad_sum{p:ae}{c:bw}(h:0<rad p c)(b1:-10000000≤p.X∧p.X≤10000000)(b2:-10000000≤p.Y∧p.Y≤10000000)(b3:-10000000≤c.X∧c.X≤10000000)(b4:-10000000≤c.Y∧c.Y≤10000000):∀m:ay,m.Center=c→gR p m=some (rad p c):=by
 intro m hm
 subst hm
 have hs:∀n:Int,-20000000≤n→n≤20000000→jO (kU.wrap n)=some (if n<0 then -n else n):=by
  intro n n1 n2
  unfold jO
  rw[wrap_i64 (n:=n) (by omega) (by omega)]
  by_cases q:n<0
  ·rw[if_pos (by simpa using q),if_pos q,wrap_i64 (by omega) (by omega)]
   congr 1;omega
  ·rw[if_neg (by simpa using q),if_neg q]
 unfold gR
 rw[hs _ (by omega) (by omega),ah,hs _ (by omega) (by omega),ah]
 congr 1
 have hd:=dir_of h
 generalize rad p m.Center=R at h hd
 rcases hd with⟨_,a,b⟩|⟨_,a,b⟩|⟨_,a,b⟩|⟨_,a,b⟩
 all_goals
  rw[wrap_i64 (by split<;>split<;>omega) (by split<;>split<;>omega)]
  split<;>split<;>omega
theorem okPos_last{p:ae}(hp:okPos p):∀(l:List ay),(∀m∈l,eH m)→okPos (ck p l):=by
 intro l h
 cases hx:l.getLast? with
 | none =>
  have:l=[]:=by simpa using hx
  subst this;exact hp
 | some m =>
  rw[ku l p m hx]
  exact (h m (List.mem_of_getLast? hx)).2.1
theorem r33_Few_tot{p:ae}{l:List ay}(hp:okPos p)(hm:∀m∈l,eH m)(hl:l.length≤9223372036854775807):Tot (r33_Few p l 20) (λb=>b=true→l.length≤20∧fewM p l):=by
 unfold r33_Few
 refine Tot.ite (λ_=>.ok (by simp)) (λq=>?_)
 have hl20:l.length≤20:=by simp at q;omega
 refine Tot.bindX (E:=λ_=>l.length≤20∧fewM p l) (TotX.guard (aR (by omega)) (TotX.of (Tot.range (λi v=>v=ck p (l.take i)∧∀j m,j<i→l[j]? = some m→movV (ck p (l.take j)) m=0∧((m.Kind=3∨m.Kind=4)→rad (ck p (l.take j)) m.Center≤50000)) _ ⟨rfl,λj m h=>by omega⟩ (λi m v hx hr=>?_) (λv hr=>.ok ⟨hl20,λi m hi _ hk=>(hr.2 i m (aq hi) hi).2 hk⟩)))) (λ_ h=>.ok λ_=>h)
 obtain⟨rfl,hr2⟩:=hr
 have hmo:=hm m (List.mem_of_getElem? hx)
 have hpo:=okPos_last hp (l.take i) (λx hx=>hm x (zN hx))
 rw[r33_Valid_eq hpo hmo,ah]
 refine TotX.ite (λq1=>.ret (λ_=>⟨hl20,λk m' hk hall hkk=>?_⟩)) (λq1=>?_)
 ·rcases Nat.lt_or_ge k i with z | z
  ·exact (hr2 k m' z hk).2 hkk
  ·have:=hall i m z hx
   rw[this]at q1;simp at q1
 ·have hv:movV (ck p (l.take i)) m=0:=by simpa using q1
  refine TotX.bind (E:=λb=>b=false→((m.Kind=3∨m.Kind=4)→rad (ck p (l.take i)) m.Center≤50000)) ?_ (λb hb=>TotX.ite (λ_=>.ret (λh=>by cases h)) (λq2=>.go ⟨?_,λj m' hj hm'=>?_⟩))
  ·unfold r33_arc
   rw[ah]
   refine Tot.ite (λq2=>?_) (λq2=>.ok (λ_ k=>?_))
   ·have hk:m.Kind=3∨m.Kind=4:=by simpa using q2
    have ok:=arc_ok hk hv
    rw[rad_sum ok.r0 ok.p1 ok.p2 ok.c1 ok.c2 m rfl,ah]
    exact .ok (λh _=>by simp at h;omega)
   ·simp at q2;omega
  ·rw[zL,hx]
   exact (lastTo_snoc m (l.take i) p).symm
  ·rcases Nat.lt_or_ge j i with z | z
   ·exact hr2 j m' z hm'
   ·obtain rfl:j=i:=by omega
    rw[hx]at hm';injection hm' with hm';subst hm'
    exact⟨hv,hb q2⟩
theorem fewM_cons{p:ae}{m:ay}{r:List ay}(hv:movV p m=0)(h:fewM p (m::r)):((m.Kind=3∨m.Kind=4)→rad p m.Center≤50000)∧fewM m.To r:=by
 constructor
 ·intro k
  refine h 0 m rfl (λj m' hj hm'=>?_) k
  obtain rfl:j=0:=by omega
  simp at hm';subst hm';exact hv
 ·intro i m' hi hall hk
  refine h (i+1) m' (by simpa using hi) (λj x hj hx=>?_) hk
  cases j with
  | zero=>simp at hx;subst hx;exact hv
  | succ j=>exact hall j x (by omega) (by simpa using hx)
theorem okM_of:∀(l:List ay) (p:ae) (v:List aa×ae),ce p l=.go v→fewM p l→(∀m∈l,tenth m.To)→okM p l
 | [],_,_,_,_,_=>trivial
 | m::r,p,v,hv,hf,ht=>by
  rw[ce]at hv
  by_cases hm0:(movB p m).2=0
  ·rw[if_pos hm0]at hv
   cases hq:ce m.To r with
   | ret e=>rw[hq]at hv;cases hv
   | go u =>
    obtain⟨a1,a2⟩:=fewM_cons (movB_go hm0).1 hf
    exact⟨ht m (by simp),a1,okM_of r m.To u hq a2 (λx hx=>ht x (by simp[hx]))⟩
  ·rw[if_neg hm0]at hv;cases hv
def fewS:ae→List aW→Prop
 | _,[]=>True
 | p,s::r=>(1≤s.Tool∧s.Tool≤9)∧s.Moves.length≤20∧fewM p s.Moves∧(∀m∈s.Moves,tenth m.To)∧fewS (ck p s.Moves) r
theorem movesV_last:∀(l:List ay) (p:ae) (v:List aa×ae),ce p l=.go v→v.2=ck p l
 | [],p,v,h=>by injection h with h;subst h;rfl
 | m::r,p,v,hv=>by
  rw[ce]at hv
  by_cases hm0:(movB p m).2=0
  ·rw[if_pos hm0]at hv
   cases hq:ce m.To r with
   | ret e=>rw[hq]at hv;cases hv
   | go u =>
    rw[hq]at hv
    injection hv with hv;subst hv
    exact movesV_last r m.To u hq
  ·rw[if_neg hm0]at hv;cases hv
theorem okG_of:∀(l:List aW) (p:ae) (v:List aa×ae),bO p l=.go v→fewS p l→okG p l
 | [],_,_,_,_=>trivial
 | s::r,p,v,hv,hf=>by
  rw[bO]at hv
  obtain⟨f1,f2,f3,f4,f5⟩:=hf
  by_cases hc:(chgV s.Tool).2=0
  ·rw[if_pos hc]at hv
   cases hq:ce p s.Moves with
   | ret e=>rw[hq]at hv;cases hv
   | go u =>
    rw[hq]at hv
    simp only at hv
    cases hq2:bO u.2 r with
    | ret e=>rw[hq2]at hv;cases hv
    | go w =>
     have hu:=movesV_last _ _ _ hq
     exact⟨f1,f2,okM_of _ _ _ hq f3 f4,okG_of r _ w (by rw[←hu];exact hq2) f5⟩
  ·rw[if_neg hc]at hv;cases hv
theorem fewS_of:∀(l:List aW) (p:ae),(∀(i:Nat) s,l[i]? = some s→(1≤s.Tool∧s.Tool≤9)∧s.Moves.length≤20∧fewM ((l.take i).foldl (λq s=>ck q s.Moves) p) s.Moves∧∀m∈s.Moves,tenth m.To)→fewS p l
 | [],_,_=>trivial
 | s::r,p,h=>by
  obtain⟨a1,a2,a3,a4⟩:=h 0 s rfl
  refine⟨a1,a2,a3,a4,fewS_of r _ λi x hx=>?_⟩
  exact h (i+1) x (by simpa using hx)
theorem map_onto{α β:Type}(g:α→β)(l:List α)(hl:l.length≤1000000)(o:List β)(ho:o.length≤1000000):(az (okIdx l) (aI (λ(i:Nat) (e:α) (v:List β)=>az (okLen (v.length+1)) (some (.go (v++[g e])))) (λv=>some v) l 0 o))=some (o++l.map g):=by
 rw[aR (by omega),aD,fM (g:=λ(v:List β) e=>v++[g e]) (R:=λi v=>v.length=o.length+i) (L:=l) ?_ l 0 o rfl (by simp)]
 ·congr 1
  have:∀(l:List α) (o:List β),l.foldl (λv e=>v++[g e]) o=o++l.map g:=by
   intro l
   induction l with
   | nil=>intro o;simp
   | cons x l ih=>intro o;rw[zW,ih];simp
  exact this l o
 ·intro i x v hx hr
  have:=aq hx
  rw[aZ (by omega),aD]
  exact⟨rfl,by simp;omega⟩
structure Few53 (j:bz):Prop where
 len:j.Stages.length≤3
 start:tenth j.Start
 offset:tenth j.Offset
 stages:fewS j.Start j.Stages
 ok:di j.Stages
def okJob(j:bz):Prop:=j.Stages.length≤9223372036854775807∧okPos j.Start∧okPos j.Offset∧∀s∈j.Stages,s.Moves.length≤9223372036854775807∧∀m∈s.Moves,eH m
theorem foldS_ok{p:ae}(hp:okPos p):∀(l:List aW),(∀s∈l,∀m∈s.Moves,eH m)→okPos (l.foldl (λq s=>ck q s.Moves) p)
 | [],_=>hp
 | s::r,h=>by
  rw[zW]
  exact foldS_ok (okPos_last hp s.Moves (h s (by simp))) r (λx hx=>h x (by simp[hx]))
theorem few53_tot{j:bz}(hj:okJob j):Tot (iZ j) (λb=>b=true→Few53 j):=by
  obtain⟨hl,hp,ho,hs⟩:=hj
  unfold iZ
  refine Tot.ite (λ_=>.ok (by simp)) (λq=>?_)
  have hl3:j.Stages.length≤3:=by simp at q;omega
  refine Tot.bindX (E:=λv=>v.1=[j.Start,j.Offset]++j.Stages.flatMap (λs=>s.Moves.map (·.To))∧v.1.length≤100∧∀(k:Nat) s,j.Stages[k]? = some s→(1≤s.Tool∧s.Tool≤9)∧s.Moves.length≤20∧fewM ((j.Stages.take k).foldl (λq s=>ck q s.Moves) j.Start) s.Moves) (TotX.guard (aR hl) (TotX.of (Tot.range (λi v=>v.1=[j.Start,j.Offset]++(j.Stages.take i).flatMap (λs=>s.Moves.map (·.To))∧v.2=(j.Stages.take i).foldl (λq s=>ck q s.Moves) j.Start∧v.1.length≤2+20*i∧∀(k:Nat) s,k<i→j.Stages[k]? = some s→(1≤s.Tool∧s.Tool≤9)∧s.Moves.length≤20∧fewM ((j.Stages.take k).foldl (λq s=>ck q s.Moves) j.Start) s.Moves) _ ⟨by simp,rfl,by simp,λk s h=>by omega⟩ (λi s v hx hr=>?_) (λv hr=>.ok ?_)))) (λv hv=>?_)
  · obtain⟨v1,v2⟩:=v
    obtain⟨e1,e2,e3,e4⟩:=hr
    simp only at e1 e2 e3
    subst e2
    obtain⟨hml,hmm⟩:=hs s (List.mem_of_getElem? hx)
    have hi:=aq hx
    have hpo:=foldS_ok hp (j.Stages.take i) (λx hx=>(hs x (zN hx)).2)
    refine TotX.bindX (E:=λv=>v.1=[j.Start,j.Offset]++(j.Stages.take (i+1)).flatMap (λs=>s.Moves.map (·.To))∧v.2=(j.Stages.take (i+1)).foldl (λq s=>ck q s.Moves) j.Start∧v.1.length≤2+20*(i+1)∧(1≤s.Tool∧s.Tool≤9)∧s.Moves.length≤20∧fewM ((j.Stages.take i).foldl (λq s=>ck q s.Moves) j.Start) s.Moves) ?_ (λw hw=>.go ⟨hw.1,hw.2.1,hw.2.2.1,λk x hk hx'=>?_⟩)
    · refine TotX.bind (E:=λb=>b=false→(1≤s.Tool∧s.Tool≤9)∧s.Moves.length≤20∧fewM ((j.Stages.take i).foldl (λq s=>ck q s.Moves) j.Start) s.Moves) (Tot.ite (λ_=>.ok (by simp)) (λq1=>Tot.ite (λ_=>.ok (by simp)) (λq2=>Tot.bind (r33_Few_tot hpo hmm hml) λb hb=>.ok (λh=>?_)))) (λb hb=>TotX.ite (λ_=>.ret (λh=>by cases h)) (λq3=>?_))
      · obtain⟨a1,a2⟩:=hb (by simpa using h)
        simp at q1 q2
        exact⟨⟨by omega,by omega⟩,a1,a2⟩
      · have hb':=hb q3
        simp only
        rw[map_onto (λe2:ay=>e2.To) s.Moves (by omega) v1 (by omega),ah,r33_End_eq _ _ hml,ah]
        refine .go ⟨?_,?_,?_,hb'⟩
        · rw[e1,zL,hx];simp
        · rw[zL,hx];simp
        · simp only[zD,zJ];omega
    · rcases Nat.lt_or_ge k i with z | z
      · exact e4 k x z hx'
      · obtain rfl:k=i:=by omega
        rw[hx]at hx';injection hx' with hx';subst hx'
        exact hw.2.2.2
  · obtain⟨e1,e2,e3,e4⟩:=hr
    refine⟨by rw[e1,List.take_length],by show v.1.length≤100;omega,λk s hk=>e4 k s (aq hk) hk⟩
  · obtain⟨e1,e2,e3⟩:=hv
    refine Tot.bindX (E:=λ_=>∀q∈v.1,tenth q) (TotX.guard (aR (by omega)) (TotX.of (Tot.range (λi _=>∀q∈v.1.take i,tenth q) _ (by simp) (λi q w hx hr=>?_) (λw hr=>.ok (by simpa using hr))))) (λ_ hq=>.ok (λ_=>?_))
    · refine TotX.bindX (E:=λ_=>tenth q) (TotX.ite (λ_=>.ret (λh=>by cases h)) (λq1=>TotX.ite (λ_=>.ret (λh=>by cases h)) (λq2=>TotX.ite (λ_=>.ret (λh=>by cases h)) (λq3=>.go ?_)))) (λ_ ht=>.go (λx hx'=>?_))
      · simp at q1 q2 q3
        unfold tenth;omega
      · rw[zL,hx,kP]at hx'
        rcases hx' with z | z
        · exact hr x z
        · simp at z;subst z;exact ht
    · rw[e1]at hq
      have ht:∀s∈j.Stages,∀m∈s.Moves,tenth m.To:=λs hs' m hm=>hq m.To (by
        refine List.mem_append.2 (.inr (List.mem_flatMap.2 ⟨s,hs',List.mem_map.2 ⟨m,hm,rfl⟩⟩)))
      refine⟨hl3,hq _ (by simp),hq _ (by simp),fewS_of _ _ λi s hi=>?_,by omega,λs hs'=>?_⟩
      · obtain⟨a1,a2,a3⟩:=e3 i s hi
        exact⟨a1,a2,a3,ht s (List.mem_of_getElem? hi)⟩
      · obtain⟨i,hi⟩:=List.mem_iff_getElem?.1 hs'
        obtain⟨a1,a2,a3⟩:=e3 i s hi
        exact⟨by omega,(hs s hs').2⟩
theorem awake53p:fR=some true:=by kernel_rfl
theorem lengths53_eq(o:ae):ee o=some (T53 o):=rfl
theorem in_u8{n:Int}(h:(inInt .u8) n):0≤n∧n≤255:=by
 simp[inInt,Lit.wf,IntKind.min,IntKind.max,IntKind.signed,IntKind.bits]at h
 omega
theorem options53_eq{a:Int}(h:0≤a∧a≤255):∃c n f,da a=some ⟨55000,c,n,f⟩∧optV 55000 n f=0:=by
 unfold da
 have e1:0≤zU (kV.wrap (zG a 2)) 3∧zU (kV.wrap (zG a 2)) 3<3:=by
  rw[wrap_u8,zR (kR _ (by decide))]
  omega
 have e2:0≤zU (kV.wrap (zG a 6)) 4∧zU (kV.wrap (zG a 6)) 4<4:=by
  rw[wrap_u8,zR (kR _ (by decide))]
  omega
 generalize zU (kV.wrap (zG a 2)) 3=k at e1
 generalize zU (kV.wrap (zG a 6)) 4=m at e2
 have h1:k=0∨k=1∨k=2:=by omega
 have h2:m=0∨m=1∨m=2∨m=3:=by omega
 rcases h1 with rfl | rfl | rfl<;>rcases h2 with rfl | rfl | rfl | rfl<;>exact⟨_,_,_,rfl,by decide⟩
theorem plain53_eq(l:List am)(hl:l.length≤100000):eK l=some (l.map bare0):=by
 unfold eK bB
 rw[aZ (by omega),aD,ah,aR (by omega),aD,range_set bare0 (λi x v e hg=>by rw[hg,ah];rfl),ah]
theorem plain_go{l:List aW}{p:ae}(h:(bj l p 55000).2=0):∃v,bO p l=.go v:=by
 unfold bj at h
 by_cases hf:(farP p.X||farP p.Y||farP p.Z)=true
 ·rw[if_pos hf]at h;simp at h
 ·rw[if_neg hf]at h
  cases hs:bO p l with
  | ret e=>rw[hs]at h;exact absurd h (jJ _ _ _ hs)
  | go v=>exact⟨v,rfl⟩
theorem emit_err{p:ae}{l:List aW}{c:Bool}{n f:Int}(hp:tenth p)(hok:di l)(hov:optV 55000 n f=0)(h0:(bj l p 55000).2≠0):fY l p ⟨55000,c,n,f⟩=some ([],(bj l p 55000).2):=by
 have hpp:okPos p:=by unfold tenth at hp;unfold okPos i64P;omega
 have hb:bH l p 55000 c n f=([],(bj l p 55000).2):=by
  unfold bH
  rw[if_neg (by simpa using hov),if_pos h0]
 unfold fY
 rw[show ae.mk p.X p.Y p.Z=p from rfl,jl hok hpp,ah,hb,if_pos (by simpa using h0)]
theorem add_off{p o:ae}(hp:tenth p)(ho:tenth o):ae.mk (kU.wrap (p.X+o.X)) (kU.wrap (p.Y+o.Y)) (kU.wrap (p.Z+o.Z))=addP p (offN o 0):=by
 unfold tenth at hp ho
 rw[wrap_i64 (by omega) (by omega),wrap_i64 (by omega) (by omega),wrap_i64 (by omega) (by omega)]
 unfold addP offN lenT
 simp
end Go.Proofs.YtgojngpeaknbnaaGreatDoor
