/-
  Ka, Kn in one text.
-/
import Derived.Test.YtgbafiejgciilaaGreatDoorIall
import Derived.Test.YtgbafiejgciilaaGreatDoorAall
open List renaming length_append → zA,append_assoc → zB,cons_append → zD,length_map → zE,map_cons → zF
namespace Go.Proofs.YtgbafiejgciilaaGreatDoor
open Go.RowKit
set_option linter.unusedVariables false
set_option linter.unusedSimpArgs false
theorem stepP_takes{s:am}{c:ap}{b:au}{t:al}{p:aa}(h0:(stepP s c b t p).2.2.2=0):i9 b:=by
 unfold stepP at h0
 by_cases hv:i9 b
 ·exact hv
 ·rw[if_neg hv]at h0
  exact absurd h0 (show (1:Int)≠0 by decide)
theorem stepP_idle{s:am}{c:ap}{b:au}{t:al}{p:aa}(h:i9 b)(hx:hasW b [88,89,90,73,74,81,82]=false) :
  stepP s c b t p=([],b.Words.foldl putW s,if cycB (b.Words.foldl putW s).Motion=true then c else zC,0):=by
 unfold stepP
 rw[if_pos h,if_neg (by rw[hx];simp)]
theorem stepP_move{s:am}{c:ap}{b:au}{t:al}{p pw:aa}{s1:am}{fl:List aw}{c1:ap}{u:List ah×aa}(h:i9 b)(hf:b.Words.foldl putW s=s1)(hx:hasW b [88,89,90,73,74,81,82]=true)
  (hbad:((hasW b [73,74]&&(s1.Motion != 2000)&&(s1.Motion != 3000))||(hasW b [81,82]&&!(cycB s1.Motion)))=false) (hst:((s1.Motion==80000)||((s1.Motion != 0)&&(decide (s1.Feed≤0))))=false)
  (hw:workV t s1.Work (numP s1) p=(pw,0)) (hp:posV s1 (if cycB s1.Motion=true then c else zC) b pw=(fl,c1,0)) (hr:runM t s1.Work (numP s1) (toolP s1) 0 fl ([],p)=.go u) :
  stepP s c b t p=(u.1,s1,c1,0):=by
 unfold stepP
 rw[if_pos h,if_pos hx,hf]
 unfold moveP
 rw[if_neg (by rw[hbad];simp),if_neg (by rw[hst];simp),hw]
 dsimp only
 rw[if_neg (by simp),hp]
 dsimp only
 rw[if_neg (by simp),hr]
inductive Runs (t:al):am→ap→aa→List au→List ah→am→ap→aa→Prop
 | nil {s:am} {c:ap} {p:aa}:Runs t s c p [] [] s c p
 | cons {s s1 s2:am} {c c1 c2:ap} {p p2:aa} {b:au} {l:List au} {m ms:List ah} (hp:inR p) (hb:okS b) (hs:stepP s c b t p=(m,s1,c1,0)) (he:endsW b=false) (r:Runs t s1 c1 (endW p m) l ms s2 c2 p2):Runs t s c p (b::l) (m++ms) s2 c2 p2
theorem Runs.app{t:al}{s s1 s2:am}{c c1 c2:ap}{p p1 p2:aa}{l k:List au}{m n:List ah}(h:Runs t s c p l m s1 c1 p1)(h2:Runs t s1 c1 p1 k n s2 c2 p2):Runs t s c p (l++k) (m++n) s2 c2 p2:=by
 induction h with
 | nil=>exact h2
 | cons hp hb hs he r ih =>
  rw[zD,zB]
  exact .cons hp hb hs he (ih h2)
theorem Runs.one{t:al}{s s1:am}{c c1:ap}{p p1:aa}{b:au}{m:List ah}(hr:inR p)(hb:okS b)(hs:stepP s c b t p=(m,s1,c1,0))(he:endsW b=false)(hp:endW p m=p1):Runs t s c p [b] m s1 c1 p1:=by
 have:=Runs.cons hr hb hs he (.nil (t:=t))
 rw[List.append_nil,hp]at this
 exact this
def bare0(m:ah):ah:=⟨m.From,m.To,m.Rate,m.Tool,0⟩
theorem bare_set(i:Nat):∀(l:List ah),(∀m∈l,m.Block=0)→(l.map (setB i)).map bare0=l
 | [],_=>rfl
 | m::l,h=>by
  rw[zF,zF,bare_set i l (λx hx=>h x (by simp[hx]))]
  have:=h m (by simp)
  congr 1
  cases m
  simp only at this
  subst this;rfl
theorem rgl_feed{s:am}(h:rglS s):i64P s.Feed:=by obtain⟨_,_,_,_,_,a6,_⟩:=h;unfold i64P;omega
theorem runM_blk(t:al)(w n tool:Int):∀(l:List aw) (v u:List ah×aa),runM t w n tool 0 l v=.go u→(∀x∈v.1,x.Block=0)→∀x∈u.1,x.Block=0
 | [],v,u,h,hv=>by
  rw[runM]at h;injection h with h;subst h;exact hv
 | y::l,v,u,h,hv=>by
  rw[runM]at h
  split at h
  ·cases h
  ·refine runM_blk t w n tool l _ u h (λx hx=>?_)
   unfold addM at hx
   dsimp only at hx
   split at hx
   ·rcases List.mem_append.1 hx with z | z
    ·exact hv x z
    ·simp only[List.mem_cons,List.not_mem_nil,or_false]at z;subst z;rfl
   ·exact hv x hx
theorem stepP_facts{t:al}{s s1:am}{c c1:ap}{p:aa}{b:au}{m:List ah}(hs:stepP s c b t p=(m,s1,c1,0)):i9 b∧s1=b.Words.foldl putW s∧(cycB s1.Motion=false→c1=zC)∧∀x∈m,x.Block=0:=by
 have htk:=stepP_takes (s:=s) (c:=c) (b:=b) (t:=t) (p:=p) (by rw[hs])
 have hfail:∀e:Int,e≠0→failP e≠(m,s1,c1,0):=λe he h=>by
  have:(failP e).2.2.2=0:=by rw[h]
  exact he this
 unfold stepP at hs
 rw[if_pos htk]at hs
 generalize b.Words.foldl putW s=f at hs
 by_cases hx:hasW b [88,89,90,73,74,81,82]=true
 ·rw[if_pos hx]at hs
  generalize (if cycB f.Motion=true then c else zC)=c0 at hs
  unfold moveP at hs
  split at hs
  ·exact absurd hs (hfail 1 (by decide))
  ·split at hs
   ·exact absurd hs (hfail 13 (by decide))
   ·split at hs
    ·rename_i e;exact absurd hs (hfail _ e)
    ·split at hs
     ·rename_i e;exact absurd hs (hfail _ e)
     ·cases hr:runM t f.Work (numP f) (toolP f) 0 (posV f c0 b (workV t f.Work (numP f) p).1).1 ([],p)with
      | ret e=>rw[hr]at hs;exact absurd hs (hfail e (runM_ret _ _ _ _ _ _ _ _ hr))
      | go u =>
       rw[hr]at hs
       simp only[Prod.mk.injEq]at hs
       obtain⟨h1,h2,h3,_⟩:=hs
       subst h1;subst h2
       refine⟨htk,rfl,λhn=>?_,runM_blk _ _ _ _ _ _ _ hr (by simp)⟩
       rw[←h3]
       unfold posV
       split
       ·rfl
       ·split
        ·rfl
        ·rw[if_neg (by rw[hn];simp)]
         split<;>rfl
 ·rw[if_neg hx]at hs
  simp only[Prod.mk.injEq]at hs
  obtain⟨h1,h2,h3,_⟩:=hs
  subst h1;subst h2
  refine⟨htk,rfl,λhn=>?_,by simp⟩
  rw[←h3,if_neg (by rw[hn];simp)]
def noCyc(b:au):Prop:=∀w∈b.Words,w.Letter=71→cycB w.Value=false
theorem put_cyc{s:am}{w:aN}(h:cycB s.Motion=false)(hw:w.Letter=71→cycB w.Value=false):cycB (putW s w).Motion=false:=by
 unfold putW
 by_cases q:w.Letter=71
 ·rw[if_pos q]
  split
  ·exact hw q
  ·repeat' split
   all_goals exact h
 ·rw[if_neg q]
  repeat' split
  all_goals exact h
theorem fold_cyc:∀(l:List aN) (s:am),cycB s.Motion=false→(∀w∈l,w.Letter=71→cycB w.Value=false)→cycB (l.foldl putW s).Motion=false
 | [],s,h,_=>h
 | w::l,s,h,hw=>fold_cyc l _ (put_cyc h (hw w (by simp))) (λx hx=>hw x (by simp[hx]))
theorem rgl_step{s:am}{b:au}(h:rglS s)(hb:i9 b):rglS (b.Words.foldl putW s):=rgl_fold _ [] _ h hb.2.1 hb.1.2.2.1
theorem step_nc{t:al}(ht:t.Lengths.length≤1000)(hv:br t=some 0){s s1:am}{c c1:ap}{p:aa}{b:au}{m:List ah}(hp:inR p)(hb:okS b)(hr:rglS s)(hy:cycB s.Motion=false)(hn:noCyc b)(hs:stepP s c b t p=(m,s1,c1,0)):fG s c b t p=some (m,s1,c1,0):=by
 obtain⟨k1,k2,_,_⟩:=stepP_facts hs
 rw[inp_Step_nc hb ht (rgl_feed hr) (checked_0 hv hp) k1 (fold_cyc _ _ hy hn),hs]
theorem Runs.loopN{t:al}(ht:t.Lengths.length≤1000)(hv:br t=some 0){ε:Type}{f:Nat→au→Run→Option (Ex ε Run)}{d:Run→Option ε}
  (hf:∀(i:Nat) (b:au) (v:Run) (m:List ah) (s1:am) (c1:ap),fG v.2.2.1 v.2.2.2 b t v.2.1=some (m,s1,c1,0)→okS b→v.1.length+m.length≤20000→endsW b=false→f i b v=some (.go (v.1++m.map (setB i),endW v.2.1 m,s1,c1)))
  {s s2:am} {c c2:ap} {p p2:aa} {l:List au} {ms:List ah} (h:Runs t s c p l ms s2 c2 p2) :
  ∀(i:Nat) (o:List ah) (rest:List au),rglS s→cycB s.Motion=false→(∀b∈l,noCyc b)→o.length+ms.length≤20000→∃ms',ms'.map bare0=ms∧aS f d (l++rest) i (o,p,s,c)=aS f d rest (i+l.length) (o++ms',p2,s2,c2)∧rglS s2∧cycB s2.Motion=false:=by
 induction h with
 | nil =>
  intro i o rest hr hy _ _
  exact⟨[],rfl,by simp,hr,hy⟩
 | cons hp hb hs he r ih =>
  rename_i s s1 s2 c c1 c2 p p2 b l m ms
  intro i o rest hr hy hn hlen
  rw[zA]at hlen
  have hst:=step_nc ht hv hp hb hr hy (hn b (by simp)) hs
  obtain⟨k1,k2,k3,k4⟩:=stepP_facts hs
  have hr1:rglS s1:=by rw[k2];exact rgl_step hr k1
  have hy1:cycB s1.Motion=false:=by rw[k2];exact fold_cyc _ _ hy (hn b (by simp))
  obtain⟨ms',e1,e2,e3,e4⟩:=ih (i+1) (o++m.map (setB i)) rest hr1 hy1 (λx hx=>hn x (by simp[hx])) (by rw[zA,zE];omega)
  refine⟨m.map (setB i)++ms',by rw[List.map_append,bare_set i m k4,e1],?_,e3,e4⟩
  rw[zD,aS,hf i b (o,p,s,c) m s1 c1 hst hb (by simp only;omega) he]
  simp only
  rw[e2,zB,List.length_cons,show i+1+l.length=i+(l.length+1) by omega]
theorem contains_end{b:au}(h:b.Words.length≤1000):gH b 77=some (codesW b 77)∧aM (codesW b 77) 30000=some (endsW b):=by
 refine⟨bk_Codes_eq b _ h,?_⟩
 rw[contains_eq _ _ (by
  unfold codesW
  have:=List.length_filter_le (λw:aN=>w.Letter==77) b.Words
  simp;omega)]
 rfl
theorem Runs.programN {t : al} (ht : t.Lengths.length ≤ 1000) {s2 s3 : am} {c2 c3 : ap} {p p2 : aa} {X : List au} {E : au} {ms : List ah} (hchk : bU t p = some 0) (h : Runs t newS zC p X ms s2 c2 p2)
    (hp2:inR p2) (hE:okS E) (hs:stepP s2 c2 E t p2=([],s3,c3,0)) (he:endsW E=true) (hl:ms.length≤20000) (hX:X.length≤90000) (hn:∀b∈X++[E],noCyc b):∃ms',fM (X++[E]) t p=some (ms',⟨-1,0⟩)∧ms'.map bare0=ms:=by
  obtain⟨hv,hp⟩:=valid_of_checked ht hchk
  unfold fM
  rw[hchk,ae,if_neg (by simp)]
  simp only[md_New,ae]
  rw[bE (by simp;omega),bB]
  have step : ∀ (i : Nat) (b : au) (v : Run) (m : List ah) (s1 : am) (c1 : ap) (K : List ah → aa → Bool → Option (Ex (Ex (Ex (List ah × aW) Run) Run) Run)), fG v.2.2.1 v.2.2.2 b t v.2.1 = some (m, s1, c1, 0) → okS b → v.1.length + m.length ≤ 20000 →
      (bindO (aB (okIdx m) (aS (λ(i2:Nat) (e2:ah) (v4:(List ah))=>bindO (gt v4 (i2:Int)) λ(e3:ah)=>some (.go (v4.set (Int.toNat (i2:Int)) (ah.mk e3.From e3.To e3.Rate e3.Tool (i:Int))))) (λ(v4:(List ah))=>some v4) m 0 m)) λ(v5:(List ah)) =>
        aB (okLen (v.1.length+v5.length)) (bindO (k7 v.2.1 v5) λ(y4:aa)=>bindO (gH b 77) λ(y5:(List Int))=>bindO (aM y5 30000) λ(y6:Bool)=>K v5 y4 y6))=K (m.map (setB i)) (endW v.2.1 m) (endsW b):=by
    intro i b v m s1 c1 K _ hb hlen
    obtain⟨g1,g2⟩:=contains_end hb.2.1
    rw[bE (by omega),bB,range_set (setB i) (λk x v e hg=>by rw[hg,ae];rfl),ae,bF (by simp;omega),bB,inp_End_eq _ _ (by simp;omega),ae,g1,ae,g2,ae,endW_map]
  have hw:∀(a b:Nat),a+b≤20000→decide (IntKind.i64.wrap ((a:Int)+(b:Int))>20000)=false:=λa b h=>by
    rw[wrap_i64 (by omega) (by omega)];simp;omega
  obtain ⟨ms', e1, e2, e3, e4⟩ := h.loopN ht hv (f := λ(i1 : Nat) (e1 : au) (v1 : Run) =>
          bindX (bindO (fG v1.2.2.1 v1.2.2.2 e1 (al.mk t.Work t.Lengths) v1.2.1) λ(y3 : (List ah) × am × ap × Int) =>
              bindO (if (y3.2.2.2 == 0) = true then
                    some (decide ((IntKind.i64.wrap ((v1.1.length:Int)+(y3.1.length:Int)))>20000))
                  else
                    some false) λ(v2:Bool) =>
              bindO (if v2 = true then
                    some 3
                  else
                    some y3.2.2.2) λ(v3:Int) =>
              if (v3 != 0)=true then
                some (.ret (.ret (.ret (v1.1,aW.mk (i1:Int) v3))))
              else
                bindO (aB (okIdx y3.1) (
                    aS (λ(i2:Nat) (e2:ah) (v4:(List ah)) =>
                      bindO (gt v4 (i2:Int)) λ(e3:ah) =>
                      some (.go (v4.set (Int.toNat (i2:Int)) (ah.mk e3.From e3.To e3.Rate e3.Tool (i1:Int))))) (λ(v4:(List ah))=>some v4) y3.1 0 y3.1)) λ(v5:(List ah)) =>
                aB (okLen (v1.1.length+v5.length)) (
                bindO (k7 v1.2.1 v5) λ(y4:aa) =>
                bindO (gH e1 77) λ(y5:(List Int)) =>
                bindO (aM y5 30000) λ(y6:Bool) =>
                if y6=true then
                  some (.ret (.ret (.ret (v1.1++v5,aW.mk (-1) 0))))
                else
                  some (.go (v1.1++v5,y4,y3.2.1,y3.2.2.1)))) λ(v6:Run) =>
          some (.go (v6.1,v6.2.1,v6.2.2.1,v6.2.2.2))) (d:=λ(v1:Run)=>some (Ex.go (ε:=List ah×aW) (v1.1,v1.2.1,v1.2.2.1,v1.2.2.2))) (λi b v m s1 c1 hst hb hlen hen=>by
    rw[show al.mk t.Work t.Lengths=t from rfl,hst,ae]
    dsimp only
    rw[if_pos (by simp),hw _ _ hlen,ae,if_neg (by simp),ae,if_neg (by simp),step i b v m s1 c1 _ hst hb hlen,hen,if_neg (by simp),bindX_go]) 0 [] [E] rgl_new rfl (λb hb=>hn b (by simp[hb])) (by simpa using hl)
  refine⟨ms',?_,e1⟩
  have hlm:ms'.length≤20000:=by rw[←e1,zE]at hl;exact hl
  have hst:=step_nc ht hv hp2 hE e3 e4 (hn E (by simp)) hs
  rw[show (am.mk 0 90000 54000 49000 98000 0 0 0)=newS from rfl,show ap.mk 0 0 0 0 0 0 false=zC from rfl,e2,List.nil_append,aS]
  dsimp only
  rw[show al.mk t.Work t.Lengths=t from rfl,hst,ae]
  dsimp only
  rw[if_pos (by simp),hw _ _ (by simpa using hlm),ae,if_neg (by simp),ae,if_neg (by simp),step (0+X.length) E (ms',p2,s2,c2) [] s3 c3 _ hst hE (by simpa using hlm),he,if_pos rfl]
  simp[bindX]
end Go.Proofs.YtgbafiejgciilaaGreatDoor
