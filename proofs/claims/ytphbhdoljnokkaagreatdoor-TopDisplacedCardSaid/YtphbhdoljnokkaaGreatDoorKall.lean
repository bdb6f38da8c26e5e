/-
  Kd, Ka, Kc, Ke, Kn, Kf, Kg, Kh, Ki, Ko, Kp in one text.
-/
import Derived.Test.YtphbhdoljnokkaaGreatDoorAall
import Derived.Test.YtphbhdoljnokkaaGreatDoorBall
import Derived.Test.YtphbhdoljnokkaaGreatDoorMH
import Derived.Test.YtphbhdoljnokkaaGreatDoorHall
open List renaming not_mem_nil → zA,mem_cons → zB,map_append → zG,cons_append → zH,take_add_one → zJ,nil_append → zK,mem_of_mem_take → zR,length_append → zU,append_assoc → zV,map_cons → zX
open Int renaming mul_le_mul_of_nonneg_left → zD,tdiv → zE,mul_le_mul_of_nonneg_right → zI,le_ediv_of_mul_le → zL,ediv_lt_of_lt_mul → zM,mul_nonneg → zO,ediv_le_of_le_mul → zQ,mul_ediv_cancel → zT,ediv_nonneg → zW
open Bool renaming false_eq_true → zF
open Go.IntKind renaming i64 → zY
namespace Go.Proofs.YtphbhdoljnokkaaGreatDoor
open Go.RowKit
set_option linter.unusedVariables false
set_option linter.unusedSimpArgs false
variable {b:ae}{c:av}{p:ag}{s:ao}{t:aw}
theorem stepP_takes(h0:(pY s c b t p).2.2.2=0):iK b:=by
 unfold pY at h0
 by_cases hv:iK b
 ·exact hv
 ·rw[qU hv]at h0
  exact absurd h0 (show (1:Int)≠0 by decide)
theorem stepP_idle(h:iK b)(hx:hasW b [88,89,90,73,74,81,82]=false) :
  pY s c b t p=([],b.Words.foldl putW s,if cycB (b.Words.foldl putW s).Motion=true then c else zC,0):=by
 simp_all[pY]
variable {c1:av}{s1:ao}
theorem pz{pw:ag}{fl:List ar}{u:List aq×ag}(h:iK b)(hf:b.Words.foldl putW s=s1)(hx:hasW b [88,89,90,73,74,81,82]=true)
  (hbad:((hasW b [73,74]&&(s1.Motion != 2000)&&(s1.Motion != 3000))||(hasW b [81,82]&&!(cycB s1.Motion)))=false) (hst:((s1.Motion==80000)||((s1.Motion != 0)&&(decide (s1.Feed≤0))))=false)
  (hw:ng t s1.Work (numP s1) p=(pw,0)) (hp:posV s1 (if cycB s1.Motion=true then c else zC) b pw=(fl,c1,0)) (hr:runM t s1.Work (numP s1) (toolP s1) 0 fl ([],p)=.go u) :
  pY s c b t p=(u.1,s1,c1,0):=by
 simp_all[pY,moveP,qU]
inductive Runs (t:aw):ao→av→ag→List ae→List aq→ao→av→ag→Prop
 | nil {s:ao} {c:av} {p:ag}:Runs t s c p [] [] s c p
 | cons {s s1 s2:ao} {c c1 c2:av} {p p2:ag} {b:ae} {l:List ae} {m ms:List aq} (hp:inR p) (hb:okS b) (hs:pY s c b t p=(m,s1,c1,0)) (he:endsW b=false) (r:Runs t s1 c1 (endW p m) l ms s2 c2 p2):Runs t s c p (b::l) (m++ms) s2 c2 p2
variable {c2:av}{p2:ag}{s2:ao}
theorem Runs.app{p1:ag}{l k:List ae}{m n:List aq}(h:Runs t s c p l m s1 c1 p1)(h2:Runs t s1 c1 p1 k n s2 c2 p2):Runs t s c p (l++k) (m++n) s2 c2 p2:=by
 induction h with
 | nil=>exact h2
 | cons hp hb hs he r ih =>
  rw[zH,zV]
  exact .cons hp hb hs he (ih h2)
theorem Runs.one{p1:ag}{m:List aq}(hr:inR p)(hb:okS b)(hs:pY s c b t p=(m,s1,c1,0))(he:endsW b=false)(hp:endW p m=p1):Runs t s c p [b] m s1 c1 p1:=by
 have:=Runs.cons hr hb hs he (.nil (t:=t))
 simp_all
def bare0(m:aq):aq:=⟨m.From,m.To,m.Rate,m.Tool,0⟩
theorem bare_set(i:Nat):∀(l:List aq),(∀m∈l,m.Block=0)→(l.map (setB i)).map bare0=l
 | [],_=>rfl
 | m::l,h=>by
  rw[zX,zX,bare_set i l (λx hx=>h x (by simp[hx]))]
  have:=h m (by simp)
  congr 1
  cases m
  simp only at this
  subst this;rfl
theorem rgl_feed(h:rglS s):i64P s.Feed:=by obtain⟨_,_,_,_,_,a6,_⟩:=h;grind[i64P]
theorem runM_blk(t:aw)(w n tool:Int):∀(l:List ar) (v u:List aq×ag),runM t w n tool 0 l v=.go u→(∀x∈v.1,x.Block=0)→∀x∈u.1,x.Block=0
 | [],v,u,h,hv=>by
  simp_all[runM]
 | y::l,v,u,h,hv=>by
  rw[runM]at h
  split at h
  ·cases h
  ·refine runM_blk t w n tool l _ u h (λx hx=>?_)
   unfold addM at hx
   grind
theorem stepP_facts{m:List aq}(hs:pY s c b t p=(m,s1,c1,0)):iK b∧s1=b.Words.foldl putW s∧(cycB s1.Motion=false→c1=zC)∧∀x∈m,x.Block=0:=by
 have htk:=stepP_takes (s:=s) (c:=c) (b:=b) (t:=t) (p:=p) (by rw[hs])
 have hfail:∀e:Int,e≠0→failP e≠(m,s1,c1,0):=λe he h=>by
  simp_all[failP]
 unfold pY at hs
 rw[qV htk]at hs
 generalize b.Words.foldl putW s=f at hs
 by_cases hx:hasW b [88,89,90,73,74,81,82]=true
 ·rw[qV hx]at hs
  generalize (if cycB f.Motion=true then c else zC)=c0 at hs
  unfold moveP at hs
  split at hs
  simp_all
  ·split at hs
   simp_all
   ·split at hs
    simp_all
    ·split at hs
     simp_all
     ·cases hr:runM t f.Work (numP f) (toolP f) 0 (posV f c0 b (ng t f.Work (numP f) p).1).1 ([],p)with
      | ret e=>grind[runM_ret]
      | go u =>
       rw[hr]at hs
       simp only[Prod.mk.injEq]at hs
       obtain⟨h1,h2,h3,_⟩:=hs
       subst h1;subst h2
       refine⟨htk,rfl,λhn=>?_,runM_blk _ _ _ _ _ _ _ hr (by simp)⟩
       rw[←h3]
       unfold posV
       grind
 grind
def noCyc(b:ae):Prop:=∀w∈b.Words,w.Letter=71→cycB w.Value=false
theorem put_cyc{w:aC}(h:cycB s.Motion=false)(hw:w.Letter=71→cycB w.Value=false):cycB (putW s w).Motion=false:=by
 unfold putW
 grind
theorem fold_cyc:∀(l:List aC) (s:ao),cycB s.Motion=false→(∀w∈l,w.Letter=71→cycB w.Value=false)→cycB (l.foldl putW s).Motion=false
 | [],s,h,_=>h
 | w::l,s,h,hw=>fold_cyc l _ (put_cyc h (hw w (by simp))) (λx hx=>hw x (by simp[hx]))
def zP:ag:=⟨0,0,0⟩
def len9:List aZ:=[⟨1,11000⟩,⟨2,12000⟩,⟨3,13000⟩,⟨4,14000⟩,⟨5,15000⟩,⟨6,16000⟩,⟨7,17000⟩,⟨8,18000⟩,⟨9,19000⟩]
def T53(o:ag):aw:=⟨⟨zP,o,zP,zP,zP,zP⟩,len9⟩
def lenT(n:Int):Int:=if n=0 then 0 else 10000+1000*n
def offN(o:ag)(n:Int):ag:=⟨o.X,o.Y,o.Z+lenT n⟩
def subP(p d:ag):ag:=⟨p.X-d.X,p.Y-d.Y,p.Z-d.Z⟩
def d9(p:ag):Prop:=(-1000000≤p.X∧p.X≤1000000)∧(-1000000≤p.Y∧p.Y≤1000000)∧(-1000000≤p.Z∧p.Z≤1000000)
def d8(p:ag):Prop:=(-100000≤p.X∧p.X≤100000)∧(-100000≤p.Y∧p.Y≤100000)∧(-100000≤p.Z∧p.Z≤100000)
theorem T53_len(o:ag):(T53 o).Lengths.length≤1000:=by show len9.length≤1000;decide
variable {n:Int}
theorem n_cases(h0:0≤n)(h9:n≤9):n=0∨n=1∨n=2∨n=3∨n=4∨n=5∨n=6∨n=7∨n=8∨n=9:=by omega
def wide(p:ag):Prop:=(-200000≤p.X∧p.X≤200000)∧(-200000≤p.Y∧p.Y≤200000)∧(-200000≤p.Z∧p.Z≤200000)
theorem d8.wide(h:d8 p):wide p:=by grind[d8,Go.Proofs.YtphbhdoljnokkaaGreatDoor.wide]
variable {o:ag}
theorem T53_valid(h:wide o):iu (T53 o)=some 0:=by
 have ho:inR o:=by grind[wide,inR]
 (unfold iu;try delta jB jR rF iF)
 simp only[lc,aa,T53]
 have hz:inR zP:=by grind[inR,zP]
 simp only[qY hz,qY ho,Bool.not_true,zF,qW]
 rfl
theorem T53_length(o:ag)(h0:0≤n)(h9:n≤9):k9 (T53 o) n=some (lenT n,0):=by
 have hl:∀W,k9 ⟨W,len9⟩ n=some (lenT n,0):=by
  intro W
  rcases n_cases h0 h9 with rfl | rfl | rfl | rfl | rfl | rfl | rfl | rfl | rfl | rfl<;>rfl
 exact hl _
theorem T53_offset(h:wide o)(h0:0≤n)(h9:n≤9):jZ (T53 o) 55000 n=some (offN o n,0):=by
 have hl0:0≤lenT n∧lenT n≤19000:=by grind[lenT]
 have hs:tb_slot 55000=some (1,0):=by decide
 (unfold jZ;try delta jR jV)
 (first | rw[T53_valid h,aa,qU (by simp),hs,aa,show aw.mk (T53 o).Work (T53 o).Lengths=T53 o from rfl,T53_length o h0 h9,aa] | rw[T53_valid h,aa,qU (by simp),hs,aa,T53_length o h0 h9,aa])
 unfold wide at h
 simp only[bne_self_eq_false,Bool.or_self,zF,qW]
 rw[show (decide ((0:Int)≤1∧(1:Int)<6))=true from rfl,aX]
 simp only[show ((1:Int)==0)=false from rfl,show ((1:Int)==1)=true from rfl,zF,qW,qX,aa]
 rw[show (T53 o).Work.e1=o from rfl,aE (by omega) (by omega)]
 rfl
theorem oT(h:wide o)(h0:0≤n)(h9:n≤9):(-300000≤(offN o n).X∧(offN o n).X≤300000)∧(-300000≤(offN o n).Y∧(offN o n).Y≤300000)∧(-300000≤(offN o n).Z∧(offN o n).Z≤300000):=by
 grind[wide,lenT,offN]
variable {q:ag}
theorem T53_machine(h:wide o)(h0:0≤n)(h9:n≤9)(hq:d9 q):gV (T53 o) 55000 n q=some (addP q (offN o n),0):=by
 have hs:=oT h h0 h9
 unfold gV
 rw[T53_offset h h0 h9,aa]
 simp only[bne_self_eq_false,zF,qW]
 generalize offN o n=d at hs
 unfold d9 at hq
 have e1:zY.wrap (q.X+zY.wrap (1*d.X))=q.X+d.X:=by grind[aE]
 have e2:zY.wrap (q.Y+zY.wrap (1*d.Y))=q.Y+d.Y:=by grind[aE]
 have e3:zY.wrap (q.Z+zY.wrap (1*d.Z))=q.Z+d.Z:=by grind[aE]
 unfold lR
 rw[e1,e2,e3,lc,lc,qY (show inR q by grind[inR]),qY (show inR ⟨q.X+d.X,q.Y+d.Y,q.Z+d.Z⟩ by grind[inR])]
 rfl
theorem T53_work(h:wide o)(h0:0≤n)(h9:n≤9)(hq:d9 q):nm (T53 o) 55000 n q=some (subP q (offN o n),0):=by
 have hs:=oT h h0 h9
 unfold nm
 (first | rw[show aw.mk (T53 o).Work (T53 o).Lengths=T53 o from rfl,T53_offset h h0 h9,aa] | rw[T53_offset h h0 h9,aa])
 simp only[bne_self_eq_false,zF,qW]
 generalize offN o n=d at hs
 unfold d9 at hq
 have e1:zY.wrap (q.X+zY.wrap ((-1)*d.X))=q.X-d.X:=by grind[aE]
 have e2:zY.wrap (q.Y+zY.wrap ((-1)*d.Y))=q.Y-d.Y:=by grind[aE]
 have e3:zY.wrap (q.Z+zY.wrap ((-1)*d.Z))=q.Z-d.Z:=by grind[aE]
 unfold lR
 rw[e1,e2,e3,lc,lc,qY (show inR q by grind[inR]),qY (show inR ⟨q.X-d.X,q.Y-d.Y,q.Z-d.Z⟩ by grind[inR])]
 rfl
theorem machV53(h:wide o)(h0:0≤n)(h9:n≤9)(hq:d9 q):lq (T53 o) 55000 n q=(addP q (offN o n),0):=by
 have:=machV_eq (T53_len o) 55000 n q
 simp_all[T53_machine]
theorem workV53(h:wide o)(h0:0≤n)(h9:n≤9)(hq:d9 q):ng (T53 o) 55000 n q=(subP q (offN o n),0):=by
 have:=workV_eq (T53_len o) 55000 n q
 simp_all[T53_work]
theorem add_sub(p d:ag):addP (subP p d) d=p:=by
 simp_all[addP,subP]
theorem sub_add(p d:ag):subP (addP p d) d=p:=by
 simp_all[addP,subP]
theorem dir_of{c:dh}(h:0<rad q c):(qd q c=0∧q.X=c.X+rad q c∧q.Y=c.Y)∨(qd q c=1∧q.X=c.X∧q.Y=c.Y+rad q c)∨(qd q c=2∧q.X=c.X-rad q c∧q.Y=c.Y)∨(qd q c=3∧q.X=c.X∧q.Y=c.Y-rad q c):=by
 unfold rad dst at h ⊢
 unfold qd
 by_cases e1:q.Y=c.Y<;>grind
theorem chord_end{R:Int}(h:0<n):qs R n n=0∧pc R n n=R:=by
 have hn:0<n*n:=Int.mul_pos h h
 unfold qs pc
 constructor
 simp_all
 ·rw[show 2*R*n*n=R*(n*n+n*n) by grind,zT _ (by omega)]
theorem ediv_in{a k N:Int}(hN:0<N)(hk:0<k)(hkN:k≤N){b:Int}(h1:-b≤a)(h2:a≤b)(hb:0≤b):-b≤a*k / N∧a*k / N≤b:=by
 have e1:a*k≤b*N:=by
  have:=zI h2 (Int.le_of_lt hk)
  have:=zD hkN hb
  omega
 have e2:-(b*N)≤a*k:=by
  have:=zI h1 (Int.le_of_lt hk)
  have h3:=zD hkN hb
  grind
 constructor
 simp_all[zL,Int.neg_mul]
 ·have:a*k / N<b+1:=zM hN (by grind)
  omega
variable {m:aH}
theorem arc_last(h:oi p m):(arcL p m).getLast? = some m.To:=by
 have hn:=h.n
 have hq:=h.q
 have ha:=h.all
 unfold arcL
 rw[List.getLast?_map,List.getLast?_range,qU (by omega),Option.map_some]
 congr 1
 unfold arcPt pk
 have hN:0<(arcN p m:Int):=by omega
 have hT:arcN p m*arcQ p m-1=arcN p m*(arcQ p m-1)+(arcN p m-1):=by
  obtain⟨q,hq'⟩:∃q,arcQ p m=q+1:=⟨arcQ p m-1,by omega⟩
  grind[Nat.mul_add]
 obtain⟨i1,i2⟩:=arc_idx (N:=arcN p m) (q:=arcQ p m-1) (j:=arcN p m-1) (by omega)
 rw[hT,i1,i2,show arcN p m-1+1=arcN p m by omega]
 obtain⟨c1,c2⟩:=chord_end (R:=rad p m.Center) hN
 rw[c1,c2,←hT,show arcN p m*arcQ p m-1+1=arcN p m*arcQ p m by omega]
 have hz:(m.To.Z-p.Z)*((arcN p m*arcQ p m:Nat):Int) / ((arcN p m*arcQ p m:Nat):Int)=m.To.Z-p.Z:=zT _ (by omega)
 rw[hz]
 have hqq:arcQ p m=qtr m.Kind (qd p m.Center) (qd m.To m.Center):=rfl
 rw[hqq]
 have hR:=h.r1
 have hto:=dir_of (q:=m.To) (c:=m.Center) (by rw[←hR];exact h.r0)
 rw[←hR]at hto
 have hp4:=qd_le p m.Center
 generalize rad p m.Center=R at hto ⊢
 have hxy:(ag.mk (m.Center.X+(arcXY m.Kind (qd p m.Center) (qtr m.Kind (qd p m.Center) (qd m.To m.Center)-1) 0 R).1) (m.Center.Y+(arcXY m.Kind (qd p m.Center) (qtr m.Kind (qd p m.Center) (qd m.To m.Center)-1) 0 R).2) (p.Z+(m.To.Z-p.Z)))=m.To:=by
  have hkey:(arcXY m.Kind (qd p m.Center) (qtr m.Kind (qd p m.Center) (qd m.To m.Center)-1) 0 R)=(m.To.X-m.Center.X,m.To.Y-m.Center.Y):=by
   generalize qd p m.Center=f at hp4
   have hf:f=0∨f=1∨f=2∨f=3:=by omega
   rcases h.kind with k | k
   ·rw[k]
    rcases hto with⟨d,x,y⟩|⟨d,x,y⟩|⟨d,x,y⟩|⟨d,x,y⟩<;>rw[d]<;>rcases hf with rfl | rfl | rfl | rfl<;>simp[arcXY,qtr,rot]<;>omega
   ·rw[k]
    rcases hto with⟨d,x,y⟩|⟨d,x,y⟩|⟨d,x,y⟩|⟨d,x,y⟩<;>rw[d]<;>rcases hf with rfl | rfl | rfl | rfl<;>simp[arcXY,qtr,rot]<;>omega
  rw[hkey]
  grind
 exact hxy
theorem arc_small{p:ag}{m:aH}(h:oi p m)(hr:rad p m.Center≤50000)(hp:d9 p)(ht:d8 m.To):(∀q∈arcL p m,d9 q)∧(arcL p m).length≤284:=by
 have hn:=h.n
 have hq:=h.q
 have hc:=dir_of (q:=m.To) (c:=m.Center) (by rw[←h.r1];exact h.r0)
 rw[←h.r1]at hc
 unfold d8 at ht
 constructor
 ·intro q hm
  unfold arcL at hm
  obtain⟨i,hi,rfl⟩:=List.mem_map.1 hm
  have hi:=List.mem_range.1 hi
  have hmod:i % arcN p m<arcN p m:=Nat.mod_lt _ (by omega)
  obtain⟨_,_,_,_,_,_,_,_,_,_,_,f1,f2⟩:=qS (R:=rad p m.Center) (n:=(arcN p m:Int)) (K:=((i % arcN p m+1:Nat):Int)) h.r0 h.rad_le (by omega) (by omega) (by omega)
  obtain⟨g1,g2⟩:=arcXY_bd (rad p m.Center) m.Kind (qd p m.Center) (i / arcN p m) f1 f2
  have hz:=ediv_in (a:=m.To.Z-p.Z) (k:=((i+1:Nat):Int)) (N:=((arcN p m*arcQ p m:Nat):Int)) (b:=1100000) (by omega) (by omega) (by omega) (by grind[d9]) (by grind[d9]) (by omega)
  have hz2:(p.Z≤p.Z+(m.To.Z-p.Z)*((i+1:Nat):Int) / ((arcN p m*arcQ p m:Nat):Int)∧p.Z+(m.To.Z-p.Z)*((i+1:Nat):Int) / ((arcN p m*arcQ p m:Nat):Int)≤m.To.Z)∨(m.To.Z≤p.Z+(m.To.Z-p.Z)*((i+1:Nat):Int) / ((arcN p m*arcQ p m:Nat):Int)∧p.Z+(m.To.Z-p.Z)*((i+1:Nat):Int) / ((arcN p m*arcQ p m:Nat):Int)≤p.Z):=by
   rcases Int.le_total p.Z m.To.Z with z | z
   ·left
    have h1:=ediv_in (a:=m.To.Z-p.Z) (k:=((i+1:Nat):Int)) (N:=((arcN p m*arcQ p m:Nat):Int)) (b:=m.To.Z-p.Z) (by omega) (by omega) (by omega) (by omega) (by omega) (by omega)
    have h2:0≤(m.To.Z-p.Z)*((i+1:Nat):Int) / ((arcN p m*arcQ p m:Nat):Int):=zW (zO (by omega) (by omega)) (by omega)
    omega
   ·right
    have h1:=ediv_in (a:=m.To.Z-p.Z) (k:=((i+1:Nat):Int)) (N:=((arcN p m*arcQ p m:Nat):Int)) (b:=p.Z-m.To.Z) (by omega) (by omega) (by omega) (by omega) (by omega) (by omega)
    have h2:(m.To.Z-p.Z)*((i+1:Nat):Int) / ((arcN p m*arcQ p m:Nat):Int)≤0:=by
     have h3:(m.To.Z-p.Z)*((i+1:Nat):Int)≤0:=Int.mul_nonpos_of_nonpos_of_nonneg (by omega) (by omega)
     have:(m.To.Z-p.Z)*((i+1:Nat):Int) / ((arcN p m*arcQ p m:Nat):Int)<1:=zM (by omega) (by omega)
     omega
    omega
  unfold d9 at hp ⊢
  grind[arcPt,pk]
 ·unfold arcL
  rw[List.length_map,List.length_range]
  have h1:=(chordsM_is h.r0).le (b:=71) (by omega) (by omega)
  have h2:arcN p m≤71:=by omega
  have:=Nat.mul_le_mul h2 hq.2
  omega
def ld(p:ag)(m:aH):List ar:=if m.Kind=3∨m.Kind=4 then (arcL p m).map (λq=>⟨q,m.Rate⟩)else [⟨m.To,m.Rate⟩]
def nh:ag→List aH→List ar
 | _,[]=>[]
 | p,m::r=>ld p m++nh m.To r
def chn(d:ag)(n:Int):ag→List ar→List aq
 | _,[]=>[]
 | p,x::l=>(if posEq (addP x.at_ d) p=true then []else [⟨p,addP x.at_ d,x.rate,n,0⟩])++chn d n (addP x.at_ d) l
def jd(d:ag):ag→List ar→ag
 | p,[]=>p
 | _,x::l=>jd d (addP x.at_ d) l
theorem chn_app(d:ag)(n:Int)(k:List ar):∀(l:List ar) (p:ag),chn d n p (l++k)=chn d n p l++chn d n (jd d p l) k
 | [],p=>rfl
 | x::l,p=>by rw[zH,chn,chn,chn_app d n k l,zV];rfl
theorem lastP_app(d:ag)(k:List ar):∀(l:List ar) (p:ag),jd d p (l++k)=jd d (jd d p l) k
 | [],p=>rfl
 | x::l,p=>by rw[zH,jd,lastP_app d k l];rfl
theorem chn_len(d:ag)(n:Int):∀(l:List ar) (p:ag),(chn d n p l).length≤l.length
 | [],_=>by simp[chn]
 | x::l,p=>by
  rw[chn,zU,List.length_cons]
  have:=chn_len d n l (addP x.at_ d)
  grind
theorem endW_chn(d:ag)(n:Int):∀(l:List ar) (p:ag),endW p (chn d n p l)=jd d p l
 | [],p=>rfl
 | x::l,p=>by
  rw[chn,endW_append,jd]
  have:endW p (if posEq (addP x.at_ d) p=true then []else [⟨p,addP x.at_ d,x.rate,n,0⟩])=addP x.at_ d:=by
   split
   ·rename_i h
    exact (posEq_iff.1 h).symm
   ·rfl
  rw[this,endW_chn d n l]
theorem lastP_last(d:ag):∀(l:List ar) (p:ag) (x:ar),l.getLast? = some x→jd d p l=addP x.at_ d
 | [],_,_,h=>by simp at h
 | [y],p,x,h=>by simp at h;subst h;rfl
 | y::z::l,p,x,h=>by
  rw[jd,lastP_last d (z::l) _ x (by simp_all)]
theorem runM_chn{o:ag}(h:wide o){n:Int}(h0:0≤n)(h9:n≤9):∀(L:List ar) (v:List aq×ag),(∀x∈L,d9 x.at_)→runM (T53 o) 55000 n n 0 L v=.go (v.1++chn (offN o n) n v.2 L,jd (offN o n) v.2 L)
 | [],v,_=>by simp[runM,chn,jd]
 | x::l,v,hs=>by
  rw[runM,machV53 h h0 h9 (hs x (by simp))]
  dsimp only
  rw[qU (by simp),runM_chn h h0 h9 l _ (λy hy=>hs y (by simp[hy]))]
  grind[addM,chn,jd]
theorem rad_congr(c:dh)(hx:q.X=p.X)(hy:q.Y=p.Y):rad q c=rad p c:=by simp_all[rad]
theorem movV_congr(hx:q.X=p.X)(hy:q.Y=p.Y)(hz:farP q.Z=false)(h:movV p m=0):movV q m=0:=by
 have hf:far6 p m.To=false→far6 q m.To=false:=by
  simp_all[far6]
 unfold movV at h ⊢
 rw[rad_congr m.Center hx hy]
 grind
theorem small_far(h:d9 q):farP q.X=false∧farP q.Y=false∧farP q.Z=false:=by
 grind[d9,farP]
theorem qB{p:ag}{m:aH}(hv:movV p m=0)(hp:d9 p)(ht:d8 m.To)(hr:(m.Kind=3∨m.Kind=4)→rad p m.Center≤50000):(∀x∈ld p m,d9 x.at_)∧(ld p m).length≤284∧∀d q,jd d q (ld p m)=addP m.To d:=by
 unfold ld
 by_cases k:m.Kind=3∨m.Kind=4
 ·rw[qV k]
  have ok:=arc_ok k hv
  obtain⟨a1,a2⟩:=arc_small ok (hr k) hp ht
  simp_all[lastP_last,arc_last]
 ·rw[qU k]
  refine⟨λx hx=>?_,by simp,λd q=>rfl⟩
  grind[d8,d9]
def St(n:Int)(s:ao):Prop:=s.Distance=90000∧s.Work=55000∧s.Length=43000∧s.Tool=1000*n∧s.Offset=1000*n
theorem movB_go(h:(movB p m).2=0):movV p m=0∧m.Rate≤1000000000000∧(movB p m).1=⟨false,movW p m,[]⟩:=by
 unfold movB at h ⊢
 grind
theorem movV_rates(h:movV p m=0):(m.Kind=1→m.Rate=0)∧(m.Kind≠1→0<m.Rate):=by
 (simp_all[movV];omega)
theorem rot_center{c:dh}(h:0<rad p c):(p.X-rad p c≤c.X∧c.X≤p.X+rad p c)∧(p.Y-rad p c≤c.Y∧c.Y≤p.Y+rad p c):=by
 rcases dir_of h with⟨_,a,b⟩|⟨_,a,b⟩|⟨_,a,b⟩|⟨_,a,b⟩<;>omega
theorem num_of(h0:0≤n)(h9:n≤9):zY.wrap (zE (1000*n) 1000)=n:=by
 grind[aE]
theorem step_mov(h:wide o)(h0:1≤n)(h9:n≤9){pw:ag}(hm0:(movB p m).2=0)(hpt:d8 p)(hx:pw.X=p.X)(hy:pw.Y=p.Y)(hpw:d9 pw)(hpm:d9 (addP pw (offN o n)))
  (ht:d8 m.To) (hr:(m.Kind=3∨m.Kind=4)→rad p m.Center≤50000) (hs:St n s) :
  ∃s1,St n s1∧pY s zC (movB p m).1 (T53 o) (addP pw (offN o n))=(chn (offN o n) n (addP pw (offN o n)) (ld pw m),s1,zC,0)∧okS (movB p m).1∧endsW (movB p m).1=false∧noCyc (movB p m).1∧(movB p m).1.Comment=[]:=by
 obtain⟨hv,hrt,hb⟩:=movB_go hm0
 have hgood:=good_mov hm0
 rw[hb]at hgood ⊢
 have hvw:=movV_congr (q:=pw) hx hy (small_far hpw).2.2 hv
 obtain⟨r1,r2⟩:=movV_rates hv
 obtain⟨f1,_,_⟩:=qB hvw hpw ht (λk=>by grind[rad_congr])
 have hrun:=runM_chn h (by omega:(0:Int)≤n) h9 (ld pw m) ([],addP pw (offN o n)) f1
 have hwork:ng (T53 o) 55000 n (addP pw (offN o n))=(pw,0):=by grind[workV53,sub_add]
 have hnum:=num_of (n:=n) (by omega) h9
 obtain⟨s1',s2',s3',s4',s5'⟩:=hs
 obtain⟨M,D,W,L,R,F,T,O⟩:=s
 simp only at s1' s2' s3' s4' s5'
 subst s1' s2' s3' s4' s5'
 have ht':=ht
 unfold d8 at ht' hpt
 have hokS:okS ⟨false,movW p m,[]⟩:=⟨hgood.2.1,by have:=hgood.2.2;omega,by simp⟩
 obtain⟨K,To,⟨cx,cy⟩,rt⟩:=m
 simp only at ht' r1 r2 hrt
 rcases movV_kind hv with k | k | k | k<;>simp only at k<;>subst k
 ·have e0:rt=0:=r1 rfl
  subst e0
  have hW:movW p ⟨1,To,⟨cx,cy⟩,0⟩=[⟨71,0⟩,⟨88,To.X⟩,⟨89,To.Y⟩,⟨90,To.Z⟩]:=by simp[movW]
  rw[hW]at hgood hokS ⊢
  have htk:iK ⟨false,[⟨71,0⟩,⟨88,To.X⟩,⟨89,To.Y⟩,⟨90,To.Z⟩],[]⟩:=by
   refine⟨⟨by simp,by simp,λw hw=>?_,by simp⟩,hgood.1,by rfl⟩
   simp only[zB,zA,or_false]at hw
   grind[okW]
  refine⟨⟨0,90000,55000,43000,R,F,1000*n,1000*n⟩,⟨rfl,rfl,rfl,rfl,rfl⟩,?_,hokS,rfl,λw hw q=>?_,rfl⟩
  ·refine pz (pw:=pw) (u:=(chn (offN o n) n (addP pw (offN o n)) (ld pw ⟨1,To,⟨cx,cy⟩,0⟩),jd (offN o n) (addP pw (offN o n)) (ld pw ⟨1,To,⟨cx,cy⟩,0⟩))) (fl:=ld pw ⟨1,To,⟨cx,cy⟩,0⟩) htk rfl rfl rfl rfl ?_ rfl ?_
   ·show ng (T53 o) 55000 (zY.wrap (zE (1000*n) 1000)) _=_
    simp_all
   ·show runM (T53 o) 55000 (zY.wrap (zE (1000*n) 1000)) (zY.wrap (zE (1000*n) 1000)) 0 _ _=_
    simp_all
  ·simp only[zB,zA,or_false]at hw
   rcases hw with rfl | rfl | rfl | rfl<;>first | rfl | (simp at q)
 ·have e0:=r2 (by omega)
  have hW:movW p ⟨2,To,⟨cx,cy⟩,rt⟩=[⟨71,1000⟩,⟨88,To.X⟩,⟨89,To.Y⟩,⟨90,To.Z⟩,⟨70,rt⟩]:=by simp[movW]
  rw[hW]at hgood hokS ⊢
  have htk:iK ⟨false,[⟨71,1000⟩,⟨88,To.X⟩,⟨89,To.Y⟩,⟨90,To.Z⟩,⟨70,rt⟩],[]⟩:=by
   refine⟨⟨by simp,by simp,λw hw=>?_,by simp⟩,hgood.1,by rfl⟩
   simp only[zB,zA,or_false]at hw
   grind[okW]
  refine⟨⟨1000,90000,55000,43000,R,rt,1000*n,1000*n⟩,⟨rfl,rfl,rfl,rfl,rfl⟩,?_,hokS,rfl,λw hw q=>?_,rfl⟩
  ·refine pz (pw:=pw) (u:=(chn (offN o n) n (addP pw (offN o n)) (ld pw ⟨2,To,⟨cx,cy⟩,rt⟩),jd (offN o n) (addP pw (offN o n)) (ld pw ⟨2,To,⟨cx,cy⟩,rt⟩))) (fl:=ld pw ⟨2,To,⟨cx,cy⟩,rt⟩) htk rfl rfl rfl ?_ ?_ rfl ?_
   simp_all
   ·show ng (T53 o) 55000 (zY.wrap (zE (1000*n) 1000)) _=_
    simp_all
   ·show runM (T53 o) 55000 (zY.wrap (zE (1000*n) 1000)) (zY.wrap (zE (1000*n) 1000)) 0 _ _=_
    simp_all
  ·simp only[zB,zA,or_false]at hw
   rcases hw with rfl | rfl | rfl | rfl | rfl<;>first | rfl | (simp at q)
 all_goals
  have e0:=r2 (by omega)
  have hrad:=hr (by simp)
  have hok:=arc_ok (by simp) hv
  have hcen:=rot_center hok.r0
  simp only at hrad hcen
  have hcx:zY.wrap (cx-p.X)=cx-p.X:=by grind[aE]
  have hcy:zY.wrap (cy-p.Y)=cy-p.Y:=by grind[aE]
 ·have hW:movW p ⟨3,To,⟨cx,cy⟩,rt⟩=[⟨71,2000⟩,⟨88,To.X⟩,⟨89,To.Y⟩,⟨90,To.Z⟩,⟨73,cx-p.X⟩,⟨74,cy-p.Y⟩,⟨70,rt⟩]:=by simp_all[movW]
  rw[hW]at hgood hokS ⊢
  have htk:iK ⟨false,[⟨71,2000⟩,⟨88,To.X⟩,⟨89,To.Y⟩,⟨90,To.Z⟩,⟨73,cx-p.X⟩,⟨74,cy-p.Y⟩,⟨70,rt⟩],[]⟩:=by
   refine⟨⟨by simp,by simp,λw hw=>?_,by simp⟩,hgood.1,by rfl⟩
   simp only[zB,zA,or_false]at hw
   grind[okW]
  have hmv:mvV ⟨2000,90000,55000,43000,R,rt,1000*n,1000*n⟩ ⟨false,[⟨71,2000⟩,⟨88,To.X⟩,⟨89,To.Y⟩,⟨90,To.Z⟩,⟨73,cx-p.X⟩,⟨74,cy-p.Y⟩,⟨70,rt⟩],[]⟩ pw=⟨3,To,⟨cx,cy⟩,rt⟩:=by
   show aH.mk 3 ⟨To.X,To.Y,To.Z⟩ ⟨pw.X+(cx-p.X),pw.Y+(cy-p.Y)⟩ rt=_
   rw[hx,hy,show p.X+(cx-p.X)=cx by omega,show p.Y+(cy-p.Y)=cy by omega]
  refine⟨⟨2000,90000,55000,43000,R,rt,1000*n,1000*n⟩,⟨rfl,rfl,rfl,rfl,rfl⟩,?_,hokS,rfl,λw hw q=>?_,rfl⟩
  ·refine pz (pw:=pw) (u:=(chn (offN o n) n (addP pw (offN o n)) (ld pw ⟨3,To,⟨cx,cy⟩,rt⟩),jd (offN o n) (addP pw (offN o n)) (ld pw ⟨3,To,⟨cx,cy⟩,rt⟩))) (fl:=ld pw ⟨3,To,⟨cx,cy⟩,rt⟩) htk rfl rfl rfl ?_ ?_ ?_ ?_
   simp_all
   ·show ng (T53 o) 55000 (zY.wrap (zE (1000*n) 1000)) _=_
    simp_all
   simp_all[posV,cycB,ld]
   ·show runM (T53 o) 55000 (zY.wrap (zE (1000*n) 1000)) (zY.wrap (zE (1000*n) 1000)) 0 _ _=_
    simp_all
  ·simp only[zB,zA,or_false]at hw
   rcases hw with rfl | rfl | rfl | rfl | rfl | rfl | rfl<;>first | rfl | (simp at q)
 ·have hW:movW p ⟨4,To,⟨cx,cy⟩,rt⟩=[⟨71,3000⟩,⟨88,To.X⟩,⟨89,To.Y⟩,⟨90,To.Z⟩,⟨73,cx-p.X⟩,⟨74,cy-p.Y⟩,⟨70,rt⟩]:=by simp_all[movW]
  rw[hW]at hgood hokS ⊢
  have htk:iK ⟨false,[⟨71,3000⟩,⟨88,To.X⟩,⟨89,To.Y⟩,⟨90,To.Z⟩,⟨73,cx-p.X⟩,⟨74,cy-p.Y⟩,⟨70,rt⟩],[]⟩:=by
   refine⟨⟨by simp,by simp,λw hw=>?_,by simp⟩,hgood.1,by rfl⟩
   simp only[zB,zA,or_false]at hw
   grind[okW]
  have hmv:mvV ⟨3000,90000,55000,43000,R,rt,1000*n,1000*n⟩ ⟨false,[⟨71,3000⟩,⟨88,To.X⟩,⟨89,To.Y⟩,⟨90,To.Z⟩,⟨73,cx-p.X⟩,⟨74,cy-p.Y⟩,⟨70,rt⟩],[]⟩ pw=⟨4,To,⟨cx,cy⟩,rt⟩:=by
   show aH.mk 4 ⟨To.X,To.Y,To.Z⟩ ⟨pw.X+(cx-p.X),pw.Y+(cy-p.Y)⟩ rt=_
   rw[hx,hy,show p.X+(cx-p.X)=cx by omega,show p.Y+(cy-p.Y)=cy by omega]
  refine⟨⟨3000,90000,55000,43000,R,rt,1000*n,1000*n⟩,⟨rfl,rfl,rfl,rfl,rfl⟩,?_,hokS,rfl,λw hw q=>?_,rfl⟩
  ·refine pz (pw:=pw) (u:=(chn (offN o n) n (addP pw (offN o n)) (ld pw ⟨4,To,⟨cx,cy⟩,rt⟩),jd (offN o n) (addP pw (offN o n)) (ld pw ⟨4,To,⟨cx,cy⟩,rt⟩))) (fl:=ld pw ⟨4,To,⟨cx,cy⟩,rt⟩) htk rfl rfl rfl ?_ ?_ ?_ ?_
   simp_all
   ·show ng (T53 o) 55000 (zY.wrap (zE (1000*n) 1000)) _=_
    simp_all
   simp_all[posV,cycB,ld]
   ·show runM (T53 o) 55000 (zY.wrap (zE (1000*n) 1000)) (zY.wrap (zE (1000*n) 1000)) 0 _ _=_
    simp_all
  ·simp only[zB,zA,or_false]at hw
   rcases hw with rfl | rfl | rfl | rfl | rfl | rfl | rfl<;>first | rfl | (simp at q)
theorem rgl_step(h:rglS s)(hb:iK b):rglS (b.Words.foldl putW s):=rgl_fold _ [] _ h hb.2.1 hb.1.2.2.1
theorem step_nc(ht:t.Lengths.length≤1000)(hv:iu t=some 0){m:List aq}(hp:inR p)(hb:okS b)(hr:rglS s)(hy:cycB s.Motion=false)(hn:noCyc b)(hs:pY s c b t p=(m,s1,c1,0)):kH s c b t p=some (m,s1,c1,0):=by
 obtain⟨k1,k2,_,_⟩:=stepP_facts hs
 rw[inp_Step_nc hb ht (rgl_feed hr) (checked_0 hv hp) k1 (fold_cyc _ _ hy hn),hs]
theorem Runs.loopN(ht:t.Lengths.length≤1000)(hv:iu t=some 0){ε:Type}{f:Nat→ae→Run→Option (Ex ε Run)}{d:Run→Option ε}
  (hf:∀(i:Nat) (b:ae) (v:Run) (m:List aq) (s1:ao) (c1:av),kH v.2.2.1 v.2.2.2 b t v.2.1=some (m,s1,c1,0)→okS b→v.1.length+m.length≤20000→endsW b=false→f i b v=some (.go (v.1++m.map (setB i),endW v.2.1 m,s1,c1)))
     {l:List ae} {ms:List aq} (h:Runs t s c p l ms s2 c2 p2) :
  ∀(i:Nat) (o:List aq) (rest:List ae),rglS s→cycB s.Motion=false→(∀b∈l,noCyc b)→o.length+ms.length≤20000→∃ms',ms'.map bare0=ms∧aM f d (l++rest) i (o,p,s,c)=aM f d rest (i+l.length) (o++ms',p2,s2,c2)∧rglS s2∧cycB s2.Motion=false:=by
 induction h with
 | nil =>
  simp_all
 | cons hp hb hs he r ih =>
  rename_i s s1 s2 c c1 c2 p p2 b l m ms
  intro i o rest hr hy hn hlen
  rw[zU]at hlen
  have hst:=step_nc ht hv hp hb hr hy (hn b (by simp)) hs
  obtain⟨k1,k2,k3,k4⟩:=stepP_facts hs
  have hr1:rglS s1:=by simp_all[rgl_step]
  have hy1:cycB s1.Motion=false:=by rw[k2];exact fold_cyc _ _ hy (hn b (by simp))
  obtain⟨ms',e1,e2,e3,e4⟩:=ih (i+1) (o++m.map (setB i)) rest hr1 hy1 (λx hx=>hn x (by simp[hx])) (by grind)
  refine⟨m.map (setB i)++ms',by grind[bare_set],?_,e3,e4⟩
  grind[aM]
theorem contains_end(h:b.Words.length≤1000):ie b 77=some (codesW b 77)∧aW (codesW b 77) 30000=some (endsW b):=by
 refine⟨bk_Codes_eq b _ h,?_⟩
 rw[contains_eq _ _ (by
  grind[codesW])]
 rfl
variable {X:List ae}
theorem Runs.programN  (ht : t.Lengths.length ≤ 1000) {s3:ao} {c3:av}   {E:ae} {ms:List aq} (hchk : eg t p = some 0) (h : Runs t newS zC p X ms s2 c2 p2)
    (hp2:inR p2) (hE:okS E) (hs:pY s2 c2 E t p2=([],s3,c3,0)) (he:endsW E=true) (hl:ms.length≤20000) (hX:X.length≤90000) (hn:∀b∈X++[E],noCyc b):∃ms',kT (X++[E]) t p=some (ms',⟨-1,0⟩)∧ms'.map bare0=ms:=by
  obtain⟨hv,hp⟩:=valid_of_checked ht hchk
  (unfold kT;try delta jB jC jR rF gF)
  rw[hchk,aa,qU (by simp)]
  simp only[md_New,aa]
  rw[bn (by simp;omega),aX]
  have step : ∀ (i : Nat) (b : ae) (v : Run) (m : List aq) (s1 : ao) (c1 : av) (K : List aq → ag → Bool → Option (Ex (Ex (Ex (List aq × aQ) Run) Run) Run)), kH v.2.2.1 v.2.2.2 b t v.2.1 = some (m, s1, c1, 0) → okS b → v.1.length + m.length ≤ 20000 →
      (ac (aA (dN m) (aM (λ(i2:Nat) (e2:aq) (v4:(List aq))=>ac (gt v4 (i2:Int)) λ(e3:aq)=>some (.go (v4.set (Int.toNat (i2:Int)) (aq.mk e3.From e3.To e3.Rate e3.Tool (i:Int))))) (λ(v4:(List aq))=>some v4) m 0 m)) λ(v5:(List aq)) =>
        aA (cd (v.1.length+v5.length)) (ac (qN v.2.1 v5) λ(y4:ag)=>ac (ie b 77) λ(y5:(List Int))=>ac (aW y5 30000) λ(y6:Bool)=>K v5 y4 y6))=K (m.map (setB i)) (endW v.2.1 m) (endsW b):=by
    intro i b v m s1 c1 K _ hb hlen
    obtain⟨g1,g2⟩:=contains_end hb.2.1
    grind[bn,aX,range_set,setB,aa,br,inp_End_eq,endW_map]
  have hw:∀(a b:Nat),a+b≤20000→decide (zY.wrap ((a:Int)+(b:Int))>20000)=false:=λa b h=>by
    grind[aE]
  obtain ⟨ms', e1, e2, e3, e4⟩ := h.loopN ht hv (f := λ(i1 : Nat) (e1 : ae) (v1 : Run) =>
          bindX (ac (kH v1.2.2.1 v1.2.2.2 e1 (aw.mk t.Work t.Lengths) v1.2.1) λ(y3 : (List aq) × ao × av × Int) =>
              ac (if (y3.2.2.2 == 0) = true then
                    some (decide ((zY.wrap ((v1.1.length:Int)+(y3.1.length:Int)))>20000))
                  else
                    some false) λ(v2:Bool) =>
              ac (if v2 = true then
                    some 3
                  else
                    some y3.2.2.2) λ(v3:Int) =>
              if (v3 != 0)=true then
                some (.ret (.ret (.ret (v1.1,aQ.mk (i1:Int) v3))))
              else
                ac (aA (dN y3.1) (
                    aM (λ(i2:Nat) (e2:aq) (v4:(List aq)) =>
                      ac (gt v4 (i2:Int)) λ(e3:aq) =>
                      some (.go (v4.set (Int.toNat (i2:Int)) (aq.mk e3.From e3.To e3.Rate e3.Tool (i1:Int))))) (λ(v4:(List aq))=>some v4) y3.1 0 y3.1)) λ(v5:(List aq)) =>
                aA (cd (v1.1.length+v5.length)) (
                ac (qN v1.2.1 v5) λ(y4:ag) =>
                ac (ie e1 77) λ(y5:(List Int)) =>
                ac (aW y5 30000) λ(y6:Bool) =>
                if y6=true then
                  some (.ret (.ret (.ret (v1.1++v5,aQ.mk (-1) 0))))
                else
                  some (.go (v1.1++v5,y4,y3.2.1,y3.2.2.1)))) λ(v6:Run) =>
          some (.go (v6.1,v6.2.1,v6.2.2.1,v6.2.2.2))) (d:=λ(v1:Run)=>some (Ex.go (ε:=List aq×aQ) (v1.1,v1.2.1,v1.2.2.1,v1.2.2.2))) (λi b v m s1 c1 hst hb hlen hen=>by
    (first | rw[show aw.mk t.Work t.Lengths=t from rfl,hst,aa] | rw[hst,aa])
    dsimp only
    rw[qV (by simp),hw _ _ hlen,aa,qU (by simp),aa,qU (by simp),step i b v m s1 c1 _ hst hb hlen,hen,qU (by simp),bindX_go]) 0 [] [E] rgl_new rfl (λb hb=>hn b (by simp[hb])) (by simp_all)
  refine⟨ms',?_,e1⟩
  have hlm:ms'.length≤20000:=by grind
  have hst:=step_nc ht hv hp2 hE e3 e4 (hn E (by simp)) hs
  (first | rw[show (ao.mk 0 90000 54000 49000 98000 0 0 0)=newS from rfl,show av.mk 0 0 0 0 0 0 false=zC from rfl,e2,zK,aM] | rw[e2,zK,aM])
  dsimp only
  (first | rw[show aw.mk t.Work t.Lengths=t from rfl,hst,aa] | rw[hst,aa])
  dsimp only
  rw[qV (by simp),hw _ _ (by omega),aa,qU (by simp),aa,qU (by simp),step (0+X.length) E (ms',p2,s2,c2) [] s3 c3 _ hst hE (by omega),he,qV rfl]
  simp[bindX]
theorem okS_vp(h:eU b):okS b:=⟨λw hw=>by
 obtain⟨a1,a2,_⟩:=h.2.2.1 w hw
 grind[u8W],by have:=h.1;omega,by have:=h.2.1;omega⟩
def okM:ag→List aH→Prop
 | _,[]=>True
 | p,m::r=>d8 m.To∧((m.Kind=3∨m.Kind=4)→rad p m.Center≤50000)∧okM m.To r
theorem small_in(h:d9 p):inR p:=by grind[d9,inR]
theorem kZ(h:d8 p):d9 p:=by grind[d8,d9]
theorem add_small(h:d8 p)(ho:wide o)(h0:0≤n)(h9:n≤9):d9 (addP p (offN o n)):=by
 have:=oT ho h0 h9
 grind[d8,d9,addP]
theorem run_moves{o:ag}(h:wide o){n:Int}(h0:1≤n)(h9:n≤9):∀(l:List aH) (p pw:ag) (s:ao) (v:List ae×ag),ft p l=.go v→okM p l→d8 p→pw.X=p.X→pw.Y=p.Y→d9 pw→d9 (addP pw (offN o n))→St n s →
  ∃s1,St n s1∧Runs (T53 o) s zC (addP pw (offN o n)) v.1 (chn (offN o n) n (addP pw (offN o n)) (nh pw l)) s1 zC (jd (offN o n) (addP pw (offN o n)) (nh pw l))∧(∀b∈v.1,noCyc b∧b.Comment=[])∧v.2=fP p l∧d8 v.2∧(nh pw l).length≤284*l.length∧jd (offN o n) (addP pw (offN o n)) (nh pw l)=(if l=[]then addP pw (offN o n)else addP v.2 (offN o n))
 | [],p,pw,s,v,hv,_,hp,_,_,_,_,hs=>by
  injection hv with hv;subst hv
  exact⟨s,hs,.nil,λb hb=>by simp at hb,rfl,hp,by simp[nh],rfl⟩
 | m::r,p,pw,s,v,hv,hok,hp,hx,hy,hpw,hpm,hs=>by
  rw[ft]at hv
  by_cases hm0:(movB p m).2=0
  ·rw[qV hm0]at hv
   cases hq:ft m.To r with
   | ret e=>simp_all
   | go u =>
    rw[hq]at hv
    injection hv with hv;subst hv
    obtain⟨ht,hr,hok'⟩:=hok
    obtain⟨s1,a1,a2,a3,a4,a5,a6⟩:=step_mov h h0 h9 hm0 hp hx hy hpw hpm ht hr hs
    have hvw:=movV_congr (q:=pw) hx hy (small_far hpw).2.2 (movB_go hm0).1
    obtain⟨f1,f2,f3⟩:=qB hvw hpw ht (λk=>by grind[rad_congr])
    obtain⟨s2,b1,b2,b3,b4,b5,b6,b7⟩:=run_moves h h0 h9 r m.To m.To s1 u hq hok' ht rfl rfl (kZ ht) (add_small ht h (by omega) h9) a1
    refine⟨s2,b1,?_,λb hb=>?_,b4,b5,?_,?_⟩
    ·rw[nh,chn_app,lastP_app,f3]
     exact .cons (small_in hpm) a3 a2 a4 (by simp_all[endW_chn])
    grind
    grind[nh]
    ·rw[nh,lastP_app,f3,b7,qU (show ¬(m::r=[]) by simp)]
     split
     ·rename_i hr0
      subst hr0
      have:u.2=m.To:=b4
      rw[this]
     ·rfl
  simp_all
theorem ite_zC(b:Prop)[Decidable b]:(if b then zC else zC)=zC:=by split<;>rfl
theorem run_idle(hp:inR p)(hb:iK b)(hx:hasW b [88,89,90,73,74,81,82]=false)(hf:b.Words.foldl putW s=s1)(he:endsW b=false):Runs t s zC p [b] [] s1 zC p:=by
 have:=stepP_idle (s:=s) (c:=zC) (t:=t) (p:=p) hb hx
 rw[ite_zC,hf]at this
 exact .one hp (okS_vp hb.1) this he rfl
theorem run_change{n:Int}(h0:1≤n)(h9:n≤9)(hD:s.Distance=90000)(hW:s.Work=55000)(p:ag)(hp:inR p):∃s1,St n s1∧Runs t s zC p (chgB n) [] s1 zC p∧∀b∈chgB n,noCyc b∧b.Comment=[]:=by
 have hc:(chgV n).2=0∧(chgV n).1=chgB n:=by unfold chgV;grind
 have hg:∀b∈chgB n,goodB b:=λb hb=>good_chg hc.1 (by simp_all)
 have g1:=hg ⟨false,[⟨84,1000*n⟩,⟨77,6000⟩],[]⟩ (by simp[chgB])
 have g2:=hg ⟨false,[⟨71,43000⟩,⟨72,1000*n⟩],[]⟩ (by simp[chgB])
 have t1:iK ⟨false,[⟨84,1000*n⟩,⟨77,6000⟩],[]⟩:=by
  refine⟨⟨by simp,by simp,λw hw=>?_,by simp⟩,g1.1,by rfl⟩
  simp only[zB,zA,or_false]at hw
  grind[okW]
 have t2:iK ⟨false,[⟨71,43000⟩,⟨72,1000*n⟩],[]⟩:=by
  refine⟨⟨by simp,by simp,λw hw=>?_,by simp⟩,g2.1,by rfl⟩
  simp only[zB,zA,or_false]at hw
  grind[okW]
 obtain⟨M,D,W,L,R,F,T,O⟩:=s
 simp only at hD hW
 subst hD hW
 have r1:=run_idle (t:=t) (p:=p) (s:=⟨M,90000,55000,L,R,F,T,O⟩) (s1:=⟨M,90000,55000,L,R,F,1000*n,O⟩) hp t1 rfl rfl rfl
 have r2:=run_idle (t:=t) (p:=p) (s:=⟨M,90000,55000,L,R,F,1000*n,O⟩) (s1:=⟨M,90000,55000,43000,R,F,1000*n,1000*n⟩) hp t2 rfl rfl rfl
 refine⟨⟨M,90000,55000,43000,R,F,1000*n,1000*n⟩,⟨rfl,rfl,rfl,rfl,rfl⟩,r1.app r2,λb hb=>?_⟩
 simp only[chgB,zB,zA,or_false]at hb
 rcases hb with rfl | rfl
 ·refine⟨λw hw q=>?_,rfl⟩
  grind
 ·refine⟨λw hw q=>?_,rfl⟩
  simp only[zB,zA,or_false]at hw
  rcases hw with rfl | rfl<;>first | rfl | (simp at q)
def okG:ag→List bC→Prop
 | _,[]=>True
 | p,s::r=>(1≤s.Tool∧s.Tool≤9)∧s.Moves.length≤20∧okM p s.Moves∧okG (fP p s.Moves) r
def pZ(o:ag):ag→List bC→List aq
 | _,[]=>[]
 | pm,s::r=>chn (offN o s.Tool) s.Tool pm (nh (subP pm (offN o s.Tool)) s.Moves)++pZ o (jd (offN o s.Tool) pm (nh (subP pm (offN o s.Tool)) s.Moves)) r
def midQ(p:ag):Prop:=(-400000≤p.X∧p.X≤400000)∧(-400000≤p.Y∧p.Y≤400000)∧(-400000≤p.Z∧p.Z≤400000)
theorem oV(h:midQ p):d9 p:=by grind[midQ,d9]
theorem mid_work(h:midQ p)(ho:wide o)(h0:0≤n)(h9:n≤9):d9 (subP p (offN o n)):=by
 have:=oT ho h0 h9
 grind[midQ,d9,subP]
theorem pq(h:d8 p)(ho:wide o)(h0:0≤n)(h9:n≤9):midQ (addP p (offN o n)):=by
 have:=oT ho h0 h9
 grind[d8,midQ,addP]
theorem run_stages{o:ag}(h:wide o):∀(l:List bC) (p pm:ag) (s:ao) (v:List ae×ag),eR p l=.go v→okG p l→d8 p→pm.X=p.X+o.X→pm.Y=p.Y+o.Y→midQ pm→s.Distance=90000→s.Work=55000 →
  ∃s1 pm1,Runs (T53 o) s zC pm v.1 (pZ o pm l) s1 zC pm1∧(∀b∈v.1,noCyc b∧b.Comment=[])∧(pZ o pm l).length≤5680*l.length∧inR pm1
 | [],p,pm,s,v,hv,_,_,_,_,hm,_,_=>by
  injection hv with hv;subst hv
  exact⟨s,pm,.nil,λb hb=>by simp at hb,by simp[pZ],small_in (oV hm)⟩
 | g::r,p,pm,s,v,hv,hok,hp,hx,hy,hm,hD,hW=>by
  rw[eR]at hv
  obtain⟨⟨h0,h9⟩,hml,hom,hor⟩:=hok
  by_cases hc:(chgV g.Tool).2=0
  ·rw[qV hc]at hv
   cases hq:ft p g.Moves with
   | ret e=>simp_all
   | go u =>
    rw[hq]at hv
    simp only at hv
    cases hq2:eR u.2 r with
    | ret e=>simp_all
    | go w =>
     rw[hq2]at hv
     injection hv with hv;subst hv
     have hcB:(chgV g.Tool).1=chgB g.Tool:=by unfold chgV;grind
     obtain⟨s1,c1,c2,c3⟩:=run_change (t:=T53 o) h0 h9 hD hW pm (small_in (oV hm))
     have hsub:addP (subP pm (offN o g.Tool)) (offN o g.Tool)=pm:=add_sub _ _
     obtain⟨s2,d1,d2,d3,d4,d5,d6,d7⟩:=run_moves h h0 h9 g.Moves p (subP pm (offN o g.Tool)) s1 u hq hom hp (by simp_all[subP,offN]) (by simp_all[subP,offN]) (mid_work hm h (by omega) h9) (by simp_all[oV]) c1
     rw[hsub]at d2 d7
     have hnext:(jd (offN o g.Tool) pm (nh (subP pm (offN o g.Tool)) g.Moves)).X=u.2.X+o.X∧(jd (offN o g.Tool) pm (nh (subP pm (offN o g.Tool)) g.Moves)).Y=u.2.Y+o.Y∧midQ (jd (offN o g.Tool) pm (nh (subP pm (offN o g.Tool)) g.Moves)):=by
      rw[d7]
      split
      ·rename_i hm0
       rw[hm0]at d4
       have d4:u.2=p:=d4
       grind
      ·exact⟨rfl,rfl,pq d5 h (by omega) h9⟩
     obtain⟨s3,pm1,e1,e2,e3,e4⟩:=run_stages h r u.2 _ s2 w hq2 (by simp_all) d5 hnext.1 hnext.2.1 hnext.2.2 d1.1 d1.2.1
     refine⟨s3,pm1,?_,λb hb=>?_,?_,e4⟩
     ·rw[hcB,pZ]
      have:=(c2.app d2).app e1
      simp_all
     grind
     grind[pZ,chn_len]
  simp_all
variable {l:List bC}
theorem run_plain(h:wide o)(hp:d8 p)(hl:okG p l)(h0:(eW l p 55000).2=0):∃X s1 pm1,(eW l p 55000).1=X++[p7]∧Runs (T53 o) newS zC (addP p (offN o 0)) X (pZ o (addP p (offN o 0)) l) s1 zC pm1∧(∀b∈X,noCyc b∧b.Comment=[])∧(pZ o (addP p (offN o 0)) l).length≤5680*l.length∧inR pm1:=by
 unfold eW at h0 ⊢
 by_cases hf:(farP p.X||farP p.Y||farP p.Z)=true
 simp_all
 ·rw[qU hf]at h0 ⊢
  cases hs:eR p l with
  | ret e=>grind[pA]
  | go v =>
   have hhd:iK ⟨false,[⟨71,0⟩,⟨71,90000⟩,⟨71,55000⟩,⟨71,49000⟩,⟨71,98000⟩],[]⟩:=by
    refine⟨⟨by simp,by simp,λw hw=>?_,by simp⟩,by decide,by rfl⟩
    simp only[zB,zA,or_false]at hw
    grind[okW]
   have htl:iK ⟨false,[⟨71,49000⟩],[]⟩:=by
    refine⟨⟨by simp,by simp,λw hw=>?_,by simp⟩,by decide,by rfl⟩
    simp_all[okW]
   have r1:=run_idle (t:=T53 o) (p:=addP p (offN o 0)) (s:=newS) (s1:=⟨0,90000,55000,49000,98000,0,0,0⟩) (small_in (oV (pq hp h (by omega) (by omega)))) hhd rfl (by decide) rfl
   obtain⟨s1,pm1,e1,e2,e3,e4⟩:=run_stages h l p (addP p (offN o 0)) ⟨0,90000,55000,49000,98000,0,0,0⟩ v hs hl hp rfl rfl (pq hp h (by omega) (by omega)) rfl rfl
   have r2:=run_idle (t:=T53 o) (p:=pm1) (s:=s1) (s1:=List.foldl putW s1 [⟨71,49000⟩]) e4 htl rfl rfl rfl
   refine⟨headB 55000++v.1++[⟨false,[⟨71,49000⟩],[]⟩],List.foldl putW s1 [⟨71,49000⟩],pm1,by simp[tailB,p7,qE],?_,λb hb=>?_,e3,e4⟩
   ·have:=(r1.app e1).app r2
    rw[zK,List.append_nil]at this
    exact this
   ·have hone:∀c,c∈[⟨false,[⟨71,0⟩,⟨71,90000⟩,⟨71,55000⟩,⟨71,49000⟩,⟨71,98000⟩],[]⟩,(⟨false,[⟨71,49000⟩],[]⟩:ae)]→noCyc c∧c.Comment=[]:=by
     intro c hc
     simp only[zB,zA,or_false]at hc
     rcases hc with rfl | rfl
     ·refine⟨λw hw q=>?_,rfl⟩
      simp only[zB,zA,or_false]at hw
      rcases hw with rfl | rfl | rfl | rfl | rfl<;>rfl
     ·refine⟨λw hw q=>?_,rfl⟩
      simp only[zB,zA,or_false]at hw
      rcases hw with rfl<;>rfl
    rcases List.mem_append.1 hb with hb | hb
    ·rcases List.mem_append.1 hb with hb | hb<;>simp_all[headB]
    simp_all
theorem emit_run{p:ag}{l:List bC}(h:wide o)(hp:d8 p)(hok:jS l)(hG:okG p l)(hl3:l.length≤3)(h0:(eW l p 55000).2=0)(hA:∀b∈(eW l p 55000).1,eU b) :
  ∃q L ms,nv (eW l p 55000).1=some (q,0)∧ka q=some (L,0)∧kT L (T53 o) (addP p (offN o 0))=some (ms,⟨-1,0⟩)∧ms.map bare0=pZ o (addP p (offN o 0)) l:=by
 have hpp:gx p:=by grind[d8,gx,i64P]
 obtain⟨X,hX,hXs⟩:=std_plain (w:=55000) hok hpp (by decide) h0
 have hXl:X.length≤130:=by have:=(pJ hok hpp (w:=55000) (by decide)).1;simp_all
 obtain⟨X0,s1,pm1,p1,p2,p3,p4,p5⟩:=run_plain h hp hG h0
 have hin:inR (addP p (offN o 0)):=by
  grind[pq,midQ,inR]
 have hchk:=checked_0 (T53_valid h) hin
 rw[p1]at hX
 obtain rfl:X0=X:=(List.append_inj' hX rfl).1
 obtain⟨q,r1,r2⟩:=roundP hXs hXl
 have hte:iK p7:=by
  refine⟨⟨by simp[p7,qE],by simp[p7,qE],λw hw=>?_,by simp[p7,qE]⟩,by decide,by rfl⟩
  simp_all[p7,qE,okW]
 have hse:pY s1 zC p7 (T53 o) pm1=([],s1,zC,0):=by
  have:=stepP_idle (s:=s1) (c:=zC) (t:=T53 o) (p:=pm1) hte rfl
  rw[ite_zC]at this
  exact this
 obtain⟨ms,m1,m2⟩:=p2.programN (T53_len o) hchk p5 (okS_vp hte.1) (by rw[hse]) rfl (by omega) (by omega) (λb hb=>by
  rcases List.mem_append.1 hb with hb | hb
  simp_all
  ·simp only[zB,zA,or_false]at hb;subst hb
   intro w hw q
   simp_all[p7,qE])
 simp_all
variable {ms:List aq}
theorem Runs.takes(h:Runs t s c p X ms s2 c2 p2):∀b∈X,iK b:=by
 induction h<;>grind[stepP_takes]
def tinyB(k:Nat)(b:ae):Prop:=eU b∧b.Words.length≤k∧b.Comment=[]
theorem tiny_mark{c:Int}(h1:65≤c)(h2:c≤90)(h3:-1000000000000≤n)(h4:n≤1000000000000):tinyB 7 (qE c n):=by
 refine⟨⟨by simp[qE],by simp[qE],λw hw=>?_,by simp[qE]⟩,by simp[qE],rfl⟩
 simp only[qE,zB,zA,or_false]at hw
 subst hw;exact⟨h1,h2,h3,h4⟩
theorem fmt_len150(b:ae)(h:tinyB 8 b):(fmtV b).length≤150:=by
  obtain⟨hv,hw,hc⟩:=h
  have hjA:∀(l:List (List UInt8)),(∀x∈l,x.length≤17)→(jn l).length≤l.length*18:=by
    simp_all[jn_len]
  have:=hjA (b.Words.map wt) (λx hx=>by
    obtain⟨w,hw,rfl⟩:=List.mem_map.1 hx
    obtain⟨_,_,h3,h4⟩:=hv.2.2.1 w hw
    simp_all[txt_len16,wt])
  grind[cmT,fmtV]
theorem prt_len150:∀l:List ae,(∀b∈l,tinyB 8 b)→(prt l).length≤l.length*151
 | [],_=>by simp[prt]
 | b::l,h=>by
  have hp:prt (b::l)=(fmtV b++[10])++prt l:=by simp[prt]
  have ih:=prt_len150 l (λx hx=>h x (by simp[hx]))
  grind[fmt_len150]
theorem emit_ok{p:ag}{l:List bC}(h:wide o)(hp:d8 p)(hok:jS l)(hG:okG p l)(h0:(eW l p 55000).2=0) :
  (∀b∈(eW l p 55000).1,tinyB 8 b)∧(eW l p 55000).1.length≤300:=by
 have hpp:gx p:=by grind[d8,gx,i64P]
 have g:=pJ hok hpp (w:=55000) (by decide)
 obtain⟨X,hX,hXs⟩:=std_plain (w:=55000) hok hpp (by decide) h0
 obtain⟨X0,s1,pm1,p1,p2,p3,p4,_⟩:=run_plain h hp hG h0
 refine⟨λb hb=>?_,by omega⟩
 rw[p1]at hX hb
 obtain rfl:X0=X:=(List.append_inj' hX rfl).1
 rcases List.mem_append.1 hb with hb | hb
 ·exact⟨(p2.takes b hb).1,by have:=(hXs b hb).1;omega,(p3 b hb).2⟩
 ·simp only[zB,zA,or_false]at hb;subst hb
  obtain⟨a,b,c⟩:=tiny_mark (c:=77) (n:=30000) (by omega) (by omega) (by omega) (by omega)
  exact⟨a,Nat.le_trans b (by omega),c⟩
theorem emit_text(h:wide o)(hp:d8 p)(hok:jS l)(hG:okG p l)(h0:(eW l p 55000).2=0) :
  oN l p ⟨55000,false,0,0⟩=some (prt (eW l p 55000).1,0):=by
 have hpp:gx p:=by grind[d8,gx,i64P]
 obtain⟨a2,a3⟩:=emit_ok h hp hok hG h0
 unfold oN
 (first | rw[show ag.mk p.X p.Y p.Z=p from rfl,li hok hpp,aa,qV h0,h0,qU (by simp),print_ok _ (by omega) (λb hb=>(a2 b hb).1),aa] | rw[li hok hpp,aa,qV h0,h0,qU (by simp),print_ok _ (by omega) (λb hb=>(a2 b hb).1),aa])
 have:=prt_len150 _ a2
 grind
theorem emit_err(hp:d8 p)(hok:jS l)(h0:(eW l p 55000).2≠0):oN l p ⟨55000,false,0,0⟩=some ([],(eW l p 55000).2):=by
 have hpp:gx p:=by grind[d8,gx,i64P]
 simp_all[oN,li]
theorem run_text(h:wide o)(hp:d8 p)(hok:jS l)(hG:okG p l)(hl3:l.length≤3)(h0:(eW l p 55000).2=0) :
  ∃ms,qM (prt (eW l p 55000).1) (T53 o) (addP p (offN o 0))=some (ms,⟨-1,0⟩,0)∧ms.map bare0=pZ o (addP p (offN o 0)) l∧ms.length≤20000:=by
 obtain⟨a2,a3⟩:=emit_ok h hp hok hG h0
 obtain⟨q,L,ms,r1,r2,r3,r4⟩:=emit_run h hp hok hG hl3 h0 (λb hb=>(a2 b hb).1)
 obtain⟨_,_,_,_,_,_,hlen,_⟩:=run_plain h hp hG h0
 refine⟨ms,?_,r4,?_⟩
 ·have hin:inR (addP p (offN o 0)):=by
   grind[pq,midQ,inR]
  have hchk:=checked_0 (T53_valid h) hin
  have hpl:=prt_len150 _ a2
  have hvA:∀b∈(eW l p 55000).1,eU b:=λb hb=>(a2 b hb).1
  have hpg:kV (prt (eW l p 55000).1)=some ((eW l p 55000).1,0,0):=by
   obtain⟨w,hw,rfl⟩:=bk_Program_tot (prt (eW l p 55000).1) (by omega) (by grind[count_prt])
   grind[prt_len4,pgV_prt]
  simp_all[qM]
 grind
theorem qq(h:(lD .i64) n):i64P n:=by
 simp_all[lD,Lit.wf,IntKind.min,IntKind.signed,IntKind.bits,i64P]
theorem lastTo_snoc(m:aH):∀(l:List aH) (p:ag),fP p (l++[m])=m.To
 | [],p=>rfl
 | x::l,p=>by rw[zH,fP,lastTo_snoc m l]
theorem qG:∀(l:List aH) (p:ag) (m:aH),l.getLast? = some m→fP p l=m.To
 | [],_,_,h=>by simp at h
 | [y],p,m,h=>by simp at h;subst h;rfl
 | y::z::l,p,m,h=>by
  rw[fP,qG (z::l) _ m (by simp_all)]
theorem r33_End_eq(p:ag)(l:List aH)(hl:l.length≤9223372036854775807):r33_End p l=some (fP p l):=by
 unfold r33_End
 cases hx:l.getLast? with
 | none =>
  have:l=[]:=by simp_all
  subst this;rfl
 | some m =>
  have hne:l≠[]:=by grind
  have hp:0<l.length:=by
   grind
  rw[qU (by simp;omega),aE (by omega) (by omega)]
  have:gt l ((l.length:Int)-1)=some m:=by
   grind[gt_k]
  simp_all[qG]
def fewM(p:ag)(l:List aH):Prop:=∀i m,l[i]? = some m→(∀j m',j≤i→l[j]? = some m'→movV (fP p (l.take j)) m'=0)→(m.Kind=3∨m.Kind=4)→rad (fP p (l.take i)) m.Center≤50000
theorem rad_sum{c:dh}(h:0<rad p c)(b1:-10000000≤p.X∧p.X≤10000000)(b2:-10000000≤p.Y∧p.Y≤10000000)(b3:-10000000≤c.X∧c.X≤10000000)(b4:-10000000≤c.Y∧c.Y≤10000000):∀m:aH,m.Center=c→mH p m=some (rad p c):=by
 intro m hm
 subst hm
 have hs:∀n:Int,-20000000≤n→n≤20000000→pG (zY.wrap n)=some (if n<0 then -n else n):=by
  intro n n1 n2
  unfold pG
  rw[aE (n:=n) (by omega) (by omega)]
  by_cases q:n<0
  ·rw[qV (by simpa using q),qV q,aE (by omega) (by omega)]
   simp_all
  grind
 unfold mH
 rw[hs _ (by omega) (by omega),aa,hs _ (by omega) (by omega),aa]
 congr 1
 have hd:=dir_of h
 grind[aE]
theorem okPos_last(hp:gx p):∀(l:List aH),(∀m∈l,jD m)→gx (fP p l):=by
 intro l h
 cases hx:l.getLast? with
 | none =>
  have:l=[]:=by simp_all
  subst this;exact hp
 | some m =>
  rw[qG l p m hx]
  exact (h m (List.mem_of_getLast? hx)).2.1
theorem r33_Few_tot{l:List aH}(hp:gx p)(hm:∀m∈l,jD m)(hl:l.length≤9223372036854775807):Tot (r33_Few p l 20) (λb=>b=true→l.length≤20∧fewM p l):=by
 (unfold r33_Few;try delta jB jR rF)
 refine Tot.ite (λ_=>.ok (by simp)) (λq=>?_)
 have hl20:l.length≤20:=by grind
 refine Tot.bindX (E:=λ_=>l.length≤20∧fewM p l) (TotX.guard (bn (by omega)) (TotX.of (Tot.range (λi v=>v=fP p (l.take i)∧∀j m,j<i→l[j]? = some m→movV (fP p (l.take j)) m=0∧((m.Kind=3∨m.Kind=4)→rad (fP p (l.take j)) m.Center≤50000)) _ ⟨rfl,λj m h=>by omega⟩ (λi m v hx hr=>?_) (λv hr=>.ok ⟨hl20,λi m hi _ hk=>(hr.2 i m (aF hi) hi).2 hk⟩)))) (λ_ h=>.ok λ_=>h)
 obtain⟨rfl,hr2⟩:=hr
 have hmo:=hm m (List.mem_of_getElem? hx)
 have hpo:=okPos_last hp (l.take i) (λx hx=>hm x (zR hx))
 rw[r33_Valid_eq hpo hmo,aa]
 refine TotX.ite (λq1=>.ret (λ_=>⟨hl20,λk m' hk hall hkk=>?_⟩)) (λq1=>?_)
 grind
 ·have hv:movV (fP p (l.take i)) m=0:=by simp_all
  refine TotX.bind (E:=λb=>b=false→((m.Kind=3∨m.Kind=4)→rad (fP p (l.take i)) m.Center≤50000)) ?_ (λb hb=>TotX.ite (λ_=>.ret (λh=>by cases h)) (λq2=>.go ⟨?_,λj m' hj hm'=>?_⟩))
  ·(unfold r33_arc;try delta jV)
   rw[aa]
   refine Tot.ite (λq2=>?_) (λq2=>.ok (λ_ k=>?_))
   ·have hk:m.Kind=3∨m.Kind=4:=by simp_all
    have ok:=arc_ok hk hv
    rw[rad_sum ok.r0 ok.p1 ok.p2 ok.c1 ok.c2 m rfl,aa]
    exact .ok (λh _=>by simp_all)
   simp_all
  simp_all[zJ,lastTo_snoc]
  grind
theorem fewM_cons{r:List aH}(hv:movV p m=0)(h:fewM p (m::r)):((m.Kind=3∨m.Kind=4)→rad p m.Center≤50000)∧fewM m.To r:=by
 constructor
 ·intro k
  refine h 0 m rfl (λj m' hj hm'=>?_) k
  obtain rfl:j=0:=by omega
  simp at hm';subst hm';exact hv
 ·intro i m' hi hall hk
  refine h (i+1) m' (by simp_all) (λj x hj hx=>?_) hk
  cases j with
  | zero=>simp at hx;subst hx;exact hv
  | succ j=>exact hall j x (by omega) (by simp_all)
theorem okM_of:∀(l:List aH) (p:ag) (v:List ae×ag),ft p l=.go v→fewM p l→(∀m∈l,d8 m.To)→okM p l
 | [],_,_,_,_,_=>trivial
 | m::r,p,v,hv,hf,ht=>by
  rw[ft]at hv
  by_cases hm0:(movB p m).2=0
  ·rw[qV hm0]at hv
   cases hq:ft m.To r with
   | ret e=>simp_all
   | go u =>
    obtain⟨a1,a2⟩:=fewM_cons (movB_go hm0).1 hf
    exact⟨ht m (by simp),a1,okM_of r m.To u hq a2 (λx hx=>ht x (by simp[hx]))⟩
  simp_all
def fewS:ag→List bC→Prop
 | _,[]=>True
 | p,s::r=>(1≤s.Tool∧s.Tool≤9)∧s.Moves.length≤20∧fewM p s.Moves∧(∀m∈s.Moves,d8 m.To)∧fewS (fP p s.Moves) r
theorem qD:∀(l:List aH) (p:ag) (v:List ae×ag),ft p l=.go v→v.2=fP p l
 | [],p,v,h=>by injection h with h;subst h;rfl
 | m::r,p,v,hv=>by
  rw[ft]at hv
  by_cases hm0:(movB p m).2=0
  ·rw[qV hm0]at hv
   cases hq:ft m.To r with
   | ret e=>simp_all
   | go u =>
    rw[hq]at hv
    injection hv with hv;subst hv
    exact qD r m.To u hq
  simp_all
theorem okG_of:∀(l:List bC) (p:ag) (v:List ae×ag),eR p l=.go v→fewS p l→okG p l
 | [],_,_,_,_=>trivial
 | s::r,p,v,hv,hf=>by
  rw[eR]at hv
  obtain⟨f1,f2,f3,f4,f5⟩:=hf
  by_cases hc:(chgV s.Tool).2=0
  ·rw[qV hc]at hv
   cases hq:ft p s.Moves with
   | ret e=>simp_all
   | go u =>
    rw[hq]at hv
    simp only at hv
    cases hq2:eR u.2 r with
    | ret e=>simp_all
    | go w =>
     have hu:=qD _ _ _ hq
     exact⟨f1,f2,okM_of _ _ _ hq f3 f4,okG_of r _ w (by simp_all) f5⟩
  simp_all
theorem fewS_of:∀(l:List bC) (p:ag),(∀(i:Nat) s,l[i]? = some s→(1≤s.Tool∧s.Tool≤9)∧s.Moves.length≤20∧fewM ((l.take i).foldl (λq s=>fP q s.Moves) p) s.Moves∧∀m∈s.Moves,d8 m.To)→fewS p l
 | [],_,_=>trivial
 | s::r,p,h=>by
  obtain⟨a1,a2,a3,a4⟩:=h 0 s rfl
  refine⟨a1,a2,a3,a4,fewS_of r _ λi x hx=>?_⟩
  exact h (i+1) x (by simp_all)
theorem map_onto{α β:Type}(g:α→β)(l:List α)(hl:l.length≤1000000)(o:List β)(ho:o.length≤1000000):(aA (dN l) (aM (λ(i:Nat) (e:α) (v:List β)=>aA (cd (v.length+1)) (some (.go (v++[g e])))) (λv=>some v) l 0 o))=some (o++l.map g):=by
 rw[bn (by omega),aX,kO (g:=λ(v:List β) e=>v++[g e]) (R:=λi v=>v.length=o.length+i) (L:=l) ?_ l 0 o rfl (by simp)]
 ·congr 1
  have:∀(l:List α) (o:List β),l.foldl (λv e=>v++[g e]) o=o++l.map g:=by
   intro l
   induction l<;>simp_all
  simp_all
 grind[br,aX]
structure Few53 (j:ck):Prop where
 len:j.Stages.length≤3
 start:d8 j.Start
 offset:d8 j.Offset
 stages:fewS j.Start j.Stages
 ok:jS j.Stages
def okJob(j:ck):Prop:=j.Stages.length≤9223372036854775807∧gx j.Start∧gx j.Offset∧∀s∈j.Stages,s.Moves.length≤9223372036854775807∧∀m∈s.Moves,jD m
theorem foldS_ok{p:ag}(hp:gx p):∀(l:List bC),(∀s∈l,∀m∈s.Moves,jD m)→gx (l.foldl (λq s=>fP q s.Moves) p)
 | [],_=>hp
 | s::r,h=>by
  rw[List.foldl_cons]
  exact foldS_ok (okPos_last hp s.Moves (h s (by simp))) r (λx hx=>h x (by simp[hx]))
theorem few53_tot{j:ck}(hj:okJob j):Tot (my j) (λb=>b=true→Few53 j):=by
  obtain⟨hl,hp,ho,hs⟩:=hj
  (unfold my;try delta jB jR rF jV)
  refine Tot.ite (λ_=>.ok (by simp)) (λq=>?_)
  have hl3:j.Stages.length≤3:=by grind
  refine Tot.bindX (E:=λv=>v.1=[j.Start,j.Offset]++j.Stages.flatMap (λs=>s.Moves.map (·.To))∧v.1.length≤100∧∀(k:Nat) s,j.Stages[k]? = some s→(1≤s.Tool∧s.Tool≤9)∧s.Moves.length≤20∧fewM ((j.Stages.take k).foldl (λq s=>fP q s.Moves) j.Start) s.Moves) (TotX.guard (bn hl) (TotX.of (Tot.range (λi v=>v.1=[j.Start,j.Offset]++(j.Stages.take i).flatMap (λs=>s.Moves.map (·.To))∧v.2=(j.Stages.take i).foldl (λq s=>fP q s.Moves) j.Start∧v.1.length≤2+20*i∧∀(k:Nat) s,k<i→j.Stages[k]? = some s→(1≤s.Tool∧s.Tool≤9)∧s.Moves.length≤20∧fewM ((j.Stages.take k).foldl (λq s=>fP q s.Moves) j.Start) s.Moves) _ ⟨by simp,rfl,by simp,λk s h=>by omega⟩ (λi s v hx hr=>?_) (λv hr=>.ok ?_)))) (λv hv=>?_)
  · obtain⟨v1,v2⟩:=v
    obtain⟨e1,e2,e3,e4⟩:=hr
    simp only at e1 e2 e3
    subst e2
    obtain⟨hml,hmm⟩:=hs s (List.mem_of_getElem? hx)
    have hi:=aF hx
    have hpo:=foldS_ok hp (j.Stages.take i) (λx hx=>(hs x (zR hx)).2)
    refine TotX.bindX (E:=λv=>v.1=[j.Start,j.Offset]++(j.Stages.take (i+1)).flatMap (λs=>s.Moves.map (·.To))∧v.2=(j.Stages.take (i+1)).foldl (λq s=>fP q s.Moves) j.Start∧v.1.length≤2+20*(i+1)∧(1≤s.Tool∧s.Tool≤9)∧s.Moves.length≤20∧fewM ((j.Stages.take i).foldl (λq s=>fP q s.Moves) j.Start) s.Moves) ?_ (λw hw=>.go ⟨hw.1,hw.2.1,hw.2.2.1,λk x hk hx'=>?_⟩)
    · refine TotX.bind (E:=λb=>b=false→(1≤s.Tool∧s.Tool≤9)∧s.Moves.length≤20∧fewM ((j.Stages.take i).foldl (λq s=>fP q s.Moves) j.Start) s.Moves) (Tot.ite (λ_=>.ok (by simp)) (λq1=>Tot.ite (λ_=>.ok (by simp)) (λq2=>Tot.bind (r33_Few_tot hpo hmm hml) λb hb=>.ok (λh=>?_)))) (λb hb=>TotX.ite (λ_=>.ret (λh=>by cases h)) (λq3=>?_))
      simp_all
      · have hb':=hb q3
        simp only
        rw[map_onto (λe2:aH=>e2.To) s.Moves (by omega) v1 (by omega),aa,r33_End_eq _ _ hml,aa]
        refine .go ⟨?_,?_,?_,hb'⟩<;>grind[zJ]
    grind
  grind
  · obtain⟨e1,e2,e3⟩:=hv
    refine Tot.bindX (E:=λ_=>∀q∈v.1,d8 q) (TotX.guard (bn (by omega)) (TotX.of (Tot.range (λi _=>∀q∈v.1.take i,d8 q) _ (by simp) (λi q w hx hr=>?_) (λw hr=>.ok (by grind))))) (λ_ hq=>.ok (λ_=>?_))
    · refine TotX.bindX (E:=λ_=>d8 q) (TotX.ite (λ_=>.ret (λh=>by cases h)) (λq1=>TotX.ite (λ_=>.ret (λh=>by cases h)) (λq2=>TotX.ite (λ_=>.ret (λh=>by cases h)) (λq3=>.go ?_)))) (λ_ ht=>.go (λx hx'=>?_))
      simp_all[d8]
      grind[zJ]
    · rw[e1]at hq
      have ht:∀s∈j.Stages,∀m∈s.Moves,d8 m.To:=λs hs' m hm=>hq m.To (by
        grind)
      refine⟨hl3,hq _ (by simp),hq _ (by simp),fewS_of _ _ λi s hi=>?_,by omega,λs hs'=>?_⟩
      grind
      · obtain⟨i,hi⟩:=List.mem_iff_getElem?.1 hs'
        obtain⟨a1,a2,a3⟩:=e3 i s hi
        exact⟨by omega,(hs s hs').2⟩
theorem awake53p:kY=some true:=by kernel_rfl
theorem lengths53_eq(o:ag):gU o=some (T53 o):=rfl
theorem in_u8(h:(lD .u8) n):0≤n∧n≤255:=by
 simp_all[lD,Lit.wf,IntKind.min,IntKind.max,IntKind.signed,IntKind.bits]
theorem plain_go(h:(eW l p 55000).2=0):∃v,eR p l=.go v:=by
 unfold eW at h
 by_cases hf:(farP p.X||farP p.Y||farP p.Z)=true
 simp_all
 ·rw[qU hf]at h
  grind[pA]
theorem add_off(hp:d8 p)(ho:wide o):ag.mk (zY.wrap (p.X+o.X)) (zY.wrap (p.Y+o.Y)) (zY.wrap (p.Z+o.Z))=addP p (offN o 0):=by
 grind[d8,wide,aE,addP,offN,lenT]
theorem posEq_mv(p q b:ag):posEq (addP p b) (addP q b)=posEq p q:=by
 unfold posEq addP
 grind
theorem addP_comm3(x d b:ag):addP x (addP d b)=addP (addP x d) b:=by
 grind[addP]
theorem offN_mv(o b:ag)(n:Int):offN (addP o b) n=addP (offN o n) b:=by
 grind[offN,addP]
theorem subP_mv(p d b:ag):subP (addP p b) (addP d b)=subP p d:=by
 grind[subP,addP]
theorem chn_mv(d b:ag)(n:Int):∀(L:List ar) (p:ag),(chn (addP d b) n (addP p b) L).map cutM=((chn d n p L).map cutM).map λk=>mvC k b.X b.Y b.Z
 | [],p=>rfl
 | x::l,p=>by
  rw[chn,chn,addP_comm3,posEq_mv,zG,zG,zG,chn_mv d b n l]
  congr 1
  split<;>rfl
theorem lastP_mv(d b:ag):∀(L:List ar) (p:ag),jd (addP d b) (addP p b) L=addP (jd d p L) b
 | [],p=>rfl
 | x::l,p=>by rw[jd,jd,addP_comm3,lastP_mv d b l]
theorem mots_mv(o b:ag):∀(l:List bC) (pm:ag),(pZ (addP o b) (addP pm b) l).map cutM=((pZ o pm l).map cutM).map λk=>mvC k b.X b.Y b.Z
 | [],pm=>rfl
 | s::r,pm=>by
  rw[pZ,pZ,offN_mv,subP_mv,zG,zG,zG,chn_mv,lastP_mv,mots_mv o b r]
theorem cut_bare(l:List aq):(l.map bare0).map cutM=l.map cutM:=by rw[List.map_map];rfl
def lowZ(q:ag):Prop:=-150000≤q.Z∧q.Z≤150000
theorem part_z{d t N:Int}(ht:0≤t)(hN:t≤N)(h0:0<N):(0≤d→0≤d*t / N∧d*t / N≤d)∧(d≤0→d≤d*t / N∧d*t / N≤0):=by
 constructor
 ·intro hd
  have a1:0≤d*t:=zO hd ht
  have a2:d*t≤d*N:=zD hN hd
  exact⟨zW a1 (by omega),zQ h0 a2⟩
 ·intro hd
  have b1:-d*t≤-d*N:=zD hN (by omega)
  have b2:0≤-d*t:=zO (by omega) ht
  simp_all[Int.neg_mul,zL,zQ]
theorem arc_z{p:ag}{m:aH}(hp:lowZ p)(ht:lowZ m.To):∀q∈arcL p m,lowZ q:=by
 intro q hq
 obtain⟨i,hi,rfl⟩:=List.mem_map.1 hq
 rw[List.mem_range]at hi
 have h:=part_z (d:=m.To.Z-p.Z) (t:=((i+1:Nat):Int)) (N:=((arcN p m*arcQ p m:Nat):Int)) (by omega) (by omega) (by omega)
 grind[lowZ,arcPt]
theorem reach_z{p:ag}{m:aH}(hp:lowZ p)(ht:lowZ m.To):∀x∈ld p m,lowZ x.at_:=by
 grind[ld,arc_z]
theorem tenth_low(h:d8 p):lowZ p:=by grind[d8,lowZ]
theorem ways_ok:∀(l:List aH) (p pw:ag) (v:List ae×ag),ft p l=.go v→okM p l→pw.X=p.X→pw.Y=p.Y→d9 pw→lowZ pw →
  (∀x∈nh pw l,d9 x.at_∧lowZ x.at_)∧∃q,(∀d,jd d (addP pw d) (nh pw l)=addP q d)∧((l=[]∧q=pw)∨(q=fP p l∧d8 q))
 | [],p,pw,v,hv,hok,hx,hy,hs,hz=>⟨λx h=>(by cases h),pw,λd=>rfl,.inl ⟨rfl,rfl⟩⟩
 | m::r,p,pw,v,hv,hok,hx,hy,hs,hz=>by
  rw[ft]at hv
  by_cases hm0:(movB p m).2=0
  ·rw[qV hm0]at hv
   cases hq:ft m.To r with
   | ret e=>simp_all
   | go u =>
    obtain⟨ht,hr,hok'⟩:=hok
    have hvw:=movV_congr (q:=pw) hx hy (small_far hs).2.2 (movB_go hm0).1
    obtain⟨f1,f2,f3⟩:=qB hvw hs ht (λk=>by grind[rad_congr])
    obtain⟨g1,q,g2,g3⟩:=ways_ok r m.To m.To u hq hok' rfl rfl (kZ ht) (tenth_low ht)
    refine⟨λx h=>?_,q,λd=>?_,.inr ?_⟩
    grind[nh,reach_z,tenth_low]
    simp_all[nh,lastP_app]
    ·rcases g3 with⟨rfl,rfl⟩ | g3
     ·exact⟨rfl,ht⟩
     ·exact g3
  simp_all
theorem chn_mem{d:ag}{n:Int}:∀(L:List ar) (p:ag) (m:aq),m∈chn d n p L→m.Tool=n∧(m.From=p∨∃x∈L,m.From=addP x.at_ d)∧∃x∈L,m.To=addP x.at_ d
 | [],p,m,h=>by cases h
 | x::l,p,m,h=>by
  rw[chn]at h
  rcases List.mem_append.1 h with h | h
  simp_all
  ·obtain⟨a1,a2,y,a3,a4⟩:=chn_mem l _ m h
   grind
def machQ(o q:ag):Prop:=(-1400000≤q.X∧q.X≤1400000)∧(-1400000≤q.Y∧q.Y≤1400000)∧-260000≤q.Z-o.Z∧q.Z-o.Z≤260000
theorem mot_of{b:ag}{m:aq}(ho:d8 o)(hb:d8 b)(h0:1≤m.Tool)(h9:m.Tool≤9)(h1:machQ o m.From)(h2:machQ o m.To):MotOk m b:=by
 unfold machQ at h1 h2;unfold d8 at ho hb
 refine⟨h0,h9,⟨?_,?_,?_⟩,⟨?_,?_,?_⟩,⟨?_,?_,?_⟩,⟨?_,?_,?_⟩,?_,?_⟩
 all_goals (try unfold Nr)
 all_goals omega
theorem mots_ok{o b:ag}(ho:d8 o)(hb:d8 b):∀(l:List bC) (p pm:ag) (v:List ae×ag),eR p l=.go v→okG p l→pm.X=p.X+o.X→pm.Y=p.Y+o.Y→midQ pm→(-120000≤pm.Z-o.Z∧pm.Z-o.Z≤120000)→d8 p→∀m∈pZ o pm l,MotOk m b
 | [],p,pm,v,hv,_,_,_,_,_,_=>λm h=>by cases h
 | g::r,p,pm,v,hv,hok,hx,hy,hm,hz,hp=>by
  rw[eR]at hv
  obtain⟨⟨h0,h9⟩,hml,hom,hor⟩:=hok
  by_cases hc:(chgV g.Tool).2=0
  ·rw[qV hc]at hv
   cases hq:ft p g.Moves with
   | ret e=>simp_all
   | go u =>
    rw[hq]at hv
    simp only at hv
    cases hq2:eR u.2 r with
    | ret e=>simp_all
    | go w =>
     have hl0:0≤lenT g.Tool∧lenT g.Tool≤19000:=by grind[lenT]
     have hsub:addP (subP pm (offN o g.Tool)) (offN o g.Tool)=pm:=add_sub _ _
     have hwx:(subP pm (offN o g.Tool)).X=p.X:=by simp_all[subP,offN]
     have hwy:(subP pm (offN o g.Tool)).Y=p.Y:=by simp_all[subP,offN]
     have hlz:lowZ (subP pm (offN o g.Tool)):=by grind[lowZ,subP,offN]
     obtain⟨a1,q,a2,a3⟩:=ways_ok g.Moves p (subP pm (offN o g.Tool)) u hq hom hwx hwy (mid_work hm ho.wide (by omega) h9) hlz
     have a2':=a2 (offN o g.Tool)
     rw[hsub]at a2'
     have hmach:∀x∈nh (subP pm (offN o g.Tool)) g.Moves,machQ o (addP x.at_ (offN o g.Tool)):=by
      grind[d9,lowZ,d8,machQ,addP,offN]
     have hpm:machQ o pm:=by grind[midQ,machQ]
     have hlast:=qD _ _ _ hq
     intro m hmem
     rw[pZ]at hmem
     rcases List.mem_append.1 hmem with hmem | hmem
     grind[chn_mem,mot_of]
     ·rw[a2']at hmem
      rw[←hlast]at hor
      rcases a3 with⟨e1,e2⟩|⟨e1,e2⟩
      ·rw[e2,hsub]at hmem
       have e3:u.2=p:=by rw[hlast,e1];rfl
       rw[e3]at hq2 hor
       exact mots_ok ho hb r p pm w hq2 hor hx hy hm hz hp m hmem
      ·rw[←hlast]at e1
       subst e1
       refine mots_ok ho hb r u.2 _ w hq2 hor rfl rfl (pq e2 ho.wide (by omega) h9) ?_ e2 m hmem
       grind[d8,addP,offN]
  simp_all
end Go.Proofs.YtphbhdoljnokkaaGreatDoor
