import Derived.Test.YtphbhdoljnokkaaGreatDoorG1
import Derived.Test.YtphbhdoljnokkaaGreatDoorTy
import Derived.Shelf.Strings.Builder1
open List renaming eq_nil_of_length_eq_zero → zA,replicate → zD
open Nat renaming le_refl → zB
namespace Go.Proofs.YtphbhdoljnokkaaGreatDoor
open Go.RowKit
open Nat renaming reduceAdd → nA,reduceSub → nS,reduceMul → nM,reduceEqDiff → nE,reduceLeDiff → nL,reduceLT → nT,reduceBEq → nB
open Int renaming reduceLT → iT,reduceToNat → iN,reduceEq → iE
set_option linter.unusedVariables false
set_option linter.unusedSimpArgs false
set_option maxRecDepth 100000
def ccRen:Go.Shelf.Ren:=⟨λ| 240=>135 | 276=>203 | n=>n,λ| 70=>131 | 9=>9 | 4=>4 | 0=>0 | 72=>134 | 164=>287 | 20=>20 | 37=>132 | n=>n,λ| n=>n⟩
theorem ccLays:Go.Proofs.Lays.n240 Tryz.prog ccRen:={
 mixed:=by kernel_rfl
 f240:=Tryz.func135.trans (congrArg some (by kernel_rfl))
 f276:=Tryz.func203.trans (congrArg some (by kernel_rfl))
 t0:=Tryz.underlying0,a0:=Tryz.isAgg0,z0:=Tryz.sizeOf0,v0:=Tryz.zeroValue0
 t4:=Tryz.underlying4,a4:=Tryz.isAgg4,z4:=Tryz.sizeOf4,v4:=Tryz.zeroValue4
 t9:=Tryz.underlying9,a9:=Tryz.isAgg9,z9:=Tryz.sizeOf9,v9:=Tryz.zeroValue9
 t20:=Tryz.underlying20,a20:=Tryz.isAgg20,z20:=Tryz.sizeOf20,v20:=Tryz.zeroValue20
 t70:=Tryz.underlying131,a70:=Tryz.isAgg131,z70:=Tryz.sizeOf131,v70:=Tryz.zeroValue131
 t72:=Tryz.underlying134,a72:=Tryz.isAgg134,z72:=Tryz.sizeOf134,v72:=Tryz.zeroValue134
 t164:=Tryz.underlying287,a164:=Tryz.isAgg287,z164:=Tryz.sizeOf287,v164:=Tryz.zeroValue287 }
theorem ccX72:Builder.X72 Tryz.prog ccRen:={ sizeBuilder:=by kernel_rfl,liesBuilder:=by kernel_rfl }
theorem cc_calls(b:Nat)(v0 v1:Value)(w:World)(hb:w.heap[b]? = some (.cells ⟨[v0,v1]⟩ bT (0,0)))(hv:v0=.pointer none∨v0=.pointer (some ⟨b,0,none⟩)) :
  Calls Tryz.prog 135 #[.pointer (some ⟨b,0,none⟩)] w λe w'=>e=.returned (.tuple #[])∧w.grownBy w' (some b)∧w'.heap[b]? = some (.cells ⟨[.pointer (some ⟨b,0,none⟩),v1]⟩ bT (0,0)):=by
 have hc0:w.cell? ⟨b,0,none⟩=some v0:=by rw[cell_of_row w b 0 ⟨[v0,v1]⟩ bT (0,0) hb];rfl
 rcases hv with rfl | rfl
 ·refine (Any.Builder_copyCheck_fresh ccLays ccX72 b w hc0 (by simp only[World.shape?,hb];rfl) (by simp[World.frozen?,hb])).mono ?_
  rintro e w' ⟨rfl,rfl⟩
  have hlt:=heap_lt' hb
  refine⟨rfl,⟨rfl,rfl,rfl,by simp[World.setCell],λk hk hn=>?_⟩,?_⟩<;>grind[World.setCell]
 ·refine (Any.Builder_copyCheck_used ccLays ccX72 b w hc0).mono ?_
  rintro e w' ⟨rfl,rfl⟩
  exact⟨rfl,⟨rfl,rfl,rfl,zB _,λ_ _ _=>rfl⟩,hb⟩
variable {k:Nat}{s:Sg}
theorem bld_at{w0 w:World}{G:Cx}{c1:V}(h:HR Tryz.prog w0 w G s)(ho:s.obs[k]? = some [.adr k,c1]) :
  ∃b v0 v1,G.ob k=some b∧w0.heap.size≤b∧w.heap[b]? = some (.cells ⟨[v0,v1]⟩ bT (0,0))∧(v0=.pointer none∨v0=.pointer (some ⟨b,0,none⟩))∧rel G (.adr k) v0∧rel G c1 v1:=by
 have hm:G.mp k=none:=by
  cases hq:G.mp k with
  | none=>rfl
  | some b=>obtain⟨_,_,_,_,_,h2,_⟩:=h.mpl k b hq;simp_all
 have hr:G.rv k=none:=by
  cases hq:G.rv k with
  | none=>rfl
  | some L=>obtain⟨_,_,_,h2,_⟩:=h.rvl k L hq;simp_all
 obtain⟨b,vs,t,q1,q2,q3,q4,q5⟩:=h.obl k _ ho hm hr
 match vs,q4 with
 | [v0,v1],q4 =>
  obtain⟨r0,r1⟩:=aV q4
  obtain⟨r1,_⟩:=aV r1
  have r0':=r0
  cases r0' with
  | adr _ _ b' e1 e2 e3 =>
   rw[q1]at e1;injection e1 with e1;subst e1
   have ht:=h.tgs _ _ e2
   grind[nq]
 | [],q4=>have:=q4.1;simp at this
 | [_],q4=>have:=q4.1;simp at this
 | _::_::_::_,q4=>have:=q4.1;simp at this
variable {R:V→Sg→Prop}
theorem specS_cc{c1:V}(ho:s.obs[k]? = some [.adr k,c1])(h:R (.tuple []) s):bf gP 135 [.ptr k 0] s R:=by
 refine⟨by kernel_rfl,λw0 w G vs hH hr=>?_⟩
 match vs,hr with
 | [v],hr =>
  obtain⟨r,_⟩:=aV hr
  obtain⟨b,v0,v1,q1,q2,q3,q4,r0,r1⟩:=bld_at hH ho
  obtain⟨b',hb',rfl⟩:=ly r
  rw[q1]at hb';injection hb' with hb';subst hb'
  refine (cc_calls b v0 v1 w q3 q4).mono ?_
  rintro e w' ⟨rfl,hg,hb⟩
  have hT:=hH.tgs b bT (by cases r0<;>simp_all)
  have hrels:rels G [.adr k,c1] [.pointer (some ⟨b,0,none⟩),v1]:=by
   refine dM ?_ (dM r1 (i6 _))
   cases r0 with
   | adr _ _ b2 e1 e2 _=>rw[q1]at e1;injection e1 with e1;subst e1;exact .adr _ _ b q1 e2 (.inr rfl)
  have hN:=HRp.put hH q1 hg (nk hg λt' q'=>by simp_all[nq]) hb hrels
  rw[sg_set ho]at hN
  have e1:s.obs.set k [.adr k,c1]=s.obs:=List.ext_getElem? λj=>by
   grind
  rw[e1]at hN
  exact⟨_,.tuple [],s,G,rfl,Cx.le.refl G,hN,.tuple [] [] rfl (λi x v h=>by simp at h),h⟩
 | [],hr=>have:=hr.1;simp at this
 | _::_::_,hr=>have:=hr.1;simp at this
theorem lit_nilI:lit .nilIface=.d (.other .nilIface):=nr rfl
variable {es:List (List D)}{l:List UInt8}{t:Nat}
theorem specS_ws(ho:s.obs[k]? = some [.adr k,.own t es])(hl:s.lns[t]? = some (5,es.length))(hb:cd (es.length+l.length)=true)
  (h:R (.tuple [.d (.int .i64 (l.length:Int)),.d (.other .nilIface)]) ⟨s.obs.set k [.adr k,.own t (es++l.map lO)],s.lns.set t (5,es.length+l.length)⟩):bf gP 54 [.ptr k 0,.d (.str l)] s R:=by
 obtain⟨ob,ln⟩:=s
 simp only at ho hl h
 refine nt Tryz.func54 rfl (by kernel_rfl) (by kernel_rfl) ?_
 simp only[zD,List.length,nS,nA,Tryz.ntmps54,SV]
 refine SWs.seq (SWs.region ?_)
 simp only[↓reduceIte,reduceCtorEq,nA,nS,nM,nE,nL,nT,nB,iT,iN,iE,and_self,SR,SV,lit_nilI,SL]
 refine SWs.seq (SWs.region ?_)
 simp only[↓reduceIte,reduceCtorEq,nA,nS,nM,nE,nL,nT,nB,iT,iN,iE,and_self,SR,SV]
 refine specS_cc ho ?_
 simp only[↓reduceIte,reduceCtorEq,nA,nS,nM,nE,nL,nT,nB,iT,iN,iE,and_self,SR,SV,SL]
 refine SWs.seq (SWs.regionW ?_)
 refine regW.alt 6 rfl ?_
 simp only[↓reduceIte,reduceCtorEq,nA,nS,nM,nE,nL,nT,nB,iT,iN,iE,and_self,SR,SV,w_none,w_eq,and_true,true_and,tkS,tk0,tkN,dpS,dp0,fld_134_1,sz_132,ag_132,ho]
 refine alt_appStr rfl rfl (by kernel_rfl) Tryz.underlying9 hl hb ?_
 refine regW.of ?_
 simp only[↓reduceIte,reduceCtorEq,nA,nS,nM,nE,nL,nT,nB,iT,iN,iE,and_self,SR,SV,w_none,w_eq,and_true,true_and,tkS,tk0,tkN,dpS,dp0,fld_134_1,sz_132,ag_132,ho,SL]
 refine SWs.seq (SWs.region ?_)
 simp only[↓reduceIte,reduceCtorEq,nA,nS,nM,nE,nL,nT,nB,iT,iN,iE,and_self,SR,SV,und_9,lit_nilI,SL]
 simp_all[SWs.ret,SL]
theorem specS_wb {b:UInt8} {c:Int} (hc : c = (b.toNat : Int))    {R:V → Sg → Prop} (ho : s.obs[k]? = some [.adr k, .own t es]) (hl : s.lns[t]? = some (5, es.length)) (hb : cd (es.length + 1) = true)
   (h:R (.d (.other .nilIface)) ⟨s.obs.set k [.adr k,.own t (es++[lO b])],s.lns.set t (5,es.length+1)⟩):bf gP 55 [.ptr k 0,.d (.int .u8 c)] s R:=by
 obtain⟨ob,ln⟩:=s
 simp only at ho hl h
 have hlt:t<ln.length:=aF hl
 subst hc
 refine nt Tryz.func55 rfl (by kernel_rfl) (by kernel_rfl) ?_
 simp only[zD,List.length,nS,nA,Tryz.ntmps55,SV]
 refine SWs.seq (SWs.region ?_)
 simp only[↓reduceIte,reduceCtorEq,nA,nS,nM,nE,nL,nT,nB,iT,iN,iE,and_self,SR,SV,lit_nilI,SL]
 refine SWs.seq (SWs.region ?_)
 simp only[↓reduceIte,reduceCtorEq,nA,nS,nM,nE,nL,nT,nB,iT,iN,iE,and_self,SR,SV]
 refine specS_cc ho ?_
 simp only[↓reduceIte,reduceCtorEq,nA,nS,nM,nE,nL,nT,nB,iT,iN,iE,and_self,SR,SV,SL]
 refine SWs.seq (SWs.region ?_)
 simp only[↓reduceIte,reduceCtorEq,nA,nS,nM,nE,nL,nT,nB,iT,iN,iE,and_self,SR,SV,fld_134_1,sz_132,ag_132,ho,hl,hb,hlt,und_132,sz_5,zero_5,app_132,(nr rfl:cd 1=true),List.all_cons,List.all_nil,beq_self_eq_true,SL]
 refine SWs.seq (SWs.region ?_)
 simp only[↓reduceIte,reduceCtorEq,nA,nS,nM,nE,nL,nT,nB,iT,iN,iE,and_self,SR,SV,lit_nilI,SL]
 refine SWs.ret ?_
 simp only[SL,Tryz.results55]
 exact h
theorem freeze_at(w:World)(g n:Nat){cur:Array Value}{e:TypeId}(hg:w.heap[g]? = some (.cells cur e (0,0))):w.grownBy (w.freeze ⟨g,0,none⟩ n) (some g)∧(∀o,(w.freeze ⟨g,0,none⟩ n).cell? ⟨g,o,none⟩=w.cell? ⟨g,o,none⟩)∧nq (w.freeze ⟨g,0,none⟩ n) g=some e:=by
 have hm:∃z,(w.freeze ⟨g,0,none⟩ n).heap[g]? = some (.cells cur e z):=by
  unfold World.freeze
  grind
 obtain⟨z,hm⟩:=hm
 refine⟨?_,λo=>?_,?_⟩
 ·unfold World.freeze
  split
  ·exact⟨rfl,rfl,rfl,zB _,λ_ _ _=>rfl⟩
  ·refine⟨rfl,rfl,rfl,by simp,λk hk hn=>?_⟩
   grind
 simp_all[World.cell?]
 simp_all[nq]
theorem st_calls(b:Nat)(v0 v1:Value)(w:World)(B:Nat)(l:List UInt8)(hb:w.heap[b]? = some (.cells ⟨[v0,v1]⟩ bT (0,0)))(hown:w.ownsRow B 5 1 v1 l.length (Lib.byteCells l)) :
  Calls Tryz.prog 56 #[.pointer (some ⟨b,0,none⟩)] w λe w'=>e=.returned (.string ⟨l.toArray⟩)∧w.grownBy w' v1.ownBlock∧(∀g o,v1.ownBlock=some g→w'.cell? ⟨g,o,none⟩=w.cell? ⟨g,o,none⟩)∧TK w w':=by
 have hUS0:∀(W:World) (q:Option Addr),(Builtin.unsafeString_ #[228,3] 9 #[.pointer q,.int .i64 0]).run Tryz.prog W=.ok (.string .empty) W:=λW q=>Lib.run_unsafeString_none W _ _ _ q
 have c1:w.drew.cell? ⟨b,1,none⟩=some v1:=by
  have:w.drew.heap[b]? = some (.cells ⟨[v0,v1]⟩ bT (0,0)):=hb
  rw[cell_of_row w.drew b 1 _ _ _ this];rfl
 rcases hown.2 with⟨rfl,hz⟩|⟨g,cap,cur,rfl,hbg,hg,hnc,hcm,hcs,htake⟩
 ·have:l=[]:=zA hz
  subst this
  have hSD:(Builtin.unsafeSliceData_ #[132] 228 #[.slice none 0 0]).run Tryz.prog w.drew=.ok (.pointer none) w.drew:=rfl
  have hUS:=hUS0 w.drew none
  go_enter Tryz.func56,Tryz.ntmps56
  go_wp2
  go_region
  all_goals (go_wp2;go_ret;exact⟨rfl,⟨rfl,rfl,rfl,zB _,λ_ _ _=>rfl⟩,λ_ _ _=>rfl,λ_ _ q=>q⟩)
 ·by_cases hl0:l.length=0
  ·have:l=[]:=zA hl0
   subst this
   by_cases hcap:cap=0
   ·subst hcap
    have hSD:(Builtin.unsafeSliceData_ #[132] 228 #[.slice (some ⟨g,0,none⟩) 0 0]).run Tryz.prog w.drew=.ok (.pointer (some ⟨w.drew.heap.size,0,none⟩)) (w.drew.alloc (.view ⟨g,0,none⟩ 5)) :=
     Lib.run_unsafeSliceData_zero w.drew _ _ 5 Tryz.underlying228 ⟨g,0,none⟩ 0 (5,cur.size) (by have hg':w.drew.heap[g]? = some (.cells cur 5 (0,0)):=hg;grind[World.shape?])
    have hlt:=heap_lt' hb
    have c2:(w.drew.alloc (.view ⟨g,0,none⟩ 5)).cell? ⟨b,1,none⟩=some (.slice (some ⟨g,0,none⟩) 0 0):=by
     have:(w.drew.alloc (.view ⟨g,0,none⟩ 5)).heap[b]? = some (.cells ⟨[v0,.slice (some ⟨g,0,none⟩) 0 0]⟩ bT (0,0)):=(heap_alloc_old w.drew _ hlt).trans hb
     rw[cell_of_row _ b 1 _ _ _ this];rfl
    have c3:(w.alloc (.view ⟨g,0,none⟩ 5)).drew.cell? ⟨b,1,none⟩=some (.slice (some ⟨g,0,none⟩) 0 0):=c2
    have c0:w.cell? ⟨b,1,none⟩=some (.slice (some ⟨g,0,none⟩) 0 0):=c1
    have hUS:=hUS0
    have hk:Kp w (w.drew.alloc (.view ⟨g,0,none⟩ 5)):=((Kp.refl w).drew).alloc _
    have hg2:w.grownBy (w.drew.alloc (.view ⟨g,0,none⟩ 5)) (some g):=⟨rfl,rfl,rfl,by simp,λk hk _=>heap_alloc_old w.drew _ hk⟩
    have hcl:∀g' o,(some g:Option Nat)=some g'→(w.drew.alloc (.view ⟨g,0,none⟩ 5)).cell? ⟨g',o,none⟩=w.cell? ⟨g',o,none⟩:=λg' o e=>by
     injection e with e;subst e
     exact World.cell?_of_block (a:=⟨g,o,none⟩) (heap_alloc_old w.drew _ (heap_lt' hg))
    go_enter Tryz.func56,Tryz.ntmps56
    go_wp2
    go_region
    all_goals (go_wp2;go_ret;exact⟨rfl,hg2,hcl,tk_kp hk⟩)
   ·have hSD:(Builtin.unsafeSliceData_ #[132] 228 #[.slice (some ⟨g,0,none⟩) 0 cap]).run Tryz.prog w.drew=.ok (.pointer (some ⟨g,0,none⟩)) w.drew:=Lib.run_unsafeSliceData_row _ _ _ _ _ _ (by omega)
    have hUS:=hUS0 w.drew (some ⟨g,0,none⟩)
    go_enter Tryz.func56,Tryz.ntmps56
    go_wp2
    go_region
    all_goals (go_wp2;go_ret;exact⟨rfl,⟨rfl,rfl,rfl,zB _,λ_ _ _=>rfl⟩,λ_ _ _=>rfl,λ_ _ q=>q⟩)
  ·have hSD:(Builtin.unsafeSliceData_ #[132] 228 #[.slice (some ⟨g,0,none⟩) l.length cap]).run Tryz.prog w.drew=.ok (.pointer (some ⟨g,0,none⟩)) w.drew:=Lib.run_unsafeSliceData_row _ _ _ _ _ _ (by omega)
   have hUS:(Builtin.unsafeString_ #[228,3] 9 #[.pointer (some ⟨g,0,none⟩),.int .i64 l.length]).run Tryz.prog w.drew=.ok (.string ⟨l.toArray⟩) (w.drew.freeze ⟨g,0,none⟩ l.length):=by
    refine Lib.run_unsafeString_row w.drew _ _ _ 5 Tryz.underlying228 (by kernel_rfl) g cur.size (by have hg':w.drew.heap[g]? = some (.cells cur 5 (0,0)):=hg;grind[World.shape?]) l (by simp_all) (by omega) (by grind[maxLen]) ?_
    intro j x hx
    exact hown.cells (g:=g) rfl j (.int .u8 x.toNat) (by simp[Lib.byteCells,hx])
   obtain⟨f1,f2,f3⟩:=freeze_at w.drew g l.length (cur:=cur) (e:=5) hg
   go_enter Tryz.func56,Tryz.ntmps56
   go_wp2
   go_region
   all_goals (go_wp2;go_ret;exact⟨rfl,⟨f1.os,f1.tape,f1.output,f1.size,λk hk hn=>f1.block k hk hn⟩,λg' o e=>by injection e with e;simp_all,nk (g:=g) ⟨f1.os,f1.tape,f1.output,f1.size,λk hk hn=>f1.block k hk hn⟩ (λt' q'=>by simp_all[nq])⟩)
theorem specS_st(ho:s.obs[k]? = some [.adr k,.own t (l.map lO)])(hl:s.lns[t]? = some (5,(l.map lO).length))
  (h:R (.d (.str l)) ⟨s.obs.set k [.adr k,.undef],s.lns.set t (5,(l.map lO).length+1)⟩):bf gP 56 [.ptr k 0] s R:=by
 refine⟨by kernel_rfl,λw0 w G vs hH hr=>?_⟩
 match vs,hr with
 | [v],hr =>
  obtain⟨r,_⟩:=aV hr
  obtain⟨b,v0,v1,q1,q2,q3,q4,r0,r1⟩:=bld_at hH ho
  obtain⟨b',hb',rfl⟩:=ly r
  rw[q1]at hb';injection hb' with hb';subst hb'
  obtain⟨v2,xs,g1,g2,g3⟩:=hH.lvl t _ _ hl
  have hce:Tryz.prog.cellsOf 5=1:=by kernel_rfl
  cases r1 with
  | own _ _ _ q L hL hs hlast =>
   rw[g1]at hL;injection hL with hL;subst hL
   simp only at hs hlast
   have hv:v1=v2:=by simp_all
   subst hv
   have g2:=g2.resolve_left (by rintro rfl;obtain⟨A,c,e⟩:=nJ q;cases e)
   have hxs:xs=Lib.byteCells l:=by
    apply List.ext_getElem?
    intro j
    rcases Nat.lt_or_ge j l.length with z | z
    ·have he:(l.map lO)[j]? = some (lO l[j]):=by simp_all
     obtain⟨u,u1,u2⟩:=own_xs (λb o v q=>(hH.fs b o v q).2) q g2 hs j 0 (lO l[j]) (.int .u8 (l[j].toNat:Int)) he rfl
     rw[hce,Nat.mul_one,Nat.add_zero]at u1
     cases u2
     simp_all[Lib.byteCells]
    ·have h1:=g2.1
     simp_all[byte_len]
   subst hxs
   rw[hce,List.length_map]at g2
   refine (st_calls b v0 v1 w _ l q3 g2).mono ?_
   rintro e w' ⟨rfl,k1,k2,k3⟩
   obtain⟨hle,hN⟩:=HRp.gone hH hl ⟨_,g1,k1,λb o hb=>k2 b o hb⟩ k3
   rw[lns_set hl]at hN
   have hb2:w'.heap[b]? = some (.cells ⟨[v0,v1]⟩ bT (0,0)):=(k1.block b (heap_lt' q3) (λe=>(g3 b e.symm).1 k q1)).trans q3
   have hrels:rels { G with lv:=upd G.lv t ⟨(l.map lO).length+1,Tryz.prog.cellsOf 5,Go.undef⟩ } [.adr k,.undef] [v0,v1]:=dM (fG hle r0) (dM (.undef _) (i6 _))
   have hP:=HRp.put (w':=w') hN q1 ⟨rfl,rfl,rfl,zB _,λ_ _ _=>rfl⟩ (λ_ _ q=>q) hb2 hrels
   rw[sg_set (s:=s) ho]at hP
   have hP':HR Tryz.prog w0 w' { G with lv:=upd G.lv t ⟨(l.map lO).length+1,Tryz.prog.cellsOf 5,Go.undef⟩ } ⟨s.obs.set k [.adr k,.undef],s.lns.set t (5,(l.map lO).length+1)⟩:=hP
   exact⟨_,.d (.str l),_,_,rfl,hle,hP',.d (.str l),h⟩
 | [],hr=>have:=hr.1;simp at this
 | _::_::_,hr=>have:=hr.1;simp at this
theorem specS_wsN{n:Nat}(ho:s.obs[k]? = some [.adr k,.own t es])(hl:s.lns[t]? = some (5,es.length))(hb:cd (es.length+l.length)=true)(hn:n=es.length+l.length)
  (h:R (.tuple [.d (.int .i64 (l.length:Int)),.d (.other .nilIface)]) ⟨s.obs.set k [.adr k,.own t (es++l.map lO)],s.lns.set t (5,n)⟩):bf gP 54 [.ptr k 0,.d (.str l)] s R :=
 specS_ws ho hl hb (hn▸h)
theorem specS_wbN {b:UInt8} {c:Int} (hc : c = (b.toNat : Int))  {n:Nat}  {R:V → Sg → Prop} (ho : s.obs[k]? = some [.adr k, .own t es]) (hl : s.lns[t]? = some (5, es.length)) (hb : cd (es.length + 1) = true) (hn : n = es.length + 1)
   (h:R (.d (.other .nilIface)) ⟨s.obs.set k [.adr k,.own t (es++[lO b])],s.lns.set t (5,n)⟩):bf gP 55 [.ptr k 0,.d (.int .u8 c)] s R :=
 specS_wb hc ho hl hb (hn▸h)
end Go.Proofs.YtphbhdoljnokkaaGreatDoor
