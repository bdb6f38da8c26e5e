import Derived.Test.YtjgngikiglhleaaGreatDoorGx
import Derived.Test.YtjgngikiglhleaaGreatDoorTy
import Derived.Shelf.Strings.Builder1
namespace Go.Proofs.YtjgngikiglhleaaGreatDoor
open Go.RowKit
open Nat renaming reduceAdd → nA,reduceSub → nS,reduceMul → nM,reduceEqDiff → nE,reduceLeDiff → nL,reduceLT → nT,reduceBEq → nB
open Int renaming reduceLT → iT,reduceToNat → iN,reduceEq → iE
set_option linter.unusedVariables false
set_option linter.unusedSimpArgs false
set_option maxRecDepth 100000
def ccRen : Go.Shelf.Ren := ⟨fun | 240=>89 | 276=>98 | n=>n,fun | 70=>129 | 9=>9 | 4=>4 | 0=>0 | 72=>132 | 164=>162 | 20=>20 | 37=>130 | n=>n,fun | n=>n⟩
theorem ccLays : Go.Proofs.Lays.n240 Tryz.prog ccRen := {
 mixed := by kernel_rfl
 f240 := Tryz.func89.trans (congrArg some (by kernel_rfl))
 f276 := Tryz.func98.trans (congrArg some (by kernel_rfl))
 t0 := Tryz.underlying0,a0 := Tryz.isAgg0,z0 := Tryz.sizeOf0,v0 := Tryz.zeroValue0
 t4 := Tryz.underlying4,a4 := Tryz.isAgg4,z4 := Tryz.sizeOf4,v4 := Tryz.zeroValue4
 t9 := Tryz.underlying9,a9 := Tryz.isAgg9,z9 := Tryz.sizeOf9,v9 := Tryz.zeroValue9
 t20 := Tryz.underlying20,a20 := Tryz.isAgg20,z20 := Tryz.sizeOf20,v20 := Tryz.zeroValue20
 t70 := Tryz.underlying129,a70 := Tryz.isAgg129,z70 := Tryz.sizeOf129,v70 := Tryz.zeroValue129
 t72 := Tryz.underlying132,a72 := Tryz.isAgg132,z72 := Tryz.sizeOf132,v72 := Tryz.zeroValue132
 t164 := Tryz.underlying162,a164 := Tryz.isAgg162,z164 := Tryz.sizeOf162,v164 := Tryz.zeroValue162 }
theorem ccX72 : Builder.X72 Tryz.prog ccRen := { sizeBuilder := by kernel_rfl,liesBuilder := by kernel_rfl }
theorem cc_calls (b : Nat) (v0 v1 : Value) (w : World) (hb : w.heap[b]? = some (.cells ⟨[v0,v1]⟩ bT (0,0))) (hv : v0 = .pointer none ∨ v0 = .pointer (some ⟨b,0,none⟩)) :
  Calls Tryz.prog 89 #[.pointer (some ⟨b,0,none⟩)] w fun e w'=>e = .returned (.tuple #[]) ∧ w.grownBy w' (some b) ∧ w'.heap[b]? = some (.cells ⟨[.pointer (some ⟨b,0,none⟩),v1]⟩ bT (0,0)) := by
 have hc0 : w.cell? ⟨b,0,none⟩ = some v0 := by rw [cell_of_row w b 0 ⟨[v0,v1]⟩ bT (0,0) hb]; rfl
 rcases hv with rfl | rfl
 ·refine (Any.Builder_copyCheck_fresh ccLays ccX72 b w hc0 (by simp only [World.shape?,hb]; rfl) (by simp [World.frozen?,hb])).mono ?_
  rintro e w' ⟨rfl,rfl⟩
  have hlt := heap_lt' hb
  refine ⟨rfl,⟨rfl,rfl,rfl,by simp [World.setCell],fun k hk hn=>?_⟩,?_⟩
  ·have hkb : b ≠ k := fun e=>hn (by rw [e])
   simp [World.setCell,Array.getElem?_modify,hkb]
  ·simp [World.setCell,Array.getElem?_modify,hb]
 ·refine (Any.Builder_copyCheck_used ccLays ccX72 b w hc0).mono ?_
  rintro e w' ⟨rfl,rfl⟩
  exact ⟨rfl,⟨rfl,rfl,rfl,Nat.le_refl _,fun _ _ _=>rfl⟩,hb⟩
theorem bld_at {w0 w : World} {G : Cx} {s : Sg} {k : Nat} {c1 : V} (h : HR Tryz.prog w0 w G s) (ho : s.obs[k]? = some [.adr k,c1]) :
  ∃ b v0 v1,G.ob k = some b ∧ w0.heap.size ≤ b ∧ w.heap[b]? = some (.cells ⟨[v0,v1]⟩ bT (0,0)) ∧ (v0 = .pointer none ∨ v0 = .pointer (some ⟨b,0,none⟩)) ∧ rel G (.adr k) v0 ∧ rel G c1 v1 := by
 have hm : G.mp k = none := by
  cases hq : G.mp k with
  | none=>rfl
  | some b=>obtain ⟨_,_,_,_,_,h2,_⟩ := h.mpl k b hq; have h2' : s.obs[k]? = _ := h2; rw [ho] at h2'; cases h2'
 have hr : G.rv k = none := by
  cases hq : G.rv k with
  | none=>rfl
  | some L=>obtain ⟨_,_,_,h2,_⟩ := h.rvl k L hq; have h2' : s.obs[k]? = _ := h2; rw [ho] at h2'; cases h2'
 obtain ⟨b,vs,t,q1,q2,q3,q4,q5⟩ := h.obl k _ ho hm hr
 match vs,q4 with
 | [v0,v1],q4 =>
  obtain ⟨r0,r1⟩ := rels_cons_inv q4
  obtain ⟨r1,_⟩ := rels_cons_inv r1
  have r0' := r0
  cases r0' with
  | adr _ _ b' e1 e2 e3 =>
   rw [q1] at e1; injection e1 with e1; subst e1
   have ht := h.tgs _ _ e2
   unfold tagOf at ht
   rw [q3] at ht
   injection ht with ht
   have ht : t = bT := ht
   subst ht
   exact ⟨b,v0,v1,q1,q2,q3,e3,r0,r1⟩
 | [],q4=>have := q4.1; simp at this
 | [_],q4=>have := q4.1; simp at this
 | _ :: _ :: _ :: _,q4=>have := q4.1; simp at this
theorem specS_cc {s : Sg} {k : Nat} {c1 : V} {R : V → Sg → Prop} (ho : s.obs[k]? = some [.adr k,c1]) (h : R (.tuple []) s) : SpecS gP 89 [.ptr k 0] s R := by
 refine ⟨by kernel_rfl,fun w0 w G vs hH hr=>?_⟩
 match vs,hr with
 | [v],hr =>
  obtain ⟨r,_⟩ := rels_cons_inv hr
  obtain ⟨b,v0,v1,q1,q2,q3,q4,r0,r1⟩ := bld_at hH ho
  obtain ⟨b',hb',rfl⟩ := inv_ptr r
  rw [q1] at hb'; injection hb' with hb'; subst hb'
  refine (cc_calls b v0 v1 w q3 q4).mono ?_
  rintro e w' ⟨rfl,hg,hb⟩
  have hT := hH.tgs b bT (by cases r0 with | adr _ _ b2 e1 e2 _=>rw [q1] at e1; injection e1 with e1; subst e1; exact e2)
  have hrels : rels G [.adr k,c1] [.pointer (some ⟨b,0,none⟩),v1] := by
   refine rels_cons ?_ (rels_cons r1 (rels_nil _))
   cases r0 with
   | adr _ _ b2 e1 e2 _=>rw [q1] at e1; injection e1 with e1; subst e1; exact .adr _ _ b q1 e2 (.inr rfl)
  have hN := HRp.put hH q1 hg (tk_grown hg fun t' q'=>by rw [hT] at q'; injection q' with q'; subst q'; unfold tagOf; rw [hb]) hb hrels
  rw [sg_set ho] at hN
  have e1 : s.obs.set k [.adr k,c1] = s.obs := List.ext_getElem? fun j=>by
   by_cases e : k = j
   ·subst e; rw [List.getElem?_set,if_pos rfl,if_pos (getElem_lt ho),ho]
   ·rw [List.getElem?_set_ne e]
  rw [e1] at hN
  exact ⟨_,.tuple [],s,G,rfl,Cx.le.refl G,hN,.tuple [] [] rfl (fun i x v h=>by simp at h),h⟩
 | [],hr=>have := hr.1; simp at this
 | _ :: _ :: _,hr=>have := hr.1; simp at this
theorem lit_nilI : lit .nilIface = .d (.other .nilIface) := nr rfl
theorem specS_ws {s : Sg} {k t : Nat} {es : List (List D)} {l : List UInt8} {R : V → Sg → Prop} (ho : s.obs[k]? = some [.adr k,.own t es]) (hl : s.lns[t]? = some (5,es.length)) (hb : okLen (es.length + l.length) = true)
  (h : R (.tuple [.d (.int .i64 (l.length : Int)),.d (.other .nilIface)]) ⟨s.obs.set k [.adr k,.own t (es ++ l.map byteE)],s.lns.set t (5,es.length + l.length)⟩) : SpecS gP 70 [.ptr k 0,.d (.str l)] s R := by
 obtain ⟨ob,ln⟩ := s
 simp only at ho hl h
 refine specS_by Tryz.func70 rfl (by kernel_rfl) (by kernel_rfl) ?_
 simp only [List.replicate,List.length,nS,nA,Tryz.ntmps70,SV]
 refine SWs.seq (SWs.region ?_)
 simp only [↓reduceIte,reduceCtorEq,nA,nS,nM,nE,nL,nT,nB,iT,iN,iE,and_self,SR,SV,lit_nilI,SL]
 refine SWs.seq (SWs.region ?_)
 simp only [↓reduceIte,reduceCtorEq,nA,nS,nM,nE,nL,nT,nB,iT,iN,iE,and_self,SR,SV]
 refine specS_cc ho ?_
 simp only [↓reduceIte,reduceCtorEq,nA,nS,nM,nE,nL,nT,nB,iT,iN,iE,and_self,SR,SV,SL]
 refine SWs.seq (SWs.regionW ?_)
 refine regW.alt 6 rfl ?_
 simp only [↓reduceIte,reduceCtorEq,nA,nS,nM,nE,nL,nT,nB,iT,iN,iE,and_self,SR,SV,w_none,w_eq,and_true,true_and,tkS,tk0,tkN,dpS,dp0,fld_132_1,sz_130,ag_130,ho]
 refine alt_appStr rfl rfl (by kernel_rfl) Tryz.underlying9 hl hb ?_
 refine regW.of ?_
 simp only [↓reduceIte,reduceCtorEq,nA,nS,nM,nE,nL,nT,nB,iT,iN,iE,and_self,SR,SV,w_none,w_eq,and_true,true_and,tkS,tk0,tkN,dpS,dp0,fld_132_1,sz_130,ag_130,ho,SL]
 refine SWs.seq (SWs.region ?_)
 simp only [↓reduceIte,reduceCtorEq,nA,nS,nM,nE,nL,nT,nB,iT,iN,iE,and_self,SR,SV,und_9,lit_nilI,SL]
 refine SWs.ret ?_
 simp only [SL,Tryz.results70]
 exact h
theorem specS_wb {b : UInt8} {c : Int} (hc : c = (b.toNat : Int)) {s : Sg} {k t : Nat} {es : List (List D)} {R : V → Sg → Prop} (ho : s.obs[k]? = some [.adr k, .own t es]) (hl : s.lns[t]? = some (5, es.length)) (hb : okLen (es.length + 1) = true)
   (h : R (.d (.other .nilIface)) ⟨s.obs.set k [.adr k,.own t (es ++ [byteE b])],s.lns.set t (5,es.length + 1)⟩) : SpecS gP 71 [.ptr k 0,.d (.int .u8 c)] s R := by
 obtain ⟨ob,ln⟩ := s
 simp only at ho hl h
 have hlt : t < ln.length := getElem_lt hl
 subst hc
 refine specS_by Tryz.func71 rfl (by kernel_rfl) (by kernel_rfl) ?_
 simp only [List.replicate,List.length,nS,nA,Tryz.ntmps71,SV]
 refine SWs.seq (SWs.region ?_)
 simp only [↓reduceIte,reduceCtorEq,nA,nS,nM,nE,nL,nT,nB,iT,iN,iE,and_self,SR,SV,lit_nilI,SL]
 refine SWs.seq (SWs.region ?_)
 simp only [↓reduceIte,reduceCtorEq,nA,nS,nM,nE,nL,nT,nB,iT,iN,iE,and_self,SR,SV]
 refine specS_cc ho ?_
 simp only [↓reduceIte,reduceCtorEq,nA,nS,nM,nE,nL,nT,nB,iT,iN,iE,and_self,SR,SV,SL]
 refine SWs.seq (SWs.region ?_)
 simp only [↓reduceIte,reduceCtorEq,nA,nS,nM,nE,nL,nT,nB,iT,iN,iE,and_self,SR,SV,fld_132_1,sz_130,ag_130,ho,hl,hb,hlt,und_130,sz_5,zero_5,app_130,(nr rfl : okLen 1 = true),List.all_cons,List.all_nil,beq_self_eq_true,SL]
 refine SWs.seq (SWs.region ?_)
 simp only [↓reduceIte,reduceCtorEq,nA,nS,nM,nE,nL,nT,nB,iT,iN,iE,and_self,SR,SV,lit_nilI,SL]
 refine SWs.ret ?_
 simp only [SL,Tryz.results71]
 exact h
theorem freeze_at (w : World) (g n : Nat) {cur : Array Value} {e : TypeId} (hg : w.heap[g]? = some (.cells cur e (0,0))) : w.grownBy (w.freeze ⟨g,0,none⟩ n) (some g) ∧ (∀ o,(w.freeze ⟨g,0,none⟩ n).cell? ⟨g,o,none⟩ = w.cell? ⟨g,o,none⟩) ∧ tagOf (w.freeze ⟨g,0,none⟩ n) g = some e := by
 have hm : ∃ z,(w.freeze ⟨g,0,none⟩ n).heap[g]? = some (.cells cur e z) := by
  unfold World.freeze
  split
  ·exact ⟨_,hg⟩
  ·refine ⟨(0,0 + n),?_⟩
   simp only [Array.getElem?_modify,if_pos]
   rw [hg]; rfl
 obtain ⟨z,hm⟩ := hm
 refine ⟨?_,fun o=>?_,?_⟩
 ·unfold World.freeze
  split
  ·exact ⟨rfl,rfl,rfl,Nat.le_refl _,fun _ _ _=>rfl⟩
  ·refine ⟨rfl,rfl,rfl,by simp,fun k hk hn=>?_⟩
   have hkg : g ≠ k := fun e=>hn (by rw [e])
   simp [Array.getElem?_modify,hkg]
 ·unfold World.cell?
  simp only [hm,hg]
 ·unfold tagOf; simp only [hm]
theorem st_calls (b : Nat) (v0 v1 : Value) (w : World) (B : Nat) (l : List UInt8) (hb : w.heap[b]? = some (.cells ⟨[v0,v1]⟩ bT (0,0))) (hown : w.ownsRow B 5 1 v1 l.length (Lib.byteCells l)) :
  Calls Tryz.prog 72 #[.pointer (some ⟨b,0,none⟩)] w fun e w'=>e = .returned (.string ⟨l.toArray⟩) ∧ w.grownBy w' v1.ownBlock ∧ (∀ g o,v1.ownBlock = some g → w'.cell? ⟨g,o,none⟩ = w.cell? ⟨g,o,none⟩) ∧ TK w w' := by
 have hUS0 : ∀ (W : World) (q : Option Addr),(Builtin.unsafeString_ #[150,3] 9 #[.pointer q,.int .i64 0]).run Tryz.prog W = .ok (.string .empty) W := fun W q=>Lib.run_unsafeString_none W _ _ _ q
 have c1 : w.drew.cell? ⟨b,1,none⟩ = some v1 := by
  have : w.drew.heap[b]? = some (.cells ⟨[v0,v1]⟩ bT (0,0)) := hb
  rw [cell_of_row w.drew b 1 _ _ _ this]; rfl
 rcases hown.2 with ⟨rfl,hz⟩ | ⟨g,cap,cur,rfl,hbg,hg,hnc,hcm,hcs,htake⟩
 ·have : l = [] := List.eq_nil_of_length_eq_zero hz
  subst this
  have hSD : (Builtin.unsafeSliceData_ #[130] 150 #[.slice none 0 0]).run Tryz.prog w.drew = .ok (.pointer none) w.drew := rfl
  have hUS := hUS0 w.drew none
  go_enter Tryz.func72,Tryz.ntmps72
  go_wp2
  go_region
  all_goals (go_wp2; go_ret; exact ⟨rfl,⟨rfl,rfl,rfl,Nat.le_refl _,fun _ _ _=>rfl⟩,fun _ _ _=>rfl,fun _ _ q=>q⟩)
 ·by_cases hl0 : l.length = 0
  ·have : l = [] := List.eq_nil_of_length_eq_zero hl0
   subst this
   by_cases hcap : cap = 0
   ·subst hcap
    have hSD : (Builtin.unsafeSliceData_ #[130] 150 #[.slice (some ⟨g,0,none⟩) 0 0]).run Tryz.prog w.drew = .ok (.pointer (some ⟨w.drew.heap.size,0,none⟩)) (w.drew.alloc (.view ⟨g,0,none⟩ 5)) :=
     Lib.run_unsafeSliceData_zero w.drew _ _ 5 Tryz.underlying150 ⟨g,0,none⟩ 0 (5,cur.size) (by have hg' : w.drew.heap[g]? = some (.cells cur 5 (0,0)) := hg; simp [World.shape?,hg'])
    have hlt := heap_lt' hb
    have c2 : (w.drew.alloc (.view ⟨g,0,none⟩ 5)).cell? ⟨b,1,none⟩ = some (.slice (some ⟨g,0,none⟩) 0 0) := by
     have : (w.drew.alloc (.view ⟨g,0,none⟩ 5)).heap[b]? = some (.cells ⟨[v0,.slice (some ⟨g,0,none⟩) 0 0]⟩ bT (0,0)) := (heap_alloc_old w.drew _ hlt).trans hb
     rw [cell_of_row _ b 1 _ _ _ this]; rfl
    have c3 : (w.alloc (.view ⟨g,0,none⟩ 5)).drew.cell? ⟨b,1,none⟩ = some (.slice (some ⟨g,0,none⟩) 0 0) := c2
    have c0 : w.cell? ⟨b,1,none⟩ = some (.slice (some ⟨g,0,none⟩) 0 0) := c1
    have hUS := hUS0
    have hk : Kp w (w.drew.alloc (.view ⟨g,0,none⟩ 5)) := ((Kp.refl w).drew).alloc _
    have hg2 : w.grownBy (w.drew.alloc (.view ⟨g,0,none⟩ 5)) (some g) := ⟨rfl,rfl,rfl,by simp,fun k hk _=>heap_alloc_old w.drew _ hk⟩
    have hcl : ∀ g' o,(some g : Option Nat) = some g' → (w.drew.alloc (.view ⟨g,0,none⟩ 5)).cell? ⟨g',o,none⟩ = w.cell? ⟨g',o,none⟩ := fun g' o e=>by
     injection e with e; subst e
     exact World.cell?_of_block (a := ⟨g,o,none⟩) (heap_alloc_old w.drew _ (heap_lt' hg))
    go_enter Tryz.func72,Tryz.ntmps72
    go_wp2
    go_region
    all_goals (go_wp2; go_ret; exact ⟨rfl,hg2,hcl,tk_kp hk⟩)
   ·have hSD : (Builtin.unsafeSliceData_ #[130] 150 #[.slice (some ⟨g,0,none⟩) 0 cap]).run Tryz.prog w.drew = .ok (.pointer (some ⟨g,0,none⟩)) w.drew := Lib.run_unsafeSliceData_row _ _ _ _ _ _ (by omega)
    have hUS := hUS0 w.drew (some ⟨g,0,none⟩)
    go_enter Tryz.func72,Tryz.ntmps72
    go_wp2
    go_region
    all_goals (go_wp2; go_ret; exact ⟨rfl,⟨rfl,rfl,rfl,Nat.le_refl _,fun _ _ _=>rfl⟩,fun _ _ _=>rfl,fun _ _ q=>q⟩)
  ·have hSD : (Builtin.unsafeSliceData_ #[130] 150 #[.slice (some ⟨g,0,none⟩) l.length cap]).run Tryz.prog w.drew = .ok (.pointer (some ⟨g,0,none⟩)) w.drew := Lib.run_unsafeSliceData_row _ _ _ _ _ _ (by omega)
   have hUS : (Builtin.unsafeString_ #[150,3] 9 #[.pointer (some ⟨g,0,none⟩),.int .i64 l.length]).run Tryz.prog w.drew = .ok (.string ⟨l.toArray⟩) (w.drew.freeze ⟨g,0,none⟩ l.length) := by
    refine Lib.run_unsafeString_row w.drew _ _ _ 5 Tryz.underlying150 (by kernel_rfl) g cur.size (by have hg' : w.drew.heap[g]? = some (.cells cur 5 (0,0)) := hg; simp [World.shape?,hg']) l (by intro e; subst e; exact hl0 rfl) (by omega) (by unfold maxLen at hcm; omega) ?_
    intro j x hx
    exact hown.cells (g := g) rfl j (.int .u8 x.toNat) (by simp [Lib.byteCells,hx])
   obtain ⟨f1,f2,f3⟩ := freeze_at w.drew g l.length (cur := cur) (e := 5) hg
   go_enter Tryz.func72,Tryz.ntmps72
   go_wp2
   go_region
   all_goals (go_wp2; go_ret; exact ⟨rfl,⟨f1.os,f1.tape,f1.output,f1.size,fun k hk hn=>f1.block k hk hn⟩,fun g' o e=>by injection e with e; subst e; exact f2 o,tk_grown (g := g) ⟨f1.os,f1.tape,f1.output,f1.size,fun k hk hn=>f1.block k hk hn⟩ (fun t' q'=>by rw [f3]; unfold tagOf at q'; rw [hg] at q'; exact q')⟩)
theorem specS_st {s : Sg} {k t : Nat} {l : List UInt8} {R : V → Sg → Prop} (ho : s.obs[k]? = some [.adr k,.own t (l.map byteE)]) (hl : s.lns[t]? = some (5,(l.map byteE).length))
  (h : R (.d (.str l)) ⟨s.obs.set k [.adr k,.undef],s.lns.set t (5,(l.map byteE).length + 1)⟩) : SpecS gP 72 [.ptr k 0] s R := by
 refine ⟨by kernel_rfl,fun w0 w G vs hH hr=>?_⟩
 match vs,hr with
 | [v],hr =>
  obtain ⟨r,_⟩ := rels_cons_inv hr
  obtain ⟨b,v0,v1,q1,q2,q3,q4,r0,r1⟩ := bld_at hH ho
  obtain ⟨b',hb',rfl⟩ := inv_ptr r
  rw [q1] at hb'; injection hb' with hb'; subst hb'
  obtain ⟨v2,xs,g1,g2,g3⟩ := hH.lvl t _ _ hl
  have hce : Tryz.prog.cellsOf 5 = 1 := by kernel_rfl
  cases r1 with
  | own _ _ _ q L hL hs hlast =>
   rw [g1] at hL; injection hL with hL; subst hL
   simp only at hs hlast
   have hv : v1 = v2 := by rcases hlast with q | q; exact q.2; omega
   subst hv
   have g2 := g2.resolve_left (by rintro rfl; obtain ⟨A,c,e⟩ := list_len q; cases e)
   have hxs : xs = Lib.byteCells l := by
    apply List.ext_getElem?
    intro j
    rcases Nat.lt_or_ge j l.length with z | z
    ·have he : (l.map byteE)[j]? = some (byteE l[j]) := by rw [List.getElem?_map,List.getElem?_eq_getElem z]; rfl
     obtain ⟨u,u1,u2⟩ := own_xs (fun b o v q=>(hH.fs b o v q).2) q g2 hs j 0 (byteE l[j]) (.int .u8 (l[j].toNat : Int)) he rfl
     rw [hce,Nat.mul_one,Nat.add_zero] at u1
     cases u2
     rw [u1,Lib.byteCells,List.getElem?_map,List.getElem?_eq_getElem z]; rfl
    ·have h1 := g2.1
     rw [hce,Nat.mul_one,List.length_map] at h1
     rw [List.getElem?_eq_none (by omega),List.getElem?_eq_none (by rw [byte_len]; exact z)]
   subst hxs
   rw [hce,List.length_map] at g2
   refine (st_calls b v0 v1 w _ l q3 g2).mono ?_
   rintro e w' ⟨rfl,k1,k2,k3⟩
   obtain ⟨hle,hN⟩ := HRp.gone hH hl ⟨_,g1,k1,fun b o hb=>k2 b o hb⟩ k3
   rw [lns_set hl] at hN
   have hb2 : w'.heap[b]? = some (.cells ⟨[v0,v1]⟩ bT (0,0)) := (k1.block b (heap_lt' q3) (fun e=>(g3 b e.symm).1 k q1)).trans q3
   have hrels : rels { G with lv := upd G.lv t ⟨(l.map byteE).length + 1,Tryz.prog.cellsOf 5,Go.undef⟩ } [.adr k,.undef] [v0,v1] := rels_cons (rel_mono hle r0) (rels_cons (.undef _) (rels_nil _))
   have hP := HRp.put (w' := w') hN q1 ⟨rfl,rfl,rfl,Nat.le_refl _,fun _ _ _=>rfl⟩ (fun _ _ q=>q) hb2 hrels
   rw [sg_set (s := s) ho] at hP
   have hP' : HR Tryz.prog w0 w' { G with lv := upd G.lv t ⟨(l.map byteE).length + 1,Tryz.prog.cellsOf 5,Go.undef⟩ } ⟨s.obs.set k [.adr k,.undef],s.lns.set t (5,(l.map byteE).length + 1)⟩ := hP
   exact ⟨_,.d (.str l),_,_,rfl,hle,hP',.d (.str l),h⟩
 | [],hr=>have := hr.1; simp at this
 | _ :: _ :: _,hr=>have := hr.1; simp at this
theorem specS_wsN {s : Sg} {k t n : Nat} {es : List (List D)} {l : List UInt8} {R : V → Sg → Prop} (ho : s.obs[k]? = some [.adr k,.own t es]) (hl : s.lns[t]? = some (5,es.length)) (hb : okLen (es.length + l.length) = true) (hn : n = es.length + l.length)
  (h : R (.tuple [.d (.int .i64 (l.length : Int)),.d (.other .nilIface)]) ⟨s.obs.set k [.adr k,.own t (es ++ l.map byteE)],s.lns.set t (5,n)⟩) : SpecS gP 70 [.ptr k 0,.d (.str l)] s R :=
 specS_ws ho hl hb (hn ▸ h)
theorem specS_wbN {b : UInt8} {c : Int} (hc : c = (b.toNat : Int)) {s : Sg} {k t n : Nat} {es : List (List D)} {R : V → Sg → Prop} (ho : s.obs[k]? = some [.adr k, .own t es]) (hl : s.lns[t]? = some (5, es.length)) (hb : okLen (es.length + 1) = true) (hn : n = es.length + 1)
   (h : R (.d (.other .nilIface)) ⟨s.obs.set k [.adr k,.own t (es ++ [byteE b])],s.lns.set t (5,n)⟩) : SpecS gP 71 [.ptr k 0,.d (.int .u8 c)] s R :=
 specS_wb hc ho hl hb (hn ▸ h)
end Go.Proofs.YtjgngikiglhleaaGreatDoor
