import Derived.Test.YthljcnchaopncaaGreatDoorSvw
namespace Go.Proofs.YthljcnchaopncaaGreatDoor
open Go.RowKit
set_option linter.unusedVariables false
set_option linter.unusedSimpArgs false
section
variable {P : Program}
end
section
variable {P : Program} {g : Pg P} {d : Option Tmp} {t ty : TypeId} {p : String} {af : Array Edge} {gd : Option (Nat × Bool)} {fr : Fr} {s : Sg} {R : V → Sg → Prop}
def SpecY (_ : Pg P) (f : FuncId) (args : List V) (e : TypeId) (es : List (List D)) : Prop :=
 enterable P f = true ∧ ∀ (w : World) (F : Nat → Nat → Value → Prop) (vs : List Value),(∀ b o v,F b o v → b < w.heap.size ∧ w.cell? ⟨b,o,none⟩ = some v) → GlobOk w F → rels (bareG F) args vs →
  Calls P f ⟨vs⟩ w fun en w'=>∃ v xs,en = .returned v ∧ Kp w w' ∧ w'.ownsRow w.heap.size e (P.cellsOf e) v es.length xs ∧ ∀ F',relRow F' (P.cellsOf e) es xs
theorem SpecY.toS {f : FuncId} {args args' : List V} {e : TypeId} {es : List (List D)} (h : SpecY g f args' e es) (ha : args.map V.clean = args') (hR : R (.gr s.obs.length 0) ⟨s.obs ++ [[.rowc e 0 es]],s.lns⟩) : SpecS g f args s R := by
 subst ha
 refine ⟨h.1,fun w0 w G vs hH hr=>?_⟩
 refine (h.2 w G.F vs hH.fs (hH.gb.kp hH.kp) ?_).mono ?_
 ·refine ⟨by simp [hr.1],fun i x v h1 h2=>?_⟩
  rw [List.getElem?_map] at h1
  cases hq : args[i]? with
  | none=>rw [hq] at h1; cases h1
  | some y=>rw [hq] at h1; simp at h1; subst h1; exact clean_rel (hr.2 i y v hq h2) G.F (fun _ _ _ q=>q)
 ·rintro en w' ⟨v,xs,rfl,hk,ho,hx⟩
  obtain ⟨hle,hN⟩ := HRp.newRow hH hk s.obs.length (by simp) ho (hx G.F)
  rw [sg_push] at hN
  have hone : v.oneCell' = true := by
   obtain ⟨A,c,hv⟩ := own_slice ho
   rw [hv]; rfl
  have hN' : HR P w0 w' { G with rv := upd G.rv s.obs.length ⟨0,P.cellsOf e,v⟩ } ⟨s.obs ++ [[.rowc e 0 es]],s.lns⟩ := hN
  exact ⟨_,_,⟨s.obs ++ [[.rowc e 0 es]],s.lns⟩,_,rfl,hle,hN',.gr _ _ _ hone _ (upd_same _ _ _) (.inl ⟨rfl,rfl⟩),hR⟩
theorem alt_allocB {e : TypeId} {zv : Value} (ht : t = bT) (hz : (P.info? t).map (·.zero) = some (some zv)) (hzc : zv.cells = #[.pointer none,.slice none 0 0]) (h : R (.ptr s.obs.length 0) ⟨s.obs ++ [[.adr s.obs.length,.own s.lns.length []]],s.lns ++ [(e,0)]⟩) : altR g ⟨d,.alloc t,ty,p,af,gd⟩ fr s R := by
 intro w0 w G a hH hfr
 subst ht
 obtain ⟨hle1,h1⟩ := HRp.begin hH s.lns.length (by simp) e
 rw [lns_push] at h1
 obtain ⟨hle2,h2⟩ := HRp.new h1 s.obs.length (by simp) [.undef,.own s.lns.length []] [.pointer none,.slice none 0 0] bT
  (rels_cons (.undef _) (rels_cons (.own _ [] _ (.nil _ _) _ (upd_same _ _ _) (fun i e h=>by simp at h) (.inl ⟨rfl,rfl⟩)) (rels_nil _)))
 generalize hW : w.alloc (.cells ⟨[.pointer none,.slice none 0 0]⟩ bT) = w' at h2
 let G1 : Cx := { G with lv := upd G.lv s.lns.length ⟨0,P.cellsOf e,.slice none 0 0⟩,ob := upd G.ob s.obs.length w.heap.size }
 let G2 : Cx := { G1 with tg := upd G.tg w.heap.size bT }
 have hnew : w'.heap[w.heap.size]? = some (.cells ⟨[.pointer none,.slice none 0 0]⟩ bT (0,0)) := by rw [← hW]; exact heap_alloc_new w _
 have hfree : G.tg w.heap.size = none := by
  cases hq : G.tg w.heap.size with
  | none=>rfl
  | some t=>have := tag_lt (hH.tgs _ _ hq); omega
 have hle3 : G1.le G2 := ⟨rfl,fun _ _ _ q=>q,fun _ _ q=>q,fun _ L q=>⟨L,q,rfl,.inl rfl⟩,fun _ _ q=>q,fun _ L q=>⟨L,q,rfl,.inl rfl⟩,fun b t q=>by
  show upd G.tg _ _ b = _
  rw [upd_ne _ _ (fun e=>by subst e; rw [show G1.tg w.heap.size = G.tg w.heap.size from rfl,hfree] at q; cases q)]; exact q⟩
 have h3 : HRp P w0 w' G2 (upd (fun k=>s.obs[k]?) s.obs.length [.undef,.own s.lns.length []]) (fun j=>(s.lns ++ [(e,0)])[j]?) := by
  refine ⟨h2.kp,h2.fs,h2.fb,h2.obd,fun k cs q hm hr=>?_,h2.obi,h2.lvd,h2.lvl,h2.lvi,h2.gb,h2.obm,h2.mpl,h2.mpi,h2.obr,h2.rvl,h2.rvi,fun b t q=>?_⟩
  ·obtain ⟨b,vs,t',q1,q2,q3,q4,q5⟩ := h2.obl k cs q hm hr
   exact ⟨b,vs,t',q1,q2,q3,rels_mono hle3 q4,q5⟩
  ·have q' : upd G.tg w.heap.size bT b = some t := q
   by_cases eb : b = w.heap.size
   ·subst eb
    rw [upd_same] at q'; injection q' with q'; subst q'
    unfold tagOf; rw [hnew]
   ·rw [upd_ne _ _ eb] at q'
    exact h2.tgs b t q'
 have hrels : rels G2 [.adr s.obs.length,.own s.lns.length []] [.pointer none,.slice none 0 0] :=
  rels_cons (.adr _ _ w.heap.size (upd_same _ _ _) (upd_same _ _ _) (.inl rfl)) (rels_cons (.own _ [] _ (.nil _ _) _ (upd_same _ _ _) (fun i e h=>by simp at h) (.inl ⟨rfl,rfl⟩)) (rels_nil _))
 have h4 := HRp.put (k := s.obs.length) (b := w.heap.size) h3 (upd_same _ _ _) (w' := w') ⟨rfl,rfl,rfl,Nat.le_refl _,fun _ _ _=>rfl⟩ (fun _ _ q=>q) hnew hrels
 have e1 : upd (upd (fun k=>s.obs[k]?) s.obs.length [.undef,.own s.lns.length []]) s.obs.length [.adr s.obs.length,.own s.lns.length []] = upd (fun k=>s.obs[k]?) s.obs.length [.adr s.obs.length,.own s.lns.length []] := by
  funext j
  by_cases e : j = s.obs.length
  ·subst e; rw [upd_same,upd_same]
  ·rw [upd_ne _ _ e,upd_ne _ _ e,upd_ne _ _ e]
 rw [e1,sg_push] at h4
 have hrun : (Instr.alloc bT true (.tuple #[])).run P w = .ok (.pointer (some ⟨w.heap.size,0,none⟩)) w' := by
  obtain ⟨i,hi,hz'⟩ := Option.map_eq_some_iff.1 hz
  rw [← hW]
  simp [Instr.alloc,zeroValue,typeInfo,hi,hz',hzc,newVar,newRow]
 have h4' : HR P w0 w' G2 ⟨s.obs ++ [[.adr s.obs.length,.own s.lns.length []]],s.lns ++ [(e,0)]⟩ := h4
 exact ⟨.value (.pointer (some ⟨w.heap.size,0,none⟩)),w',_,⟨s.obs ++ [[.adr s.obs.length,.own s.lns.length []]],s.lns ++ [(e,0)]⟩,G2,by simp [execOp,hrun],.inl ⟨_,rfl,.ptr _ 0 _ (upd_same _ _ _)⟩,(hle1.trans hle2).trans hle3,h4',h⟩
end
end Go.Proofs.YthljcnchaopncaaGreatDoor
