import Derived.Test.YtjgngikiglhleaaGreatDoorSvw
namespace Go.Proofs.YtjgngikiglhleaaGreatDoor
open Go.RowKit
set_option linter.unusedVariables false
set_option linter.unusedSimpArgs false
section
variable {P : Program}
theorem HRp.beginRow {w0 w w' : World} {G : Cx} {obs : Nat → Option (List V)} {lns : Nat → Option (TypeId × Nat)} (h : HRp P w0 w G obs lns) (hk : Kp w w') (t : Nat) (ht : lns t = none) (e : TypeId) {v : Value} (ho : w'.ownsRow w.heap.size e (P.cellsOf e) v 0 []) :
  let G' : Cx := { G with lv := upd G.lv t ⟨0,P.cellsOf e,v⟩ }
  G.le G' ∧ HRp P w0 w' G' obs (upd lns t (e,0)) := by
 intro G'
 have h' := h.kept hk
 have hnone : G.lv t = none := by
  cases hq : G.lv t with
  | none=>rfl
  | some b=>exact absurd ht (h.lvd t b hq)
 have hlv : ∀ j L,G'.lv j = some L → (j = t ∧ L = ⟨0,P.cellsOf e,v⟩) ∨ (j ≠ t ∧ G.lv j = some L) := by
  intro j L q
  have q' : upd G.lv t ⟨0,P.cellsOf e,v⟩ j = some L := q
  by_cases e : j = t
  ·subst e; rw [upd_same] at q'; injection q' with q'; exact .inl ⟨rfl,q'.symm⟩
  ·rw [upd_ne _ _ e] at q'; exact .inr ⟨e,q'⟩
 have hnew : ∀ b,v.ownBlock = some b → w.heap.size ≤ b := fun b hb=>(ho.lt b hb).1
 have hle : G.le G' := by
  refine ⟨rfl,fun _ _ _ q=>q,fun _ _ q=>q,fun j L q=>⟨L,?_,rfl,.inl rfl⟩,fun _ _ q=>q,fun _ L q=>⟨L,q,rfl,.inl rfl⟩,fun _ _ q=>q⟩
  show upd G.lv t _ j = some L
  rw [upd_ne _ _ (fun e=>by rw [e,hnone] at q; cases q)]; exact q
 have hlvl : ∀ j L b,G.lv j = some L → L.v.ownBlock = some b → b < w.heap.size := by
  intro j L b q hb
  cases hq : lns j with
  | none=>exact absurd hq (h.lvd j L q)
  | some en =>
   obtain ⟨v',xs',h1,h2,_⟩ := h.lvl j en.1 en.2 hq
   rw [q] at h1; injection h1 with h1; subst h1
   exact (holds_lt h2 b hb).2
 refine ⟨hle,h'.kp,h'.fs,h'.fb,h'.obd,?_,h'.obi,?_,?_,?_,h'.gb,h'.obm,h'.mpl,h'.mpi,h'.obr,fun k L q=>?_,h'.rvi,h'.tgs⟩
 ·intro k cs q hm hrv
  obtain ⟨b,vs,t',h1,h2,h3,h4,h5⟩ := h'.obl k cs q hm hrv
  exact ⟨b,vs,t',h1,h2,h3,rels_mono hle h4,h5⟩
 ·intro j L q
  rcases hlv j L q with ⟨rfl,_⟩ | ⟨e,q⟩
  ·rw [upd_same]; simp
  ·rw [upd_ne _ _ e]; exact h.lvd j L q
 ·intro j e' n q
  by_cases ej : j = t
  ·subst ej
   rw [upd_same] at q; injection q with q; injection q with q1 q2; subst q1; subst q2
   refine ⟨v,[],upd_same _ _ _,.inr (own_mono ho h.kp.size),fun b hb=>⟨fun k q=>?_,fun o u q=>?_⟩⟩
   ·have hb2 := hnew b hb
    cases hq : obs k with
    | none=>exact absurd hq (h.obd k b q)
    | some cs =>
     obtain ⟨b',_,_,h1,_,h3,_⟩ := h.obl k cs hq (h.obm k b q) (h.obr k b q)
     rw [q] at h1; injection h1 with h1; subst h1
     have := heap_lt' h3; omega
   ·have := (h.fs b o u q).1; have := hnew b hb; omega
  ·rw [upd_ne _ _ ej] at q
   obtain ⟨v',xs,h1,h2,h3⟩ := h'.lvl j e' n q
   exact ⟨v',xs,(by show upd G.lv t _ j = _; rw [upd_ne _ _ ej]; exact h1),h2,h3⟩
 ·intro j j' L L' b q q' h1 h2
  rcases hlv j L q with ⟨e1,r1⟩ | ⟨e1,q1⟩ <;> rcases hlv j' L' q' with ⟨e2,r2⟩ | ⟨e2,q2⟩
  ·rw [e1,e2]
  ·subst r1; have := hlvl j' L' b q2 h2; have := hnew b h1; omega
  ·subst r2; have := hlvl j L b q1 h1; have := hnew b h2; omega
  ·exact h.lvi j j' L L' b q1 q2 h1 h2
 ·obtain ⟨e',es,xs,h1,h2,h3,h4,h5,h6⟩ := h'.rvl k L q
  refine ⟨e',es,xs,h1,h2,h3,h4,h5,fun b hb=>⟨(h6 b hb).1,(h6 b hb).2.1,fun j L' q'=>?_⟩⟩
  rcases hlv j L' q' with ⟨_,rfl⟩ | ⟨_,q'⟩
  ·intro hb2
   obtain ⟨_,_,_,_,_,_,g4,_⟩ := h.rvl k L q
   have := (g4.lt b hb).2; have := hnew b hb2; omega
  ·exact (h6 b hb).2.2 j L' q'
end
section
variable {P : Program} {g : Pg P} {d : Option Tmp} {t ty : TypeId} {p : String} {af : Array Edge} {gd : Option (Nat × Bool)} {fr : Fr} {s : Sg} {R : V → Sg → Prop}
theorem alt_emptyOwn {e : TypeId} {sz : Nat} (ht : appT P t = some (e,sz)) (h : R (.own s.lns.length []) ⟨s.obs,s.lns ++ [(e,0)]⟩) : altR g ⟨d,.buildSlice t 0 #[],ty,p,af,gd⟩ fr s R := by
 intro w0 w G a hH hfr
 obtain ⟨i,z,hu,hi,hiz,z1,z2,z3,z4⟩ := appT_parts ht
 have hce : P.cellsOf e = sz := by simp [Program.cellsOf,hi,z2]
 have hrun : (Instr.buildSlice t 0 #[]).run P w = .ok (.slice (some ⟨w.heap.size,0,none⟩) 0 0) (w.alloc (.cells #[] e)) := by
  simp [Instr.buildSlice,run_underlying hu,sizeOf,typeInfo,hi,Instr.fill,newRow]
  exact congrArg (fun x=>w.alloc (.cells x e)) (by simp [Array.range])
 have hown := World.ownsRow_made (base := w.heap.size) (e := e) (size := P.cellsOf e) w #[] 0 (Nat.le_refl _) (by unfold maxLen; omega) (by simp)
 obtain ⟨hle,hN⟩ := hH.beginRow ((Kp.refl w).alloc _) s.lns.length (by simp) e hown
 rw [lns_push] at hN
 refine ⟨.value (.slice (some ⟨w.heap.size,0,none⟩) 0 0),_,_,⟨s.obs,s.lns ++ [(e,0)]⟩,_,?_,.inl ⟨_,rfl,.own _ [] _ (.nil _ _) _ (upd_same _ _ _) (fun i e h=>by simp at h) (.inl ⟨rfl,rfl⟩)⟩,hle,hN,h⟩
 simp [execOp,hrun]
def SpecY (_ : Pg P) (f : FuncId) (args : List V) (e : TypeId) (es : List (List D)) : Prop :=
 enterable P f = true ∧ ∀ (w : World) (F : Nat → Nat → Value → Prop) (vs : List Value),(∀ b o v,F b o v → b < w.heap.size ∧ w.cell? ⟨b,o,none⟩ = some v) → GlobOk w F → rels (bareG F) args vs →
  Calls P f ⟨vs⟩ w fun en w'=>∃ v xs,en = .returned v ∧ Kp w w' ∧ w'.ownsRow w.heap.size e (P.cellsOf e) v es.length xs ∧ ∀ F',relRow F' (P.cellsOf e) es xs
theorem SpecY.toS {f : FuncId} {args args' : List V} {e : TypeId} {es : List (List D)} (h : SpecY g f args' e es) (ha : args.map V.clean = args') (hR : R (.gr s.obs.length 0) ⟨s.obs ++ [[.rowc e 0 es]],s.lns⟩) : SpecS g f args s R := by
 subst ha
 refine ⟨h.1,fun w0 w G vs hH hr=>?_⟩
 refine (h.2 w G.F vs hH.fs (hH.gb.kp hH.kp) ?_).mono ?_
 ·refine ⟨by simp [hr.1],fun i x v h1 h2=>?_⟩
  rw [List.getElem?_map] at h1
  cases hq : args[i]? with
  | none=>rw [hq] at h1; cases h1
  | some y=>rw [hq] at h1; simp at h1; subst h1; exact clean_rel (hr.2 i y v hq h2) G.F (fun _ _ _ q=>q)
 ·rintro en w' ⟨v,xs,rfl,hk,ho,hx⟩
  obtain ⟨hle,hN⟩ := HRp.newRow hH hk s.obs.length (by simp) ho (hx G.F)
  rw [sg_push] at hN
  have hone : v.oneCell' = true := by
   obtain ⟨A,c,hv⟩ := own_slice ho
   rw [hv]; rfl
  have hN' : HR P w0 w' { G with rv := upd G.rv s.obs.length ⟨0,P.cellsOf e,v⟩ } ⟨s.obs ++ [[.rowc e 0 es]],s.lns⟩ := hN
  exact ⟨_,_,⟨s.obs ++ [[.rowc e 0 es]],s.lns⟩,_,rfl,hle,hN',.gr _ _ _ hone _ (upd_same _ _ _) (.inl ⟨rfl,rfl⟩),hR⟩
def YRes (s : Sg) (y : V) (e : TypeId) (es : List (List D)) : Prop := match y with
 | .own t es'=>es' = es ∧ s.lns[t]? = some (e,es.length)
 | .nil=>es = []
 | _=>False
theorem specY_by {f : FuncId} {fn : Func} {c : Code} (hf : P.funcs[f]? = some fn) (hb : fn.body = some c) (he : enterable P f = true) (hdr : drawsOk c = true) {args : List V} {e : TypeId} {es : List (List D)} (hes : scalE es = true)
  (h : SWs g c (retQ g fn.results.toList (fun y s'=>YRes s' y e es)) (args ++ List.replicate (fn.ntmps - args.length) .undef) ⟨[],[]⟩) : SpecY g f args e es := by
 refine ⟨he,fun w F vs hF hgl hr=>?_⟩
 have hs := specS_by hf hb he hdr h
 have hH : HR P w w (bareG F) ⟨[],[]⟩ := by
  refine ⟨Kp.refl w,hF,fun b o v q=>.inl q,?_,?_,?_,?_,?_,?_,hgl,fun k b q=>(by cases q),fun k b q=>(by cases q),fun k k' b q=>(by cases q),fun k b q=>(by cases q),fun k L q=>(by cases q),fun k k' L L' b q=>(by cases q),fun b t q=>(by cases q)⟩
  ·intro k b q; cases q
  ·intro k cs q; simp at q
  ·intro k k' b q; cases q
  ·intro t L q; cases q
  ·intro t e n q; simp at q
  ·intro t t' L L' b q; cases q
 refine (hs.2 w w (bareG F) vs hH hr).mono ?_
 rintro en w' ⟨v,y,s',G',rfl,q1,q2,q3,q4⟩
 unfold YRes at q4
 split at q4
 ·rename_i t es'
  obtain ⟨rfl,hl⟩ := q4
  obtain ⟨vv,xs,g1,g2,g3⟩ := q2.lvl t e es'.length hl
  cases q3 with
  | own _ _ _ q L hL hszL hlast =>
   rw [g1] at hL; injection hL with hL; subst hL
   simp only at hszL hlast
   have hv : v = vv := by rcases hlast with q | q; exact q.2; omega
   subst hv
   have g2 := g2.resolve_left (by rintro rfl; cases q)
   refine ⟨v,xs,rfl,q2.kp,g2,fun F'=>⟨hszL,fun i j c x hc hx=>?_⟩⟩
   obtain ⟨u,u1,u2⟩ := own_xs (fun b o v q=>(q2.fs b o v q).2) q g2 hszL i j c x hc hx
   exact ⟨u,u1,scal_any (scalE_at hes hc hx) u2⟩
 ·subst q4
  cases q3
  exact ⟨_,[],rfl,q2.kp,World.ownsRow_nil _ _ _ _,fun F'=>⟨fun i e h=>by simp at h,fun i j e x h=>by simp at h⟩⟩
 ·exact q4.elim
theorem alt_allocB {e : TypeId} {zv : Value} (ht : t = bT) (hz : (P.info? t).map (·.zero) = some (some zv)) (hzc : zv.cells = #[.pointer none,.slice none 0 0]) (h : R (.ptr s.obs.length 0) ⟨s.obs ++ [[.adr s.obs.length,.own s.lns.length []]],s.lns ++ [(e,0)]⟩) : altR g ⟨d,.alloc t,ty,p,af,gd⟩ fr s R := by
 intro w0 w G a hH hfr
 subst ht
 obtain ⟨hle1,h1⟩ := HRp.begin hH s.lns.length (by simp) e
 rw [lns_push] at h1
 obtain ⟨hle2,h2⟩ := HRp.new h1 s.obs.length (by simp) [.undef,.own s.lns.length []] [.pointer none,.slice none 0 0] bT
  (rels_cons (.undef _) (rels_cons (.own _ [] _ (.nil _ _) _ (upd_same _ _ _) (fun i e h=>by simp at h) (.inl ⟨rfl,rfl⟩)) (rels_nil _)))
 generalize hW : w.alloc (.cells ⟨[.pointer none,.slice none 0 0]⟩ bT) = w' at h2
 let G1 : Cx := { G with lv := upd G.lv s.lns.length ⟨0,P.cellsOf e,.slice none 0 0⟩,ob := upd G.ob s.obs.length w.heap.size }
 let G2 : Cx := { G1 with tg := upd G.tg w.heap.size bT }
 have hnew : w'.heap[w.heap.size]? = some (.cells ⟨[.pointer none,.slice none 0 0]⟩ bT (0,0)) := by rw [← hW]; exact heap_alloc_new w _
 have hfree : G.tg w.heap.size = none := by
  cases hq : G.tg w.heap.size with
  | none=>rfl
  | some t=>have := tag_lt (hH.tgs _ _ hq); omega
 have hle3 : G1.le G2 := ⟨rfl,fun _ _ _ q=>q,fun _ _ q=>q,fun _ L q=>⟨L,q,rfl,.inl rfl⟩,fun _ _ q=>q,fun _ L q=>⟨L,q,rfl,.inl rfl⟩,fun b t q=>by
  show upd G.tg _ _ b = _
  rw [upd_ne _ _ (fun e=>by subst e; rw [show G1.tg w.heap.size = G.tg w.heap.size from rfl,hfree] at q; cases q)]; exact q⟩
 have h3 : HRp P w0 w' G2 (upd (fun k=>s.obs[k]?) s.obs.length [.undef,.own s.lns.length []]) (fun j=>(s.lns ++ [(e,0)])[j]?) := by
  refine ⟨h2.kp,h2.fs,h2.fb,h2.obd,fun k cs q hm hr=>?_,h2.obi,h2.lvd,h2.lvl,h2.lvi,h2.gb,h2.obm,h2.mpl,h2.mpi,h2.obr,h2.rvl,h2.rvi,fun b t q=>?_⟩
  ·obtain ⟨b,vs,t',q1,q2,q3,q4,q5⟩ := h2.obl k cs q hm hr
   exact ⟨b,vs,t',q1,q2,q3,rels_mono hle3 q4,q5⟩
  ·have q' : upd G.tg w.heap.size bT b = some t := q
   by_cases eb : b = w.heap.size
   ·subst eb
    rw [upd_same] at q'; injection q' with q'; subst q'
    unfold tagOf; rw [hnew]
   ·rw [upd_ne _ _ eb] at q'
    exact h2.tgs b t q'
 have hrels : rels G2 [.adr s.obs.length,.own s.lns.length []] [.pointer none,.slice none 0 0] :=
  rels_cons (.adr _ _ w.heap.size (upd_same _ _ _) (upd_same _ _ _) (.inl rfl)) (rels_cons (.own _ [] _ (.nil _ _) _ (upd_same _ _ _) (fun i e h=>by simp at h) (.inl ⟨rfl,rfl⟩)) (rels_nil _))
 have h4 := HRp.put (k := s.obs.length) (b := w.heap.size) h3 (upd_same _ _ _) (w' := w') ⟨rfl,rfl,rfl,Nat.le_refl _,fun _ _ _=>rfl⟩ (fun _ _ q=>q) hnew hrels
 have e1 : upd (upd (fun k=>s.obs[k]?) s.obs.length [.undef,.own s.lns.length []]) s.obs.length [.adr s.obs.length,.own s.lns.length []] = upd (fun k=>s.obs[k]?) s.obs.length [.adr s.obs.length,.own s.lns.length []] := by
  funext j
  by_cases e : j = s.obs.length
  ·subst e; rw [upd_same,upd_same]
  ·rw [upd_ne _ _ e,upd_ne _ _ e,upd_ne _ _ e]
 rw [e1,sg_push] at h4
 have hrun : (Instr.alloc bT true (.tuple #[])).run P w = .ok (.pointer (some ⟨w.heap.size,0,none⟩)) w' := by
  obtain ⟨i,hi,hz'⟩ := Option.map_eq_some_iff.1 hz
  rw [← hW]
  simp [Instr.alloc,zeroValue,typeInfo,hi,hz',hzc,newVar,newRow]
 have h4' : HR P w0 w' G2 ⟨s.obs ++ [[.adr s.obs.length,.own s.lns.length []]],s.lns ++ [(e,0)]⟩ := h4
 exact ⟨.value (.pointer (some ⟨w.heap.size,0,none⟩)),w',_,⟨s.obs ++ [[.adr s.obs.length,.own s.lns.length []]],s.lns ++ [(e,0)]⟩,G2,by simp [execOp,hrun],.inl ⟨_,rfl,.ptr _ 0 _ (upd_same _ _ _)⟩,(hle1.trans hle2).trans hle3,h4',h⟩
end
end Go.Proofs.YtjgngikiglhleaaGreatDoor
