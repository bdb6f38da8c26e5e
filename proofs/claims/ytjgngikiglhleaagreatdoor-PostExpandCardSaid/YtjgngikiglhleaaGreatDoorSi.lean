import Derived.Test.YtjgngikiglhleaaGreatDoorSh
import Derived.Lib.ConvBytes
namespace Go.Proofs.YtjgngikiglhleaaGreatDoor
open Go.RowKit
set_option linter.unusedSimpArgs false
set_option linter.unusedVariables false
theorem run_row (P : Program) (w : World) (e : TypeId) (cs : Array Value) : (newRow e cs).run P w = .ok ⟨w.heap.size,0,none⟩ (w.alloc (.cells cs e)) := rfl
def okLen (n : Nat) : Bool := Nat.ble n 16777216
theorem okLen_le {n : Nat} (h : okLen n = true) : n ≤ 16777216 := Nat.le_of_ble_eq_true h
theorem okLen_of {n : Nat} (h : n ≤ 16777216) : okLen n = true := Nat.ble_eq_true_of_le h
@[simp] theorem okLen_small (n : Nat) (h : n ≤ 64) : okLen n = true := okLen_of (by omega)
def reps : Nat → List V → List V
 | 0,_=>[]
 | n + 1,zs=>zs ++ reps n zs
theorem reps_len (zs : List V) : ∀ n,(reps n zs).length = n * zs.length
 | 0=>by simp [reps]
 | n + 1=>by simp [reps,reps_len zs n,Nat.succ_mul]; omega
theorem reps_at (zs : List V) (x : V) : ∀ (n i : Nat),(reps n zs)[i]? = some x → zs[i % zs.length]? = some x
 | 0,i,h=>by simp [reps] at h
 | n + 1,i,h=>by
  unfold reps at h
  rcases Nat.lt_or_ge i zs.length with q | q
  ·rw [List.getElem?_append_left q] at h
   rw [Nat.mod_eq_of_lt q]; exact h
  ·rw [List.getElem?_append_right q] at h
   have := reps_at zs x n (i - zs.length) h
   rw [← Nat.mod_eq_sub_mod q] at this
   exact this
def rowV (P : Program) (t : TypeId) (len k : Nat) (parts : List (Nat × V)) : Option (V × Ef) :=
 match P.underlying t with
 | some (.slice e)=>match sizeT P e,zeroV P e with
  | some sz,some z=>match z.cells? with
   | some zs =>
    if zs.length = sz ∧ okLen (len * sz) = true then
     match fillV (fun i=>some (i * sz,sz)) (reps len zs) parts with
     | some out=>match datas out with
      | some ds=>some (.full (chunks sz len ds),.none)
      | none=>some (.sl k 0 len len,.alloc out)
     | none=>none
    else none
   | none=>none
  | _,_=>none
 | _=>none
def appV (P : Program) (lns : Nat → Option (TypeId × Nat)) (t : Nat) (tt : TypeId) (x y : V) : Option (V × Ef) :=
 match appT P tt,y.list? with
 | some (e,sz),some ys =>
  if ys.all (·.length == sz) then
   match x with
   | .nil=>if okLen ys.length = true then some (.own t ys,.app t e ys.length) else none
   | .own j es=>match lns j with
    | some (e',n)=>if e' = e ∧ n = es.length ∧ okLen (es.length + ys.length) = true then some (.own j (es ++ ys),.app j e (es.length + ys.length)) else none
    | none=>none
   | .full es=>if 0 < ys.length ∧ okLen (es.length + ys.length) = true ∧ es.all (·.length == sz) = true then some (.own t (es ++ ys),.app t e (es.length + ys.length)) else if ys.length = 0 then some (.full es,.none) else none
   | _=>none
  else none
 | _,_=>none
def stepS0 {P : Program} (g : Pg P) (obs : Nat → Option (List V)) (lns : Nat → Option (TypeId × Nat)) (k t : Nat) (o : Oper) (ρ : Operand → V) : Option (V × Ef) :=
 match o.op with
 | .alloc e=>match zeroV P e with
  | some z=>match z.cells? with | some cs=>some (.ptr k 0,.alloc cs) | none=>none
  | none=>none
 | .box _ x=>match (ρ x).cells? with | some cs=>some (.ptr k 0,.alloc cs) | none=>none
 | .load ty a=>match ρ a with
  | .ptr j off=>match obs j with
   | some cs=>match partV P ty cs off with | some y=>some (y,.none) | none=>none
   | none=>none
  | .iptr cs off=>match partV P ty (dcells cs) off with | some y=>some (y,.none) | none=>none
  | .d (.other (.pointer (some ⟨b,off,none⟩)))=>match glT b with
   | some cs=>match partV P ty (dcells cs) off with | some y=>some (y,.none) | none=>none
   | none=>none
  | _=>none
 | .store ty a x=>match ρ a with
  | .ptr j off=>match obs j,(ρ x).cells?,sizeT P ty with
   | some cs,some xs,some n=>if xs.length = n ∧ off + n ≤ cs.length ∧ xs.all V.one = true then some (.undef,.store j (splice cs off xs)) else none
   | _,_,_=>none
  | _=>none
 | .buildSlice ty len parts=>rowV P ty len k (parts.toList.map fun p=>(p.1,ρ p.2))
 | .call c=>match c.callee,c.args.toList,c.argTypes.toList with
  | .builtin .append,[x,y],[tt,tt']=>if tt = tt' then appV P lns t tt (ρ x) (ρ y) else none
  | .builtin .len,[x],[ty]=>match lenV P ty (ρ x) with | some y=>some (y,.none) | none=>none
  | _,_,_=>none
 | _=>match pureS g o ρ with | some y=>some (y,.none) | none=>none
def Out {P : Program} (g : Pg P) (w0 : World) (G : Cx) (obs : Nat → Option (List V)) (lns : Nat → Option (TypeId × Nat)) (y : V) (r : Result Next) : Prop :=
 ∃ nx w' G',r = .ok nx w' ∧ ((∃ v,nx = .value v ∧ rel G' y v) ∨ (nx = .skip ∧ y = .undef)) ∧ G.le G' ∧ HRp P w0 w' G' obs lns
theorem inv_agg_one {G : Cx} {xs : List V} {vs : List Value} (r : rels G xs vs) (h : xs.all V.one = true) : ∀ v ∈ vs,v.oneCell' = true := by
 intro v hv
 obtain ⟨i,hi,rfl⟩ := List.getElem_of_mem hv
 have hlt : i < xs.length := by rw [r.1]; exact hi
 exact one_rel (r.2 i xs[i] vs[i] (List.getElem?_eq_getElem hlt) (List.getElem?_eq_getElem hi)) (List.all_eq_true.1 h _ (List.getElem_mem _))
theorem splice_rels {G : Cx} {cs xs : List V} {vs us : List Value} {off : Nat} (r : rels G cs vs) (q : rels G xs us) (h : off + xs.length ≤ cs.length) : rels G (splice cs off xs) (vs.take off ++ us ++ vs.drop (off + us.length)) := by
 have hlen := r.1
 have hq := q.1
 refine ⟨by simp [splice,r.1,q.1],fun m y u h1 h2=>?_⟩
 unfold splice at h1
 have hoff : (cs.take off).length = (vs.take off).length := by simp [hlen]
 rcases Nat.lt_or_ge m (cs.take off ++ xs).length with a | a
 ·rw [List.getElem?_append_left a] at h1
  rw [List.getElem?_append_left (by simp only [List.length_append] at a ⊢; omega)] at h2
  rcases Nat.lt_or_ge m (cs.take off).length with b | b
  ·rw [List.getElem?_append_left b] at h1
   rw [List.getElem?_append_left (hoff ▸ b)] at h2
   rw [List.getElem?_take] at h1 h2
   split at h1
   ·rename_i hm; rw [if_pos hm] at h2; exact r.2 m y u h1 h2
   ·cases h1
  ·rw [List.getElem?_append_right b] at h1
   rw [List.getElem?_append_right (hoff ▸ b),← hoff] at h2
   exact q.2 _ y u h1 h2
 ·rw [List.getElem?_append_right a] at h1
  rw [List.getElem?_append_right (by simp only [List.length_append] at a ⊢; omega)] at h2
  rw [List.getElem?_drop] at h1 h2
  refine r.2 _ y u h1 ?_
  rw [← h2]
  congr 1
  simp only [List.length_append]
  omega
theorem rowV_ok {P : Program} {w0 w : World} {G : Cx} {obs : Nat → Option (List V)} {lns : Nat → Option (TypeId × Nat)} (h : HRp P w0 w G obs lns) {k : Nat} (hk : obs k = none) {ty : TypeId} {len : Nat} {parts : List (Nat × V)} {us : List (Nat × Value)} {y : V} {f : Ef}
  (hl : parts.length = us.length) (hp : ∀ (i : Nat) (p : Nat × V) (q : Nat × Value),parts[i]? = some p → us[i]? = some q → p.1 = q.1 ∧ rel G p.2 q.2) (hr : rowV P ty len k parts = some (y,f)) :
  ∃ v w' G',(Instr.buildSlice ty len ⟨us⟩).run P w = .ok v w' ∧ rel G' y v ∧ G.le G' ∧ HRp P w0 w' G' (f.obs obs k) (f.lns lns) := by
 unfold rowV at hr
 split at hr
 ·rename_i e hu
  split at hr
  ·rename_i sz z hs hz
   split at hr
   ·rename_i zs hzs
    split at hr
    ·rename_i hc
     split at hr
     ·rename_i out hf
      obtain ⟨zv,z1,z2,_⟩ := zeroV_ok hz G w
      have hzr := cells_rel z2 hzs
      have hzl : zv.cells.size = sz := by rw [← hc.1,hzr.1]; simp
      -- the cells ahead of the parts
      have hini : rels G (reps len zs) ((List.range (len * sz)).map fun q=>zv.cells[q % sz]!) := by
       refine ⟨by simp [reps_len,hc.1],fun i x v h1 h2=>?_⟩
       have h3 := reps_at zs x len i h1
       have hi : i < len * sz := by have := getElem_lt h1; rw [reps_len,hc.1] at this; exact this
       rw [List.getElem?_map,List.getElem?_range hi] at h2
       simp at h2
       have hsz : 0 < sz := Nat.pos_of_ne_zero (fun e=>by subst e; simp at hi)
       have hm2 : i % sz < zv.cells.size := by rw [hzl]; exact Nat.mod_lt _ hsz
       rw [hc.1] at h3
       subst h2
       refine hzr.2 (i % sz) x _ h3 ?_
       rw [List.getElem?_eq_getElem (by simpa using hm2)]
       simp [hm2]
      obtain ⟨ws,w1,w2⟩ := fillV_ok parts us _ _ out hf hini hl hp
      have hol : out.length = len * sz ∧ ws.length = len * sz := by
       have : ∀ (parts : List (Nat × V)) (cells out : List V),fillV (fun i=>some (i * sz,sz)) cells parts = some out → out.length = cells.length := by
        intro parts
        induction parts with
        | nil=>intro cells out h; simp only [fillV] at h; injection h with h; rw [h]
        | cons p rest ih =>
         intro cells out h
         obtain ⟨i,x⟩ := p
         unfold fillV at h
         split at h
         ·split at h
          ·rename_i hcc
           rw [ih _ _ h]
           simp [splice]; omega
          ·cases h
         ·cases h
       have h1 := this _ _ _ hf
       rw [reps_len,hc.1] at h1
       exact ⟨h1,by rw [← w2.1]; exact h1⟩
      have hrun : (Instr.buildSlice ty len ⟨us⟩).run P w = .ok (.slice (some ⟨w.heap.size,0,none⟩) len len) (w.alloc (.cells ⟨ws⟩ e)) := by
       have hbig : ¬ (len * sz > 2 ^ 24) := by have := okLen_le hc.2; omega
       by_cases h0 : len * sz = 0
       ·have hw : Instr.fill (fun i=>some (i * sz,sz)) ((Array.range (len * sz)).map fun q=>(#[] : Array Value)[q % 0]!) us = some ⟨ws⟩ := by
         rw [← w1]; congr 1; apply Array.ext'; simp [h0]
        simp only [Instr.buildSlice,Sem.run_bind,run_underlying hu,Result.andThen_ok,run_size hs,Sem.run_ite,hbig,if_false,h0,if_true,Sem.run_pure]
        have hw' : Instr.fill (fun i=>some (i * sz,sz)) ((Array.range 0).map fun q=>(#[] : Array Value)[q % (#[] : Array Value).size]!) us = some ⟨ws⟩ := by
         rw [← hw]; congr 1; apply Array.ext'; simp [h0]
        rw [if_neg (by simp)]
        simp only [Sem.run_pure,Result.andThen_ok,hw']
        simp only [Sem.run_bind,run_row,Result.andThen_ok,Sem.run_pure]
       ·have hw : Instr.fill (fun i=>some (i * sz,sz)) ((Array.range (len * sz)).map fun q=>zv.cells[q % zv.cells.size]!) us = some ⟨ws⟩ := by
         rw [← w1]; congr 1; apply Array.ext'; simp [hzl]
        simp only [Instr.buildSlice,Sem.run_bind,run_underlying hu,Result.andThen_ok,run_size hs,Sem.run_ite,hbig,if_false,h0,Sem.run_pure,z1,hw]
        simp only [Sem.run_bind,run_row,Result.andThen_ok,Sem.run_pure]
      split at hr
      ·rename_i ds hd
       injection hr with hr; injection hr with e1 e2; subst e1; subst e2
       obtain ⟨d1,d2⟩ := datas_rel w2 hd
       have hrow := fresh_row (G := G) (w := w) (e := e) (sz := sz) (len := len) d1 d2 (by rw [d1]; exact hol.2.symm)
       have hcl := chunks_len sz len ds
       refine ⟨_,_,G.withF (fresh w (w.alloc (.cells ⟨ws⟩ e))),hrun,?_,G.le_withF _,h.grow ((Kp.refl w).alloc _)⟩
       have := rel.full (G := G.withF (fresh w (w.alloc (.cells ⟨ws⟩ e)))) (chunks sz len ds) (some ⟨w.heap.size,0,none⟩) (by rw [hcl]; exact hrow)
       rw [hcl] at this
       exact this
      ·injection hr with hr; injection hr with e1 e2; subst e1; subst e2
       obtain ⟨hle,hH⟩ := h.new k hk out ws e w2
       exact ⟨_,_,_,hrun,.sl k 0 len len w.heap.size (upd_same _ _ _),hle,hH⟩
     ·cases hr
    ·cases hr
   ·cases hr
  ·cases hr
 ·cases hr
theorem stepS0_ok {P : Program} {g : Pg P} {w0 w : World} {G : Cx} {obs : Nat → Option (List V)} {lns : Nat → Option (TypeId × Nat)} (h : HRp P w0 w G obs lns) {k t : Nat} (hk : obs k = none) (ht : lns t = none) {o : Oper} {fr : Fr} {a : Act} {y : V} {f : Ef} (hfr : FR G fr a) (hs : stepS0 g obs lns k t o (evalO fr) = some (y, f)) :
    Out g w0 G (f.obs obs k) (f.lns lns) y ((execOp a.eval o).run P w) := by
  have ev := fun x=>evalO_rel hfr x
  have hF := fun b o v q=>(h.fs b o v q).2
  unfold stepS0 at hs
  split at hs <;> rename_i hop
  · rename_i e
    split at hs
    · rename_i z hz
      split at hs
      · rename_i cs hcs
        injection hs with hs; injection hs with e1 e2; subst e1; subst e2
        obtain ⟨zv,z1,z2,_⟩ := zeroV_ok hz G w
        obtain ⟨hle,hH⟩ := h.new k hk cs zv.cells.toList e (cells_rel z2 hcs)
        refine ⟨_,_,_,?_,.inl ⟨_,rfl,.ptr k 0 w.heap.size (upd_same _ _ _)⟩,hle,hH⟩
        simp only [execOp,hop,Instr.alloc,Sem.run_bind,z1,Result.andThen_ok,newVar,run_row,Sem.run_pure]
      · cases hs
    · cases hs
  · rename_i e x
    split at hs
    · rename_i cs hcs
      injection hs with hs; injection hs with e1 e2; subst e1; subst e2
      obtain ⟨hle,hH⟩ := h.new k hk cs (a.eval x).cells.toList e (cells_rel (ev x) hcs)
      refine ⟨_,_,_,?_,.inl ⟨_,rfl,.ptr k 0 w.heap.size (upd_same _ _ _)⟩,hle,hH⟩
      simp only [execOp,hop,Instr.box,Sem.run_bind,Result.andThen_ok,newVar,run_row,Sem.run_pure]
    · cases hs
  · rename_i ty x
    split at hs
    · rename_i j off hx
      split at hs
      · rename_i cs hcs
        split at hs
        · rename_i z hz
          injection hs with hs; injection hs with e1 e2; subst e1; subst e2
          obtain ⟨b,q,hv⟩ := inv_ptr (hx ▸ ev x)
          obtain ⟨b',vs,tt,h1,h2,h3,h4,h5⟩ := h.obl j cs hcs (h.obm j b q) (h.obr j b q)
          rw [q] at h1; injection h1 with h1; subst h1
          obtain ⟨v,r1,r2⟩ := loadF_ok (P := P) (b := b) (o := 0) (w := w) hz h4 (fun i v hi=>by
            rw [cell_of_row w b _ _ _ _ h3]; simpa using hi)
          refine ⟨_,w,G,?_,.inl ⟨v,rfl,r2⟩,Cx.le.refl G,h⟩
          rw [Nat.zero_add] at r1
          simp only [execOp,hop,Instr.loadAt,hv,Instr.sureAddr,Sem.run_bind,Sem.run_pure,Result.andThen_ok,r1]
        · cases hs
      · cases hs
    · rename_i cs off hx
      split at hs
      · rename_i z hz
        injection hs with hs; injection hs with e1 e2; subst e1; subst e2
        obtain ⟨v,r1,r2⟩ := pureS_ok (g := g) (o := o) (w := w) (y := z) hF hfr (by simp only [pureS,hop,hx]; exact hz)
        exact ⟨_,w,G,r1,.inl ⟨v,rfl,r2⟩,Cx.le.refl G,h⟩
      · cases hs
    · rename_i b off hx
      split at hs
      · rename_i cs hg
        split at hs
        · rename_i z hz
          injection hs with hs; injection hs with e1 e2; subst e1; subst e2
          have hr := ev x
          rw [hx] at hr
          have hv : a.eval x = .pointer (some ⟨b,off,none⟩) := by
            generalize a.eval x = q at hr
            cases hr with | d q=>cases q; rfl
          obtain ⟨u,hu⟩ := h.gb.1 b cs hg
          obtain ⟨v,r1,r2⟩ := loadF_ok (P := P) (b := b) (o := 0) (w := w) hz (iptr_cells (G := G) (u := u) (fun j x hx=>(hu j x hx).2)) (fun j v hj=>by
            rw [List.getElem?_map] at hj
            cases hc : cs[j]? with
            | none =>
              rw [List.getElem?_eq_none (by rw [List.length_range]; exact List.getElem?_eq_none_iff.1 hc)] at hj
              cases hj
            | some y =>
              rw [List.getElem?_range (getElem_lt hc)] at hj
              simp at hj; subst hj
              rw [Nat.zero_add]
              exact hF _ _ _ (hu j y hc).1)
          refine ⟨_,w,G,?_,.inl ⟨v,rfl,r2⟩,Cx.le.refl G,h⟩
          rw [Nat.zero_add] at r1
          simp only [execOp,hop,Instr.loadAt,hv,Instr.sureAddr,Sem.run_bind,Sem.run_pure,Result.andThen_ok,r1]
        · cases hs
      · cases hs
    · cases hs
  · rename_i ty x z
    split at hs
    · rename_i j off hx
      split at hs
      · rename_i cs xs n hcs hxs hn
        split at hs
        · rename_i hc
          injection hs with hs; injection hs with e1 e2; subst e1; subst e2
          obtain ⟨b,q,hv⟩ := inv_ptr (hx ▸ ev x)
          obtain ⟨b',vs,tt,h1,h2,h3,h4,h5⟩ := h.obl j cs hcs (h.obm j b q) (h.obr j b q)
          rw [q] at h1; injection h1 with h1; subst h1
          have hr := cells_rel (ev z) hxs
          have hone := inv_agg_one hr hc.2.2
          have hsz : (a.eval z).cells.size = n := by rw [← hc.1,hr.1]; simp
          have hst := run_storeCells_at (P := P) b off tt (a.eval z).cells.toList 0 ⟨vs⟩ w h3 (by simp only [Nat.add_zero,Array.length_toList,List.size_toArray]; rw [hsz,← h4.1]; exact hc.2.1) hone
          have hb := setRow_heap w b ⟨vs⟩ (((⟨vs⟩ : Array Value).toList.take (off + 0) ++ (a.eval z).cells.toList ++ (⟨vs⟩ : Array Value).toList.drop (off + 0 + (a.eval z).cells.toList.length)).toArray) tt (0,0) h3
          have hH := HRp.put (w' := w.setRow b (((⟨vs⟩ : Array Value).toList.take (off + 0) ++ (a.eval z).cells.toList ++ (⟨vs⟩ : Array Value).toList.drop (off + 0 + (a.eval z).cells.toList.length)).toArray)) h q (⟨rfl,rfl,rfl,by simp,fun k _ hk=>setRow_other w b k _ (fun e=>hk (by simp [e]))⟩) (tk_grown (g := b) ⟨rfl,rfl,rfl,by simp,fun k _ hk=>setRow_other w b k _ (fun e=>hk (by simp [e]))⟩ (fun t' q'=>by unfold tagOf at q' ⊢; rw [h3] at q'; rw [hb]; exact q')) hb
            (by simpa using splice_rels h4 hr (by rw [hc.1]; exact hc.2.1))
          refine ⟨_,_,G,?_,.inr ⟨rfl,rfl⟩,Cx.le.refl G,hH⟩
          simp only [execOp,hop,Instr.storeAt,hv,Instr.sureAddr,Sem.run_bind,Sem.run_pure,Result.andThen_ok,storeVar,run_size hn,hsz,ne_eq,not_true_eq_false,Sem.run_ite,if_false,hst]
        · cases hs
      · cases hs
    · cases hs
  · rename_i ty len parts
    obtain ⟨v,w',G',r1,r2,r3,r4⟩ := rowV_ok h hk (us := parts.toList.map fun p=>(p.1,a.eval p.2)) (by simp) (fun i p q h1 h2=>by
      rw [List.getElem?_map] at h1 h2
      cases hq : parts.toList[i]? with
      | none=>rw [hq] at h1; cases h1
      | some r=>rw [hq] at h1 h2; simp at h1 h2; subst h1; subst h2; exact ⟨rfl,ev _⟩) hs
    refine ⟨_,w',G',?_,.inl ⟨v,rfl,r2⟩,r3,r4⟩
    have he : (parts.map fun x=>(x.1,a.eval x.2)) = (⟨parts.toList.map fun p=>(p.1,a.eval p.2)⟩ : Array (Nat × Value)) := by apply Array.ext'; simp
    simp only [execOp,hop,he,Sem.run_bind,r1,Result.andThen_ok,Sem.run_pure]
  · rename_i c
    split at hs
    · rename_i x z tt tt' hcal hargs htys
      split at hs
      · rename_i htt
        subst htt
        have ha : c.args = #[x,z] := by apply Array.ext'; simp [hargs]
        have hty : c.argTypes = #[tt,tt] := by apply Array.ext'; simp [htys]
        have fin : ∀ (u : Value) (w' : World) (G' : Cx),(Builtin.append_ #[tt,tt] o.type #[a.eval x,a.eval z]).run P w = .ok u w' → G.le G' → HRp P w0 w' G' (f.obs obs k) (f.lns lns) → rel G' y u → Out g w0 G (f.obs obs k) (f.lns lns) y ((execOp a.eval o).run P w) := by
          intro u w' G' h1 h2 h3 h4
          refine ⟨_,w',G',?_,.inl ⟨u,rfl,h4⟩,h2,h3⟩
          simp only [execOp,hop,resolve,hcal,ha,hty,Sem.run_bind,Sem.run_pure,Result.andThen_ok,invoke,builtin,List.map_toArray,List.map_cons,List.map_nil,h1]
        unfold appV at hs
        split at hs
        · rename_i e sz ys hT hys
          have ry := list_rel (ev z) hys
          split at hs
          · rename_i hall
            split at hs
            · rename_i hx
              split at hs
              · rename_i hb
                injection hs with hs; injection hs with e1 e2; subst e1; subst e2
                have hv : a.eval x = .slice none 0 0 := by have := ev x; rw [hx] at this; generalize a.eval x = q at *; cases this; rfl
                obtain ⟨b1,b2⟩ := h.begin t ht e
                have hr : rel { G with lv := upd G.lv t ⟨0,P.cellsOf e,.slice none 0 0⟩ } (.own t []) (a.eval x) := by
                  rw [hv]
                  exact .own t [] _ (.nil _ _) _ (upd_same _ _ _) (fun i e h=>by simp at h) (.inl ⟨rfl,rfl⟩)
                obtain ⟨u,w',G',r1,r2,r3,r4⟩ := app_ok (ty := o.type) b2 hT (upd_same _ _ _) hr (relD_mono b1.F ry) hall (by simpa using okLen_le hb)
                have hup : upd (upd lns t (e,0)) t (e,([] : List (List D)).length + ys.length) = upd lns t (e,ys.length) := by
                  funext j
                  by_cases ej : j = t
                  · subst ej; rw [upd_same,upd_same]; simp
                  · rw [upd_ne _ _ ej,upd_ne _ _ ej,upd_ne _ _ ej]
                rw [hup] at r3
                rw [List.nil_append] at r4
                exact fin u w' G' r1 (b1.trans r2) r3 r4
              · cases hs
            · rename_i j es hx
              split at hs
              · rename_i e' n hl
                split at hs
                · rename_i hc
                  obtain ⟨c1,c2,c3⟩ := hc
                  subst c1; subst c2
                  injection hs with hs; injection hs with e1 e2; subst e1; subst e2
                  obtain ⟨u,w',G',r1,r2,r3,r4⟩ := app_ok (ty := o.type) h hT hl (hx ▸ ev x) ry hall (okLen_le c3)
                  exact fin u w' G' r1 r2 r3 r4
                · cases hs
              · cases hs
            · rename_i es hx
              split at hs
              · rename_i hc
                injection hs with hs; injection hs with e1 e2; subst e1; subst e2
                obtain ⟨u,w',G',r1,r2,r3,r4⟩ := appfull_ok (ty := o.type) h ht hT (hx ▸ ev x) ry hall hc.2.2 hc.1 (okLen_le hc.2.1)
                exact fin u w' G' r1 r2 r3 r4
              · split at hs
                · rename_i hy0
                  injection hs with hs; injection hs with e1 e2; subst e1; subst e2
                  have : ys = [] := List.eq_nil_of_length_eq_zero hy0
                  subst this
                  obtain ⟨i,hu,hi⟩ := appT_und hT
                  have hr := ev x
                  rw [hx] at hr
                  obtain ⟨B,c',hz⟩ := list_len ry
                  have hz' : a.eval z = .slice B 0 c' := hz
                  generalize hv : a.eval x = vx at hr
                  cases hr with
                  | full _ A q =>
                    refine fin (.slice A es.length es.length) w G ?_ (Cx.le.refl G) h (.full es A q)
                    rw [hv,hz']
                    exact append_zero hu hi A B es.length es.length c' (Nat.le_refl _)
                · cases hs
            · cases hs
          · cases hs
        · cases hs
      · cases hs
    · rename_i x ty hcal hargs htys
      split at hs
      · rename_i z hz
        injection hs with hs; injection hs with e1 e2; subst e1; subst e2
        obtain ⟨v,r1,r2⟩ := pureS_ok (g := g) (o := o) (w := w) (y := z) hF hfr (by simp only [pureS,hop,hcal,hargs,htys]; exact hz)
        exact ⟨_,w,G,r1,.inl ⟨v,rfl,r2⟩,Cx.le.refl G,h⟩
      · cases hs
    · cases hs
  · split at hs
    · rename_i z hz
      injection hs with hs; injection hs with e1 e2; subst e1; subst e2
      obtain ⟨v,r1,r2⟩ := pureS_ok (w := w) hF hfr hz
      exact ⟨_,w,G,r1,.inl ⟨v,rfl,r2⟩,Cx.le.refl G,h⟩
    · cases hs
def bytesT (P : Program) (t : TypeId) : Bool := match P.underlying t with | some (.slice e)=>(match P.underlying e with | some (.int .u8)=>true | _=>false) | _=>false
def strT (P : Program) (t : TypeId) : Bool := match P.underlying t with | some .string=>true | _=>false
def sliceT (P : Program) (t : TypeId) : Bool := match P.underlying t with | some (.slice _)=>true | _=>false
def mmI (mx : Bool) (a b : Int) : Int := match mx with | true=>if b > a then b else a | false=>if b < a then b else a
def mmF (mx : Bool) (k : IntKind) : Int → List V → Option V
 | a,[]=>some (.d (.int k a))
 | a,.d (.int _ b) :: r=>mmF mx k (mmI mx a b) r
 | _,_=>none
def mmV (mx : Bool) : List V → Option V
 | .d (.int k a) :: r=>mmF mx k a r
 | _=>none
def ifaceT (P : Program) (t : TypeId) : Bool := match P.underlying t with | some (.interface _)=>true | _=>false
def isNilC : Operand → Bool
 | .const .nilIface=>true
 | _=>false
def nilI : V → Option Bool
 | .d (.other .nilIface)=>some true
 | .d (.other (.iface _ _))=>some false
 | _=>none
def binN (op : BinOp) (x : V) : Option V := match nilI x,op with
 | some b,.eql=>some (.d (.bool b))
 | some b,.neq=>some (.d (.bool (!b)))
 | _,_=>none
def nilB : V → Option Bool
 | .nil=>some true
 | .d (.other (.slice A _ _))=>some A.isNone
 | x=>match x.list? with | some (_ :: _)=>some false | _=>none
def extA (P : Program) : List TypeId → List V → Option V
 | _,[.full _,.full _]=>none
 | [tt,tt'],[.full [],y]=>if tt = tt' then match appT P tt,y.list? with
   | some (_,sz),some ys=>if ys.all (·.length == sz) = true ∧ okLen ys.length = true then some (.d (.list ys)) else none
   | _,_=>none
  else none
 | _,_=>none
theorem app_empty {P : Program} {w0 w : World} {G : Cx} {obs : Nat → Option (List V)} {lns : Nat → Option (TypeId × Nat)} (h : HRp P w0 w G obs lns) {ty tt e : TypeId} {sz : Nat} {ys : List (List D)} {vx : Value} (A : Option Addr) (ht : appT P tt = some (e,sz))
  (ry : relD G.F (.list ys) vx) (hsz : ys.all (·.length == sz) = true) (hb : ys.length ≤ 16777216) :
  ∃ u w',(Builtin.append_ #[tt,tt] ty #[.slice A 0 0,vx]).run P w = .ok u w' ∧ Kp w w' ∧ relD (G.withF (fresh w w')).F (.list ys) u := by
 have hF := fun b o v q=>(h.fs b o v q).2
 unfold appT at ht
 split at ht
 ·rename_i e' hu
  split at ht
  ·rename_i i hi
   split at ht
   ·rename_i z hz
    split at ht
    ·rename_i hc
     injection ht with ht
     injection ht with h1 h2
     subst h1; subst h2
     rcases Nat.eq_zero_or_pos ys.length with h0 | hpos
     ·have : ys = [] := List.eq_nil_of_length_eq_zero h0
      subst this
      obtain ⟨B,c',rfl⟩ := list_len ry
      exact ⟨_,w,append_zero hu hi A B 0 0 c' (Nat.le_refl _),Kp.refl w,.nil _ _⟩
     ·obtain ⟨b,off,c,news,rfl,n1,n2,n3,n4⟩ := list_news hF ry hpos hsz
      have hby : ys.length * i.bytes ≤ 140737488355328 := by
       have := Nat.mul_le_mul hb hc.2.2
       omega
      have hrun : ∃ cap w',(Builtin.append_ #[tt,tt] ty #[.slice A 0 0,.slice (some ⟨b,off,none⟩) ys.length c]).run P w = .ok (.slice (some ⟨w.heap.size,0,none⟩) ys.length cap) w' ∧ ys.length ≤ cap ∧ Kp w w' ∧ ∀ (j : Nat) u,news[j]? = some u → w'.cell? ⟨w.heap.size,j,none⟩ = some u := by
       have hcell : ∀ (zs : Array Value) (j : Nat) u,news[j]? = some u → (w.drew.alloc (.cells (news.toArray ++ zs) e')).cell? ⟨w.heap.size,j,none⟩ = some u := by
        intro zs j u hj
        have hlt := getElem_lt hj
        rw [cell_of_row (w.drew.alloc (.cells (news.toArray ++ zs) e')) w.heap.size j (news.toArray ++ zs) e' (0,0) (heap_alloc_new w.drew _)]
        rw [Array.getElem?_append_left (by simpa using hlt)]
        simpa using hj
       cases A with
       | none =>
        have hr := run_append_nil (P := P) w tt ty e' i z hu hi hz ⟨b,off,none⟩ ys.length c news n1 n2 hpos (by omega) (by omega)
        exact ⟨_,_,hr,grownCap_ge _ _ _ _,((Kp.refl w).drew).alloc _,hcell _⟩
       | some ad =>
        have hr := run_append_grow (P := P) w tt ty e' i z hu hi hz ad 0 0 [] (by simp) (fun j u hj=>by simp at hj) ⟨b,off,none⟩ ys.length c news n1 n2 (by omega) (by omega) (growslice_fits (by omega) (by rw [Nat.zero_add]; omega))
        simp only [Nat.zero_add,List.nil_append,Array.empty_append] at hr
        exact ⟨_,_,hr,grownCap_ge _ _ _ _,((Kp.refl w).drew).alloc _,hcell _⟩
      obtain ⟨cap,w',r1,r2,r3,r4⟩ := hrun
      refine ⟨_,w',r1,r3,?_⟩
      have hs : ∀ (k : Nat) (e : List D),ys[k]? = some e → e.length = i.size := fun k e hk=>by
       have := List.all_eq_true.1 hsz e (List.mem_of_getElem? hk)
       simpa using this
      refine .list ys w.heap.size 0 cap i.size (fun k j=>(news[k * i.size + j]?).getD undef) hpos r2 hs (fun k j e x hk hx=>?_) (fun k j e x hk hx=>?_)
      ·obtain ⟨u,u1,u2⟩ := n4 k j e x hk hx
       rw [u1,Nat.zero_add]
       exact .inr ⟨Nat.le_refl _,r4 _ _ u1⟩
      ·obtain ⟨u,u1,u2⟩ := n4 k j e x hk hx
       rw [u1]
       exact relD_mono (fun _ _ _ q=>.inl q) u2
    ·cases ht
   ·cases ht
  ·cases ht
 ·cases ht
def extS (P : Program) (o : Oper) (ρ : Operand → V) : Option V :=
 match o.op with
 | .convert src dst x=>match ρ x with
  | .d (.str s)=>if bytesT P dst = true ∧ (P.underlying src).isSome = true then some (.d (.list (s.map fun b=>[.int .u8 b.toNat]))) else none
  | .d (.int _ n)=>if strT P dst = true ∧ (P.underlying src).isSome = true then some (.d (.str (Utf8.encode n).data.toList)) else none
  | _=>none
 | .binOp op t x y _=>if sliceT P t = true then
   match ρ y,op with
   | .nil,.eql=>match nilB (ρ x) with | some b=>some (.d (.bool b)) | none=>none
   | .nil,.neq=>match nilB (ρ x) with | some b=>some (.d (.bool (!b))) | none=>none
   | _,_=>none
  else if ifaceT P t = true ∧ isNilC y = true then binN op (ρ x) else none
 | .call c=>match c.callee with
  | .builtin .max=>mmV true (c.args.toList.map ρ)
  | .builtin .min=>mmV false (c.args.toList.map ρ)
  | .builtin .append=>extA P c.argTypes.toList (c.args.toList.map ρ)
  | _=>none
 | _=>none
theorem inv_str {G : Cx} {s : List UInt8} {v : Value} (r : rel G (.d (.str s)) v) : v = .string ⟨s.toArray⟩ := by cases r with | d q=>cases q; rfl
theorem mm_ok {P : Program} {G : Cx} (w : World) (mx : Bool) (k : IntKind) (f : Value → Value → Sem Value) (hf : ∀ k a k' b,f (.int k a) (.int k' b) = pure (.int k (mmI mx a b))) : ∀ (r : List V) (us : List Value) (a : Int) (y : V),rels G r us → mmF mx k a r = some y → ∃ v,(us.foldlM f (.int k a)).run P w = .ok v w ∧ rel G y v
 | [],us,a,y,hr,h=>by
  have : us = [] := List.eq_nil_of_length_eq_zero hr.1.symm
  subst this
  injection h with h; subst h
  exact ⟨.int k a,by simp,.d (.int k a)⟩
 | x :: r,us,a,y,hr,h=>by
  cases us with
  | nil=>have := hr.1; simp at this
  | cons u us =>
   obtain ⟨h1,h2⟩ := rels_cons_inv hr
   unfold mmF at h
   split at h
   ·rename_i e; cases e
   ·rename_i a' k' b r' e
    injection e with e1 e2
    subst e1; subst e2
    have hu := inv_int h1
    subst hu
    obtain ⟨v,q1,q2⟩ := mm_ok w mx k f hf r us _ y h2 h
    refine ⟨v,?_,q2⟩
    rw [List.foldlM_cons,hf]
    simpa using q1
   ·cases h
theorem nilB_ok {G : Cx} {x : V} {v : Value} {b : Bool} (r : rel G x v) (h : nilB x = some b) : ∃ A n c,v = .slice A n c ∧ A.isNone = b := by
 unfold nilB at h
 split at h
 ·injection h with h; subst h; cases r; exact ⟨none,0,0,rfl,rfl⟩
 ·rename_i A n c
  injection h with h; subst h
  cases r with | d q=>cases q; exact ⟨A,n,c,rfl,rfl⟩
 ·split at h
  ·rename_i e es hl
   injection h with h; subst h
   have := list_rel r hl
   cases this with
   | list _ b off c sz u hne=>exact ⟨_,_,c,rfl,rfl⟩
  ·cases h
theorem extS_ok {P : Program} {w0 w : World} {G : Cx} {obs : Nat → Option (List V)} {lns : Nat → Option (TypeId × Nat)} (h : HRp P w0 w G obs lns) {o : Oper} {fr : Fr} {a : Act} {y : V} (hfr : FR G fr a) (he : extS P o (evalO fr) = some y) :
    ∃ v w' G',(execOp a.eval o).run P w = .ok (.value v) w' ∧ rel G' y v ∧ G.le G' ∧ HRp P w0 w' G' obs lns := by
  have ev := fun x=>evalO_rel hfr x
  unfold extS at he
  split at he <;> rename_i hop
  · rename_i src dst x
    split at he
    · rename_i s hx
      split at he
      · rename_i hc
        injection he with he; subst he
        have hv := inv_str (hx ▸ ev x)
        obtain ⟨u,hu⟩ := Option.isSome_iff_exists.1 hc.2
        have hb := hc.1
        unfold bytesT at hb
        split at hb
        · rename_i e hd
          split at hb
          · rename_i hee
            have run := Lib.run_convert_string_bytes (P := P) w src dst e ⟨s.toArray⟩ hu hd hee
            have k0 : Kp w (w.drew.alloc (.cells (Lib.bytesCells w e ⟨s.toArray⟩) e)) := ((Kp.refl w).drew).alloc _
            have hk : Kp w (Lib.bytesWorld w e ⟨s.toArray⟩) := ⟨k0.below.os,k0.below.tape,k0.below.output,by rw [Lib.bytesWorld_size]; omega,fun i hi=>Lib.bytesWorld_at_old w e _ i hi⟩
            refine ⟨.slice (some ⟨w.heap.size,0,none⟩) (⟨s.toArray⟩ : ByteArray).size (grownCap w (⟨s.toArray⟩ : ByteArray).size 0 e),_,_,by simp only [execOp,hop,hv,Sem.run_bind,run,Result.andThen_ok,Sem.run_pure],.d ?_,G.le_withF _,h.grow hk⟩
            have hsz : (⟨s.toArray⟩ : ByteArray).size = s.length := by simp [ByteArray.size]
            by_cases h0 : s.length = 0
            · have : s = [] := List.eq_nil_of_length_eq_zero h0
              subst this
              exact .nil _ _
            · have key := relD.list (F := (G.withF (fresh w (Lib.bytesWorld w e ⟨s.toArray⟩))).F) (s.map fun b => [.int .u8 b.toNat]) w.heap.size 0 (grownCap w (⟨s.toArray⟩ : ByteArray).size 0 e) 1 (fun i _ => .int .u8 (s.getD i 0).toNat) (by simp; omega) (by
                  have := grownCap_ge w (⟨s.toArray⟩ : ByteArray).size 0 e
                  simp only [List.length_map]; omega)
                (fun i c hc=>by
                  rw [List.getElem?_map] at hc
                  cases hq : s[i]? with
                  | none=>rw [hq] at hc; cases hc
                  | some z=>rw [hq] at hc; simp at hc; subst hc; rfl)
                (fun i j c x hc hx=>by
                  rw [List.getElem?_map] at hc
                  cases hq : s[i]? with
                  | none=>rw [hq] at hc; cases hc
                  | some z =>
                    rw [hq] at hc; simp at hc; subst hc
                    have hj : j = 0 := by have := getElem_lt hx; simp at this; omega
                    subst hj
                    refine .inr ⟨Nat.le_refl _,?_⟩
                    have hi := getElem_lt hq
                    have := Lib.bytesWorld_cell w e ⟨s.toArray⟩ i (by rw [hsz]; exact hi)
                    simpa using this)
                (fun i j c x hc hx=>by
                  rw [List.getElem?_map] at hc
                  cases hq : s[i]? with
                  | none=>rw [hq] at hc; cases hc
                  | some z =>
                    rw [hq] at hc; simp at hc; subst hc
                    have hj : j = 0 := by have := getElem_lt hx; simp at this; omega
                    subst hj
                    simp at hx; subst hx
                    have : s.getD i 0 = z := by rw [List.getD_eq_getElem?_getD,hq]; rfl
                    rw [this]
                    exact .int _ _)
              rw [List.length_map] at key
              rw [hsz] at key ⊢
              exact key
          · cases hb
        · cases hb
      · cases he
    · rename_i k n hx
      split at he
      · rename_i hc
        injection he with he; subst he
        have hv := inv_int (hx ▸ ev x)
        obtain ⟨u,hu⟩ := Option.isSome_iff_exists.1 hc.2
        have hb := hc.1
        unfold strT at hb
        split at hb
        · rename_i hd
          refine ⟨.string (Utf8.encode n),w,G,?_,.d ?_,Cx.le.refl G,h⟩
          · simp only [execOp,hop,hv,convert,Sem.run_bind,run_underlying hu,run_underlying hd,Result.andThen_ok,Conv.intToString,Sem.run_pure]
          · exact .str (F := G.F) (Utf8.encode n).data.toList
        · cases hb
      · cases he
    · cases he
  · rename_i op t x z t'
    split at he
    · rename_i hs
      unfold sliceT at hs
      split at hs
      · rename_i e hd
        have fin : ∀ (b : Bool),nilB (evalO fr x) = some b → evalO fr z = .nil → (∀ c,(op = .eql ∧ c = b ∨ op = .neq ∧ c = !b) → ((do pure (.value (← (do eqGuard op t x z (a.eval x) (a.eval z); binOp op t (a.eval x) (a.eval z)))) : Sem Next)).run P w = .ok (.value (.bool c)) w) := by
          intro b hb hz c hc
          obtain ⟨A,n,cp,hv,hA⟩ := nilB_ok (ev x) hb
          have hz' : a.eval z = .slice none 0 0 := by
            have := ev z; rw [hz] at this; generalize a.eval z = q at *; cases this; rfl
          have heq : (Op.equal t (.slice A n cp) (.slice none 0 0)).run P w = .ok b w := by
            simp only [Op.equal,Op.maxDepth]
            rw [show (10000 : Nat) = 9999 + 1 from rfl]
            unfold Op.equalIn
            cases A with
            | none=>simp [run_underlying hd] at hA ⊢; exact hA.symm ▸ rfl
            | some p=>simp [run_underlying hd] at hA ⊢; exact hA.symm ▸ rfl
          rcases hc with ⟨rfl,rfl⟩ | ⟨rfl,rfl⟩
          · simp [hv,hz',eqGuard,binOp,heq]
          · simp [hv,hz',eqGuard,binOp,heq]
        split at he
        · rename_i hz
          split at he
          · rename_i b hb
            injection he with he; subst he
            exact ⟨_,w,G,by simp only [execOp,hop]; exact fin b hb hz b (.inl ⟨rfl,rfl⟩),.d (.bool b),Cx.le.refl G,h⟩
          · cases he
        · rename_i hz
          split at he
          · rename_i b hb
            injection he with he; subst he
            exact ⟨_,w,G,by simp only [execOp,hop]; exact fin b hb hz (!b) (.inr ⟨rfl,rfl⟩),.d (.bool (!b)),Cx.le.refl G,h⟩
          · cases he
        · cases he
      · cases hs
    · split at he
      · rename_i _ hi
        obtain ⟨hi,hc⟩ := hi
        unfold ifaceT at hi
        split at hi
        · rename_i ms hd
          have hz : z = .const .nilIface := by
            unfold isNilC at hc
            split at hc
            · rfl
            · cases hc
          subst hz
          unfold binN at he
          have fin : ∀ (b : Bool),nilI (evalO fr x) = some b → (Op.equal t (a.eval x) .nilIface).run P w = .ok b w ∧ (eqGuard op t x (.const .nilIface) (a.eval x) .nilIface).run P w = .ok () w ∧ (a.eval x = .nilIface ∨ ∃ te pe,a.eval x = .iface te pe) := by
            intro b hb
            have hx := ev x
            have hop2 : ∀ v,a.eval x = v → (v = .nilIface ∨ ∃ te pe,v = .iface te pe) → (Op.equal t v .nilIface).run P w = .ok (match v with | .nilIface=>true | _=>false) w := by
              rintro v _ (rfl | ⟨te,pe,rfl⟩)
              · simp only [Op.equal,Op.maxDepth]
                rw [show (10000 : Nat) = 9999 + 1 from rfl]
                unfold Op.equalIn
                simp [run_underlying hd]
              · simp only [Op.equal,Op.maxDepth]
                rw [show (10000 : Nat) = 9999 + 1 from rfl]
                unfold Op.equalIn
                simp [run_underlying hd]
            unfold nilI at hb
            split at hb
            · rename_i e
              injection hb with hb; subst hb
              rw [e] at hx
              have hv : a.eval x = .nilIface := by generalize a.eval x = q at *; cases hx with | d q1=>cases q1; rfl
              refine ⟨by rw [hv]; exact hop2 _ hv (.inl rfl),?_,.inl hv⟩
              rw [hv]
              unfold eqGuard
              cases op <;> simp
            · rename_i te pe e
              injection hb with hb; subst hb
              rw [e] at hx
              have hv : a.eval x = .iface te pe := by generalize a.eval x = q at *; cases hx with | d q1=>cases q1; rfl
              refine ⟨by rw [hv]; exact hop2 _ hv (.inr ⟨te,pe,rfl⟩),?_,.inr ⟨te,pe,hv⟩⟩
              rw [hv]
              unfold eqGuard
              cases op <;> simp
            · cases hb
          have hzv : a.eval (.const .nilIface) = .nilIface := rfl
          split at he
          · rename_i b hb
            injection he with he; subst he
            obtain ⟨f1,f2,f3⟩ := fin b hb
            refine ⟨_,w,G,?_,.d (.bool b),Cx.le.refl G,h⟩
            simp only [execOp,hop,hzv]
            rcases f3 with f3 | ⟨te,pe,f3⟩ <;> rw [f3] at f1 f2 ⊢ <;> simp [f2,binOp,f1]
          · rename_i b hb
            injection he with he; subst he
            obtain ⟨f1,f2,f3⟩ := fin b hb
            refine ⟨_,w,G,?_,.d (.bool (!b)),Cx.le.refl G,h⟩
            simp only [execOp,hop,hzv]
            rcases f3 with f3 | ⟨te,pe,f3⟩ <;> rw [f3] at f1 f2 ⊢ <;> simp [f2,binOp,f1]
          · cases he
        · cases hi
      · cases he
  · rename_i c
    have hargs : (c.args.map a.eval).toList = c.args.toList.map a.eval := by simp
    have hrels : rels G (c.args.toList.map (evalO fr)) (c.args.toList.map a.eval) := ⟨by simp,fun i x v h1 h2=>by
      rw [List.getElem?_map] at h1 h2
      cases hq : c.args.toList[i]? with
      | none=>rw [hq] at h1; cases h1
      | some r=>rw [hq] at h1 h2; simp at h1 h2; subst h1; subst h2; exact ev _⟩
    have key : ∀ (mx : Bool) (f : Value → Value → Sem Value), (∀ k a k' b, f (.int k a) (.int k' b) = pure (.int k (mmI mx a b))) → mmV mx (c.args.toList.map (evalO fr)) = some y →
        ∃ v, ((match c.args.toList.map a.eval with | [] => stuck "" | x :: rest => rest.foldlM f x) : Sem Value).run P w = .ok v w ∧ rel G y v := by
      intro mx f hf hm
      generalize c.args.toList.map (evalO fr) = xs at hrels hm
      generalize c.args.toList.map a.eval = us at hrels
      unfold mmV at hm
      split at hm
      · rename_i k n r
        cases us with
        | nil=>have := hrels.1; simp at this
        | cons u us =>
          obtain ⟨h1,h2⟩ := rels_cons_inv hrels
          have hu := inv_int h1
          subst hu
          exact mm_ok w mx k f hf r us n y h2 hm
      · cases hm
    split at he
    · rename_i hcal
      obtain ⟨v,r1,r2⟩ := key true Builtin.max2 (fun k a k' b=>by simp only [Builtin.max2,mmI]) he
      refine ⟨v,w,G,?_,r2,Cx.le.refl G,h⟩
      simp only [execOp,hop,resolve,hcal,Sem.run_bind,Sem.run_pure,Result.andThen_ok,invoke,builtin,Builtin.max_,hargs]
      generalize c.args.toList.map a.eval = us at r1 ⊢
      cases us with
      | nil=>cases r1
      | cons x r =>
        simp only at r1 ⊢
        rw [r1]; rfl
    · rename_i hcal
      obtain ⟨v,r1,r2⟩ := key false Builtin.min2 (fun k a k' b=>by simp only [Builtin.min2,mmI]) he
      refine ⟨v,w,G,?_,r2,Cx.le.refl G,h⟩
      simp only [execOp,hop,resolve,hcal,Sem.run_bind,Sem.run_pure,Result.andThen_ok,invoke,builtin,Builtin.min_,hargs]
      generalize c.args.toList.map a.eval = us at r1 ⊢
      cases us with
      | nil=>cases r1
      | cons x r =>
        simp only at r1 ⊢
        rw [r1]; rfl
    · rename_i hcal
      unfold extA at he
      split at he
      · cases he
      · rename_i t1 t2 tt tt' y0 hnf htys hxs
        split at he
        · rename_i htt
          subst htt
          split at he
          · rename_i e sz ys hap hys
            split at he
            · rename_i hc
              injection he with he; subst he
              rw [hxs] at hrels
              have hargs2 : ∃ v u,c.args.toList.map a.eval = [v,u] ∧ rel G (.full []) v ∧ rel G y0 u := by
                generalize c.args.toList.map a.eval = us at hrels
                match us,hrels with
                | [v,u],hr=>exact ⟨v,u,rfl,(rels_cons_inv hr).1,(rels_cons_inv (rels_cons_inv hr).2).1⟩
                | [],hr=>have := hr.1; simp at this
                | [_],hr=>have := hr.1; simp at this
                | _ :: _ :: _ :: _,hr=>have := hr.1; simp at this
              obtain ⟨v,u,hvu,r1,r2⟩ := hargs2
              have hA : ∃ A,v = .slice A 0 0 := by
                generalize hf : V.full [] = f at r1
                cases r1 with
                | full es A q=>injection hf with hf; subst hf; exact ⟨A,rfl⟩
                | _=>cases hf
              obtain ⟨A,rfl⟩ := hA
              obtain ⟨u',w',q1,q2,q3⟩ := app_empty (ty := o.type) h A hap (list_rel r2 hys) hc.1 (okLen_le hc.2)
              refine ⟨u',w',G.withF (fresh w w'),?_,.d q3,G.le_withF _,h.grow q2⟩
              have e1 : c.args.map a.eval = #[.slice A 0 0,u] := by
                apply Array.ext'
                rw [hargs,hvu]
              have e2 : c.argTypes = #[tt,tt] := by
                apply Array.ext'
                rw [htys]
              simp only [execOp,hop,resolve,hcal,Sem.run_bind,Sem.run_pure,Result.andThen_ok,invoke,builtin,e1,e2,q1]
            · cases he
          · cases he
        · cases he
      · cases he
    · cases he
  · cases he
def stepS {P : Program} (g : Pg P) (obs : Nat → Option (List V)) (lns : Nat → Option (TypeId × Nat)) (k t : Nat) (o : Oper) (ρ : Operand → V) : Option (V × Ef) :=
 match extS P o ρ with
 | some y=>some (y,.none)
 | none=>stepS0 g obs lns k t o ρ
theorem stepS_ok {P : Program} {g : Pg P} {w0 w : World} {G : Cx} {obs : Nat → Option (List V)} {lns : Nat → Option (TypeId × Nat)} (h : HRp P w0 w G obs lns) {k t : Nat} (hk : obs k = none) (ht : lns t = none) {o : Oper} {fr : Fr} {a : Act} {y : V} {f : Ef} (hfr : FR G fr a) (hs : stepS g obs lns k t o (evalO fr) = some (y,f)) :
  Out g w0 G (f.obs obs k) (f.lns lns) y ((execOp a.eval o).run P w) := by
 unfold stepS at hs
 split at hs
 ·rename_i z hz
  injection hs with hs; injection hs with e1 e2; subst e1; subst e2
  obtain ⟨v,w',G',r1,r2,r3,r4⟩ := extS_ok h hfr hz
  exact ⟨_,w',G',r1,.inl ⟨v,rfl,r2⟩,r3,r4⟩
 ·exact stepS0_ok h hk ht hfr hs
end Go.Proofs.YtjgngikiglhleaaGreatDoor
