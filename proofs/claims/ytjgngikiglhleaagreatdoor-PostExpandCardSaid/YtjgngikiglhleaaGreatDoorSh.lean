import Derived.Test.YtjgngikiglhleaaGreatDoorSg
namespace Go.Proofs.YtjgngikiglhleaaGreatDoor
open Go.RowKit
inductive Ef where
 | none
 | alloc (cs : List V)
 | store (k : Nat) (cs : List V)
 | app (t : Nat) (e : TypeId) (n : Nat)
def Ef.obs (f : Ef) (obs : Nat → Option (List V)) (k : Nat) : Nat → Option (List V) := match f with | .alloc cs=>upd obs k cs | .store j cs=>upd obs j cs | _=>obs
def Ef.lns (f : Ef) (lns : Nat → Option (TypeId × Nat)) : Nat → Option (TypeId × Nat) := match f with | .app t e n=>upd lns t (e,n) | _=>lns
def chunks (sz : Nat) : Nat → List D → List (List D)
 | 0,_=>[]
 | n + 1,ds=>ds.take sz :: chunks sz n (ds.drop sz)
theorem chunks_len (sz : Nat) : ∀ (n : Nat) (ds : List D),(chunks sz n ds).length = n
 | 0,_=>rfl
 | n + 1,ds=>by simp [chunks,chunks_len sz n]
theorem chunks_at (sz : Nat) : ∀ (n : Nat) (ds : List D) (i j : Nat) (e : List D),n * sz ≤ ds.length → (chunks sz n ds)[i]? = some e → e.length = sz ∧ (j < sz → e[j]? = ds[i * sz + j]?)
 | 0,_,i,j,e,_,h=>by simp [chunks] at h
 | n + 1,ds,i,j,e,hl,h=>by
  rw [Nat.succ_mul] at hl
  cases i with
  | zero =>
   simp [chunks] at h; subst h
   exact ⟨by simp; omega,fun hj=>by rw [List.getElem?_take,if_pos hj]; simp⟩
  | succ i =>
   simp only [chunks,List.getElem?_cons_succ] at h
   obtain ⟨h1,h2⟩ := chunks_at sz n (ds.drop sz) i j e (by simp; omega) h
   refine ⟨h1,fun hj=>?_⟩
   rw [h2 hj,List.getElem?_drop]
   congr 1
   rw [Nat.succ_mul]; omega
theorem fresh_row {G : Cx} {w : World} {ds : List D} {ws : List Value} {sz len : Nat} {e : TypeId} (hl : ds.length = ws.length) (hr : ∀ (i : Nat) (x : D) (v : Value),ds[i]? = some x → ws[i]? = some v → relD G.F x v) (hn : len * sz = ds.length) :
  relD (G.withF (fresh w (w.alloc (.cells ⟨ws⟩ e)))).F (.list (chunks sz len ds)) (.slice (some ⟨w.heap.size,0,none⟩) len len) := by
 have hlen := chunks_len sz len ds
 by_cases h0 : len = 0
 ·subst h0
  exact .nil _ _
 ·have key := relD.list (F := (G.withF (fresh w (w.alloc (.cells ⟨ws⟩ e)))).F) (chunks sz len ds) w.heap.size 0 len sz (fun i j=>ws.getD (i * sz + j) undef) (by omega) (by omega)
   (fun i c hc=>(chunks_at sz len ds i 0 c (by omega) hc).1)
   (fun i j c x hc hx=>by
    obtain ⟨q1,q2⟩ := chunks_at sz len ds i j c (by omega) hc
    have hj := getElem_lt hx
    rw [q2 (by omega)] at hx
    have hlt := getElem_lt hx
    right
    refine ⟨Nat.le_refl _,?_⟩
    have hb := heap_alloc_new w (.cells ⟨ws⟩ e)
    rw [cell_of_row _ _ _ _ _ _ hb]
    simp [Nat.zero_add]
    rw [List.getElem?_eq_getElem (hl ▸ hlt)]; rfl)
   (fun i j c x hc hx=>by
    obtain ⟨q1,q2⟩ := chunks_at sz len ds i j c (by omega) hc
    have hj := getElem_lt hx
    rw [q2 (by omega)] at hx
    have hlt := getElem_lt hx
    refine relD_mono (fun _ _ _ q=>.inl q) (hr _ x _ hx ?_)
    simp only [List.getD_eq_getElem?_getD]
    rw [List.getElem?_eq_getElem (hl ▸ hlt)]; rfl)
  rw [hlen] at key
  exact key
theorem relD_one {F : Nat → Nat → Value → Prop} {x : D} {v : Value} (r : relD F x v) : v.oneCell' = true := by cases r <;> first | rfl | assumption
theorem list_news {F : Nat → Nat → Value → Prop} {ys : List (List D)} {v : Value} {sz : Nat} {w : World} (hF : ∀ b o v,F b o v → w.cell? ⟨b,o,none⟩ = some v) (r : relD F (.list ys) v) (hpos : 0 < ys.length) (hsz : ys.all (·.length == sz) = true) :
  ∃ b off c,∃ news : List Value,v = .slice (some ⟨b,off,none⟩) ys.length c ∧ news.length = ys.length * sz ∧ (∀ (j : Nat) u,news[j]? = some u → w.cell? ((⟨b,off,none⟩ : Addr).add j) = some u) ∧ (∀ u ∈ news,u.oneCell' = true) ∧
   ∀ (i j : Nat) (e : List D) (x : D),ys[i]? = some e → e[j]? = some x → ∃ u,news[i * sz + j]? = some u ∧ relD F x u := by
 cases r with
 | nil A c=>simp at hpos
 | list _ b off c sz' u hne hcap hs hFc hr =>
  have e0 : sz' = sz := by
   have q := List.all_eq_true.1 hsz ys[0] (List.getElem_mem _)
   have q2 := hs 0 ys[0] (List.getElem?_eq_getElem hne)
   simp at q
   omega
  subst e0
  refine ⟨b,off,c,(List.range (ys.length * sz')).map (fun q=>u (q / sz') (q % sz')),rfl,by simp,?_,?_,?_⟩
  ·intro j v hv
   rw [List.getElem?_map] at hv
   cases hq : (List.range (ys.length * sz'))[j]? with
   | none=>rw [hq] at hv; cases hv
   | some q =>
    have hj : j < ys.length * sz' := by have := getElem_lt hq; simpa using this
    rw [List.getElem?_range hj] at hq; injection hq with hq; subst hq
    rw [List.getElem?_range hj] at hv; simp at hv; subst hv
    have hz : 0 < sz' := Nat.pos_of_ne_zero (fun h=>by subst h; simp at hj)
    have hi : j / sz' < ys.length := (Nat.div_lt_iff_lt_mul hz).2 hj
    have he := List.getElem?_eq_getElem hi
    have hel := hs _ _ he
    have hm : j % sz' < (ys[j / sz']).length := by rw [hel]; exact Nat.mod_lt _ hz
    have := hFc _ _ _ _ he (List.getElem?_eq_getElem hm)
    rw [Addr.add_lit]
    have e1 : off + j / sz' * sz' + j % sz' = off + j := by have := Nat.div_add_mod' j sz'; omega
    rw [e1] at this
    exact hF _ _ _ this
  ·intro v hv
   obtain ⟨q,hq,rfl⟩ := List.mem_map.1 hv
   have hj : q < ys.length * sz' := List.mem_range.1 hq
   have hz : 0 < sz' := Nat.pos_of_ne_zero (fun h=>by subst h; simp at hj)
   have hi : q / sz' < ys.length := (Nat.div_lt_iff_lt_mul hz).2 hj
   have he := List.getElem?_eq_getElem hi
   have hel := hs _ _ he
   have hm : q % sz' < (ys[q / sz']).length := by rw [hel]; exact Nat.mod_lt _ hz
   exact relD_one (hr _ _ _ _ he (List.getElem?_eq_getElem hm))
  ·intro i j e x he hx
   have hel := hs _ _ he
   have hj : j < sz' := by have := getElem_lt hx; omega
   have hi := getElem_lt he
   refine ⟨u i j,?_,hr i j e x he hx⟩
   have hq : i * sz' + j < ys.length * sz' := by
    have : (i + 1) * sz' ≤ ys.length * sz' := Nat.mul_le_mul_right _ (by omega)
    rw [Nat.succ_mul] at this; omega
   rw [List.getElem?_map,List.getElem?_range hq]
   have hz : 0 < sz' := by omega
   have e1 : (i * sz' + j) / sz' = i := by rw [Nat.add_comm,Nat.add_mul_div_right _ _ hz,Nat.div_eq_of_lt hj,Nat.zero_add]
   have e2 : (i * sz' + j) % sz' = j := by rw [Nat.add_comm,Nat.add_mul_mod_self_right,Nat.mod_eq_of_lt hj]
   simp [e1,e2]
def appT (P : Program) (t : TypeId) : Option (TypeId × Nat) :=
 match P.underlying t with
 | some (.slice e)=>match P.info? e with
  | some i=>match i.zero with
   | some z=>if z.cells.size = i.size ∧ 0 < i.size ∧ i.bytes ≤ 8000000 then some (e,i.size) else none
   | none=>none
  | none=>none
 | _=>none
theorem append_zero {P : Program} {w : World} {t ty e : TypeId} {i : TypeInfo} (ht : P.underlying t = some (.slice e)) (hi : P.info? e = some i) (A B : Option Addr) (n c c' : Nat) (hn : n ≤ c) :
  (Builtin.append_ #[t,t] ty #[.slice A n c,.slice B 0 c']).run P w = .ok (.slice A n c) w := by
 cases A <;> cases B <;> simp [Builtin.append_,run_underlying ht,sizeOf,typeInfo,hi,Builtin.lenOf,Builtin.firstCells,loadCells,loadCellsFrom,storeCells,hn,program,Sem.run]
theorem own_xs {F : Nat → Nat → Value → Prop} {es : List (List D)} {v : Value} {w : World} {base sz n : Nat} {e : TypeId} {xs : List Value} (hF : ∀ b o v,F b o v → w.cell? ⟨b,o,none⟩ = some v) (r : relD F (.list es) v) (hown : w.ownsRow base e sz v n xs) (hsz : ∀ (i : Nat) (c : List D),es[i]? = some c → c.length = sz) (i j : Nat) (c : List D) (x : D) (hc : es[i]? = some c) (hx : c[j]? = some x) :
  ∃ u,xs[i * sz + j]? = some u ∧ relD F x u := by
 have hi := getElem_lt hc
 cases r with
 | nil A c'=>simp at hc
 | list _ b off c' sz' u hne hcap hs hFc hr =>
  have e1 : sz' = sz := by have := hs _ _ hc; have := hsz _ _ hc; omega
  subst e1
  obtain ⟨g,cap,hv,_,_⟩ := hown.form (by
   rcases hown.2 with ⟨h,_⟩ | ⟨g,cap,cur,h,_⟩
   ·cases h
   ·injection h with h1 h2 h3; omega)
  injection hv with h1 h2 h3
  injection h1 with h1
  injection h1 with h1 h4 h5
  subst h1; subst h4
  refine ⟨u i j,?_,hr i j c x hc hx⟩
  have hcell := hF _ _ _ (hFc i j c x hc hx)
  have hj : j < sz' := by have := getElem_lt hx; have := hs _ _ hc; omega
  have hlt : i * sz' + j < xs.length := by
   rw [hown.1,← h2]
   have : (i + 1) * sz' ≤ es.length * sz' := Nat.mul_le_mul_right _ (by omega)
   rw [Nat.succ_mul] at this; omega
  have := hown.cells (g := b) rfl (i * sz' + j) xs[i * sz' + j] (List.getElem?_eq_getElem hlt)
  rw [Addr.add_lit] at this
  rw [Nat.zero_add] at this hcell
  rw [List.getElem?_eq_getElem hlt,← this]
  exact hcell
def SrcOk (w : World) (F : Nat → Nat → Value → Prop) (sz : Nat) (ys : List (List D)) (v : Value) : Prop :=
 (ys.length = 0 → ∃ B c,v = .slice B 0 c) ∧ (0 < ys.length →
  ∃ b off c,∃ news : List Value,v = .slice (some ⟨b,off,none⟩) ys.length c ∧ news.length = ys.length * sz ∧ (∀ (j : Nat) u,news[j]? = some u → w.cell? ((⟨b,off,none⟩ : Addr).add j) = some u) ∧ (∀ u ∈ news,u.oneCell' = true) ∧
   ∀ (i j : Nat) (e : List D) (x : D),ys[i]? = some e → e[j]? = some x → ∃ u,news[i * sz + j]? = some u ∧ relD F x u)
theorem SrcOk.list {w : World} {F : Nat → Nat → Value → Prop} {sz : Nat} {ys : List (List D)} {v : Value} (hF : ∀ b o v,F b o v → w.cell? ⟨b,o,none⟩ = some v) (r : relD F (.list ys) v) (hsz : ys.all (·.length == sz) = true) : SrcOk w F sz ys v :=
 ⟨fun hy=>by have : ys = [] := List.eq_nil_of_length_eq_zero hy; subst this; exact list_len r,fun hy=>list_news hF r hy hsz⟩
theorem app_src {P : Program} {w0 w : World} {G : Cx} {obs : Nat → Option (List V)} {lns : Nat → Option (TypeId × Nat)} (h : HRp P w0 w G obs lns) {t : Nat} {ty tt e : TypeId} {sz : Nat} {es ys : List (List D)} {v vx : Value} (ht : appT P tt = some (e,sz)) (hl : lns t = some (e,es.length))
  (r : rel G (.own t es) v) (ry : SrcOk w G.F sz ys vx) (hsz : ys.all (·.length == sz) = true) (hb : es.length + ys.length ≤ 16777216) :
  ∃ u w' G',(Builtin.append_ #[tt,tt] ty #[v,vx]).run P w = .ok u w' ∧ G.le G' ∧ HRp P w0 w' G' obs (upd lns t (e,es.length + ys.length)) ∧ rel G' (.own t (es ++ ys)) u := by
 have hF := fun b o v q=>(h.fs b o v q).2
 unfold appT at ht
 split at ht
 ·rename_i e' hu
  split at ht
  ·rename_i i hi
   split at ht
   ·rename_i z hz
    split at ht
    ·rename_i hc
     injection ht with ht
     injection ht with h1 h2
     subst h1; subst h2
     obtain ⟨v0,xs,g1,g2,g3⟩ := h.lvl t e' es.length hl
     have hce : P.cellsOf e' = i.size := by simp [Program.cellsOf,hi]
     cases r with
     | own _ _ _ q L hL hs hlast =>
      rw [g1] at hL; injection hL with hL; subst hL
      simp only at hs hlast
      have hv : v = v0 := by rcases hlast with q | q; exact q.2; omega
      subst hv
      have g2 := g2.resolve_left (by rintro rfl; cases q)
      by_cases hy : ys.length = 0
      ·have : ys = [] := List.eq_nil_of_length_eq_zero hy
       subst this
       obtain ⟨B,c',rfl⟩ := ry.1 rfl
       obtain ⟨A,c,rfl⟩ := own_slice g2
       have hn : es.length ≤ c := by
        rcases g2.2 with ⟨h1,h2⟩ | ⟨g,cap,cur,h1,_,_,h3,_⟩
        ·omega
        ·injection h1 with _ _ h1; omega
       refine ⟨_,w,G,append_zero hu hi A B es.length c c' hn,Cx.le.refl G,?_,?_⟩
       ·have : upd lns t (e',es.length + ([] : List (List D)).length) = lns := by
         funext j
         by_cases ej : j = t
         ·subst ej; rw [upd_same]; simp [hl]
         ·rw [upd_ne _ _ ej]
        rw [this]; exact h
       ·rw [List.append_nil]
        exact .own t es _ q _ g1 hs (.inl ⟨rfl,rfl⟩)
      ·obtain ⟨b,off,c,news,rfl,n1,n2,n3,n4⟩ := ry.2 (by omega)
       rw [hce] at g2
       have h63 : es.length + ys.length ≤ maxLen := by unfold maxLen; omega
       have hby : (es.length + ys.length) * i.bytes ≤ 140737488355328 := by
        have := Nat.mul_le_mul hb hc.2.2
        omega
       obtain ⟨gg,cap,w',a1,a2,a3⟩ := run_append_any (P := P) w tt ty e' i z w0.heap.size hu hi hz hc.1 v es.length xs g2 ⟨b,off,none⟩ ys.length c news n1 n2 n3 (by omega) h63 hby h.kp.size
       rw [← hce] at g2 a2
       obtain ⟨hle,hH⟩ := h.app hl g1 g2 a2 (by omega) a3
       refine ⟨_,w',_,a1,hle,hH,?_⟩
       have hcap : es.length + ys.length ≤ cap := by
        rcases a2.2 with ⟨h1,h2⟩ | ⟨g,cap',cur,h1,_,_,h3,_⟩
        ·cases h1
        ·injection h1 with _ _ h1; omega
       have hlen : (es ++ ys).length = es.length + ys.length := by simp
       have hcl : ∀ (k : Nat) (c : List D),(es ++ ys)[k]? = some c → c.length = P.cellsOf e' := by
        intro k c hk
        rcases Nat.lt_or_ge k es.length with hlt | hge
        ·rw [List.getElem?_append_left hlt] at hk; exact hs _ _ hk
        ·rw [List.getElem?_append_right hge] at hk
         have hmem := List.mem_of_getElem? hk
         have := List.all_eq_true.1 hsz c hmem
         simp at this; omega
       have hval : ∀ (k j : Nat) (c : List D) (x : D),(es ++ ys)[k]? = some c → c[j]? = some x → ∃ u,(xs ++ news)[k * P.cellsOf e' + j]? = some u ∧ relD G.F x u := by
        intro k j c x hk hx
        have hj : j < P.cellsOf e' := by have := getElem_lt hx; have := hcl k c hk; omega
        rcases Nat.lt_or_ge k es.length with hlt | hge
        ·rw [List.getElem?_append_left hlt] at hk
         obtain ⟨u,u1,u2⟩ := own_xs hF q g2 hs k j c x hk hx
         exact ⟨u,by rw [List.getElem?_append_left (getElem_lt u1)]; exact u1,u2⟩
        ·rw [List.getElem?_append_right hge] at hk
         obtain ⟨u,u1,u2⟩ := n4 _ j c x hk hx
         refine ⟨u,?_,u2⟩
         have e1 : xs.length = es.length * P.cellsOf e' := g2.1
         rw [List.getElem?_append_right (by rw [e1]; exact Nat.le_trans (Nat.mul_le_mul_right _ hge) (by omega))]
         rw [← u1]
         congr 1
         rw [e1,Nat.sub_mul,hce]
         have : es.length * i.size ≤ k * i.size := Nat.mul_le_mul_right _ hge
         omega
       refine .own t (es ++ ys) _ ?_ _ (upd_same _ _ _) hcl (.inl ⟨hlen,rfl⟩)
       have key := relD.list (F := fun b o u=>G.F b o u ∨ (b = gg ∧ o < (es.length + ys.length) * P.cellsOf e' ∧ w'.cell? ⟨gg,o,none⟩ = some u)) (es ++ ys) gg 0 cap (P.cellsOf e') (fun i j=>((xs ++ news)[i * P.cellsOf e' + j]?).getD undef) (by omega) (by omega) hcl
        (fun k j c x hk hx=>by
         obtain ⟨u,u1,u2⟩ := hval k j c x hk hx
         right
         have hj : j < P.cellsOf e' := by have := getElem_lt hx; have := hcl k c hk; omega
         have hk' := getElem_lt hk
         refine ⟨rfl,?_,?_⟩
         ·rw [Nat.zero_add]
          have : (k + 1) * P.cellsOf e' ≤ (es.length + ys.length) * P.cellsOf e' := Nat.mul_le_mul_right _ (by omega)
          rw [Nat.succ_mul] at this; omega
         ·have := a2.cells (g := gg) rfl _ u u1
          rw [Addr.add_lit] at this
          rw [Nat.zero_add,u1]
          rw [Nat.zero_add] at this
          exact this)
        (fun k j c x hk hx=>by
         obtain ⟨u,u1,u2⟩ := hval k j c x hk hx
         rw [u1]
         exact relD_mono (fun _ _ _ q=>.inl q) u2)
       rw [hlen] at key
       exact key
    ·cases ht
   ·cases ht
  ·cases ht
 ·cases ht
theorem app_ok {P : Program} {w0 w : World} {G : Cx} {obs : Nat → Option (List V)} {lns : Nat → Option (TypeId × Nat)} (h : HRp P w0 w G obs lns) {t : Nat} {ty tt e : TypeId} {sz : Nat} {es ys : List (List D)} {v vx : Value} (ht : appT P tt = some (e,sz)) (hl : lns t = some (e,es.length))
  (r : rel G (.own t es) v) (ry : relD G.F (.list ys) vx) (hsz : ys.all (·.length == sz) = true) (hb : es.length + ys.length ≤ 16777216) :
  ∃ u w' G',(Builtin.append_ #[tt,tt] ty #[v,vx]).run P w = .ok u w' ∧ G.le G' ∧ HRp P w0 w' G' obs (upd lns t (e,es.length + ys.length)) ∧ rel G' (.own t (es ++ ys)) u :=
 app_src h ht hl r (SrcOk.list (fun b o v q=>(h.fs b o v q).2) ry hsz) hsz hb
theorem appfull_ok {P : Program} {w0 w : World} {G : Cx} {obs : Nat → Option (List V)} {lns : Nat → Option (TypeId × Nat)} (h : HRp P w0 w G obs lns) {t : Nat} (hn : lns t = none) {ty tt e : TypeId} {sz : Nat} {es ys : List (List D)} {v vx : Value} (ht : appT P tt = some (e,sz))
  (r : rel G (.full es) v) (ry : relD G.F (.list ys) vx) (hsz : ys.all (·.length == sz) = true) (hse : es.all (·.length == sz) = true) (hpos : 0 < ys.length) (hb : es.length + ys.length ≤ 16777216) :
  ∃ u w' G',(Builtin.append_ #[tt,tt] ty #[v,vx]).run P w = .ok u w' ∧ G.le G' ∧ HRp P w0 w' G' obs (upd lns t (e,es.length + ys.length)) ∧ rel G' (.own t (es ++ ys)) u := by
 have hF := fun b o v q=>(h.fs b o v q).2
 unfold appT at ht
 split at ht
 ·rename_i e' hu
  split at ht
  ·rename_i i hi
   split at ht
   ·rename_i z hz
    split at ht
    ·rename_i hc
     injection ht with ht
     injection ht with h1 h2
     subst h1; subst h2
     have hce : P.cellsOf e' = i.size := by simp [Program.cellsOf,hi]
     obtain ⟨b,off,c,news,rfl,n1,n2,n3,n4⟩ := list_news hF ry hpos hsz
     have h63 : es.length + ys.length ≤ maxLen := by unfold maxLen; omega
     have hby : (es.length + ys.length) * i.bytes ≤ 140737488355328 := by
      have := Nat.mul_le_mul hb hc.2.2
      omega
     -- the cells that are there
     have hold : ∃ xs : List Value,xs.length = es.length * i.size ∧ (∀ (k j : Nat) (c : List D) (x : D),es[k]? = some c → c[j]? = some x → ∃ u,xs[k * i.size + j]? = some u ∧ relD G.F x u) ∧
       ∃ cap w',(Builtin.append_ #[tt,tt] ty #[v,.slice (some ⟨b,off,none⟩) ys.length c]).run P w = .ok (.slice (some ⟨w.heap.size,0,none⟩) (es.length + ys.length) cap) w' ∧ w'.ownsRow w0.heap.size e' i.size (.slice (some ⟨w.heap.size,0,none⟩) (es.length + ys.length) cap) (es.length + ys.length) (xs ++ news) ∧ Kp w w' := by
      have grown : ∀ (old : Nat) (xs : List Value),xs.length = es.length * i.size →
        (w.drew.alloc (.cells (xs.toArray ++ news.toArray ++ Builtin.zeroCells z.cells (grownCap w (es.length + ys.length) old e' - (es.length + ys.length))) e')).ownsRow w0.heap.size e' i.size
         (.slice (some ⟨w.heap.size,0,none⟩) (es.length + ys.length) (grownCap w (es.length + ys.length) old e')) (es.length + ys.length) (xs ++ news) := by
       intro old xs hxl
       have hge := grownCap_ge w (es.length + ys.length) old e'
       have hcm : grownCap w (es.length + ys.length) old e' ≤ maxLen := grownCap_le_maxLen w (es.length + ys.length) old e' h63
       have hlen : (xs ++ news).length = (es.length + ys.length) * i.size := by rw [List.length_append,hxl,n1,Nat.add_mul]
       refine ⟨hlen,.inr ⟨w.heap.size,_,_,rfl,h.kp.size,heap_alloc_new w.drew _,hge,hcm,?_,?_⟩⟩
       ·simp only [Array.size_append,List.size_toArray,size_zeroCells,hc.1,hxl,n1,← Nat.add_mul]
        congr 1
        omega
       ·simp only [Array.toList_append,List.append_assoc]
        rw [← List.append_assoc,← hlen]
        exact List.take_left
      cases r with
      | full _ A q =>
       rcases Nat.eq_zero_or_pos es.length with he0 | he0
       ·have : es = [] := List.eq_nil_of_length_eq_zero he0
        subst this
        refine ⟨[],by simp,fun k j c x hk=>by simp at hk,?_⟩
        have hgr := grown 0 [] (by simp)
        cases A with
        | none =>
         have hr := run_append_nil (P := P) w tt ty e' i z hu hi hz ⟨b,off,none⟩ ys.length c news n1 n2 hpos (by unfold maxLen at h63; simp at h63; omega) (by have hb' := hby; simp at hb'; omega)
         simp only [List.length_nil,Nat.zero_add,List.nil_append,Array.empty_append] at hgr ⊢
         exact ⟨_,_,hr,hgr,((Kp.refl w).drew).alloc _⟩
        | some ad =>
         have hr := run_append_grow (P := P) w tt ty e' i z hu hi hz ad 0 0 [] (by simp) (fun j u hj=>by simp at hj) ⟨b,off,none⟩ ys.length c news n1 n2 (by omega) (by unfold maxLen at h63; simp at h63; omega) (growslice_fits (by omega) (by have hb' := hby; simp at hb'; omega))
         simp only [List.length_nil,Nat.zero_add,List.nil_append,Array.empty_append] at hgr hr ⊢
         exact ⟨_,_,hr,hgr,((Kp.refl w).drew).alloc _⟩
       ·obtain ⟨b2,off2,c2,olds,hv,m1,m2,m3,m4⟩ := list_news hF q he0 hse
        injection hv with hv1 hv2 hv3
        subst hv1
        refine ⟨olds,m1,m4,?_⟩
        have hr := run_append_grow (P := P) w tt ty e' i z hu hi hz ⟨b2,off2,none⟩ es.length es.length olds m1 m2 ⟨b,off,none⟩ ys.length c news n1 n2 (by omega) (by unfold maxLen at h63; omega) (growslice_fits (by omega) hby)
        exact ⟨_,_,hr,grown es.length olds m1,((Kp.refl w).drew).alloc _⟩
     obtain ⟨xs,x1,x2,cap,w',a1,a2,a3⟩ := hold
     obtain ⟨b1,b2⟩ := h.begin t hn e'
     have hown0 : w.ownsRow w0.heap.size e' (P.cellsOf e') (.slice none 0 0) 0 [] := World.ownsRow_nil _ _ _ _
     have a2' := a2
     rw [← hce] at a2
     obtain ⟨hle,hH⟩ := HRp.app (n := 0) (m := es.length + ys.length) (g := w.heap.size) (cap := cap) (news := xs ++ news) (w' := w') b2 (upd_same _ _ _) (upd_same _ _ _) hown0 (by simpa using a2) (by omega) (.inr ⟨rfl,a3⟩)
     have hup : upd (upd lns t (e',0)) t (e',0 + (es.length + ys.length)) = upd lns t (e',es.length + ys.length) := by
      funext j
      by_cases ej : j = t
      ·subst ej; rw [upd_same,upd_same]; simp
      ·rw [upd_ne _ _ ej,upd_ne _ _ ej,upd_ne _ _ ej]
     rw [hup] at hH
     refine ⟨_,w',_,a1,b1.trans hle,hH,?_⟩
     have hcap : es.length + ys.length ≤ cap := by
      rcases a2.2 with ⟨h1,h2⟩ | ⟨g,cap',cur,h1,_,_,h3,_⟩
      ·cases h1
      ·injection h1 with _ _ h1; omega
     have hlen : (es ++ ys).length = es.length + ys.length := by simp
     have hcl : ∀ (k : Nat) (c : List D),(es ++ ys)[k]? = some c → c.length = P.cellsOf e' := by
      intro k c hk
      rcases Nat.lt_or_ge k es.length with hlt | hge
      ·rw [List.getElem?_append_left hlt] at hk
       have := List.all_eq_true.1 hse c (List.mem_of_getElem? hk)
       simp at this; omega
      ·rw [List.getElem?_append_right hge] at hk
       have := List.all_eq_true.1 hsz c (List.mem_of_getElem? hk)
       simp at this; omega
     have hval : ∀ (k j : Nat) (c : List D) (x : D),(es ++ ys)[k]? = some c → c[j]? = some x → ∃ u,(xs ++ news)[k * P.cellsOf e' + j]? = some u ∧ relD G.F x u := by
      intro k j c x hk hx
      rw [hce]
      rcases Nat.lt_or_ge k es.length with hlt | hge
      ·rw [List.getElem?_append_left hlt] at hk
       obtain ⟨u,u1,u2⟩ := x2 k j c x hk hx
       exact ⟨u,by rw [List.getElem?_append_left (getElem_lt u1)]; exact u1,u2⟩
      ·rw [List.getElem?_append_right hge] at hk
       obtain ⟨u,u1,u2⟩ := n4 _ j c x hk hx
       refine ⟨u,?_,u2⟩
       rw [List.getElem?_append_right (by rw [x1]; exact Nat.le_trans (Nat.mul_le_mul_right _ hge) (by omega))]
       rw [← u1]
       congr 1
       rw [x1,Nat.sub_mul]
       have : es.length * i.size ≤ k * i.size := Nat.mul_le_mul_right _ hge
       omega
     refine .own t (es ++ ys) _ ?_ ⟨0 + (es.length + ys.length),P.cellsOf e',.slice (some ⟨w.heap.size,0,none⟩) (0 + (es.length + ys.length)) cap⟩ (upd_same _ _ _) hcl (.inl ⟨by simp,by simp⟩)
     have key := relD.list (F := fun b o u=>G.F b o u ∨ (b = w.heap.size ∧ o < (0 + (es.length + ys.length)) * P.cellsOf e' ∧ w'.cell? ⟨w.heap.size,o,none⟩ = some u)) (es ++ ys) w.heap.size 0 cap (P.cellsOf e') (fun i j=>((xs ++ news)[i * P.cellsOf e' + j]?).getD undef) (by omega) (by omega) hcl
      (fun k j c x hk hx=>by
       obtain ⟨u,u1,u2⟩ := hval k j c x hk hx
       right
       have hj : j < P.cellsOf e' := by have := getElem_lt hx; have := hcl k c hk; omega
       have hk' := getElem_lt hk
       refine ⟨rfl,?_,?_⟩
       ·rw [Nat.zero_add,Nat.zero_add]
        have : (k + 1) * P.cellsOf e' ≤ (es.length + ys.length) * P.cellsOf e' := Nat.mul_le_mul_right _ (by omega)
        rw [Nat.succ_mul] at this; omega
       ·have := a2.cells (g := w.heap.size) rfl _ u u1
        rw [Addr.add_lit] at this
        rw [Nat.zero_add,u1]
        rw [Nat.zero_add] at this
        exact this)
      (fun k j c x hk hx=>by
       obtain ⟨u,u1,u2⟩ := hval k j c x hk hx
       rw [u1]
       exact relD_mono (fun _ _ _ q=>.inl q) u2)
     rw [hlen] at key
     exact key
    ·cases ht
   ·cases ht
  ·cases ht
 ·cases ht
theorem appT_und {P : Program} {tt e : TypeId} {sz : Nat} (ht : appT P tt = some (e,sz)) : ∃ i,P.underlying tt = some (.slice e) ∧ P.info? e = some i := by
 unfold appT at ht
 split at ht
 ·rename_i e' hu
  split at ht
  ·rename_i i hi
   split at ht
   ·split at ht
    ·injection ht with ht; injection ht with h1 h2; subst h1; exact ⟨i,hu,hi⟩
    ·cases ht
   ·cases ht
  ·cases ht
 ·cases ht
end Go.Proofs.YtjgngikiglhleaaGreatDoor
