import Derived.Test.YtnnelopkjdgbgaaDoorSzj
import Derived.Test.YtnnelopkjdgbgaaDoorInb
import Derived.Test.YtnnelopkjdgbgaaDoorTy
import Derived.Laws.Cover3
namespace Go.Proofs.YtnnelopkjdgbgaaDoor
open Go.RowKit Go.Lib
set_option linter.unusedVariables false
set_option linter.unusedSimpArgs false
theorem eql_nil (w : World) (a : Option Addr) (l c : Nat) : (binOp .eql 22 (.slice a l c) (.slice none 0 0)).run Tryd.prog w = .ok (.bool a.isNone) w := by
 simp only [binOp]
 simp [run_equal_slice_nil w 22 _ a l c Tryd.underlying22]
set_option maxHeartbeats 4000000 in
set_option maxRecDepth 100000 in
theorem clone_row (w : World) (b off n c : Nat) (xs : List Value) (hn : 0 < n) (hle : n ≤ 16777216) (hxl : xs.length = n * 3) (hxs : ∀ j u,xs[j]? = some u → w.cell? ((⟨b,off,none⟩ : Addr).add j) = some u) (h1 : ∀ u ∈ xs,u.oneCell' = true) :
  Calls Tryd.prog 7 #[.slice (some ⟨b,off,none⟩) n c] w fun e w'=>∃ v,e = .returned v ∧ Kp w w' ∧ w'.ownsRow w.heap.size 41 3 v n xs := by
 obtain ⟨i0,hi0,hz0⟩ : ∃ i0,Tryd.prog.info? 41 = some i0 ∧ (i0.size = 3 ∧ i0.zero = some (.agg #[.bool false,.slice none 0 0,.string ⟨#[]⟩]) ∧ i0.bytes = 48) := ⟨_,rfl,by kernel_rfl,by kernel_rfl,by kernel_rfl⟩
 have hown : (w.alloc (.cells #[] 41)).ownsRow w.heap.size 41 i0.size (.slice (some ⟨w.heap.size,0,none⟩) 0 0) 0 [] :=
  World.ownsRow_made (base := w.heap.size) (e := 41) (size := i0.size) w #[] 0 (Nat.le_refl _) (by unfold maxLen; omega) (by simp)
 have hk1 : Kp w (w.alloc (.cells #[] 41)) := (Kp.refl w).alloc _
 obtain ⟨gg,cap,w',r1,r2,r3⟩ := run_append_any (P := Tryd.prog) (w.alloc (.cells #[] 41)) 22 22 41 i0 (.agg #[.bool false,.slice none 0 0,.string ⟨#[]⟩]) w.heap.size Tryd.underlying22 hi0 hz0.2.1 (by rw [hz0.1]; rfl) _ 0 [] hown
  ⟨b,off,none⟩ n c xs (by rw [hz0.1]; exact hxl) (fun j u hj=>by
   have h2 := hxs j u hj
   rw [Addr.add_lit] at h2 ⊢
   exact (hk1.see.1 b (off + j) (cell_lt h2)).trans h2) h1 hn (by unfold maxLen; omega) (by rw [hz0.2.2]; omega) hk1.size
 rw [hz0.1] at r2
 have hkp : Kp w w' := by
  rcases r3 with ⟨q1,q2⟩ | ⟨q1,q2⟩
  ·refine hk1.grown q2 (fun j hj=>?_)
   injection hj with hj
   subst hj
   have : w.heap.size = gg := by simpa [Value.ownBlock] using q1
   omega
  ·exact hk1.trans q2
 have hr2 : w'.ownsRow w.heap.size 41 3 (.slice (some ⟨gg,0,none⟩) n cap) n xs := by simpa using r2
 have heq := eql_nil w (some ⟨b,off,none⟩) n c
 go_enter Tryd.func7,Tryd.ntmps7
 go_wp2_with (at_builtin; refine Lib.wpList_append_run _ rfl _ _ _ _ rfl _ _ rfl rfl _ _ r1 ?_)
 all_goals (go_ret; exact ⟨_,rfl,hkp,hr2⟩)
set_option maxHeartbeats 4000000 in
set_option maxRecDepth 100000 in
theorem clone_nil (w : World) (A : Option Addr) (c : Nat) : Calls Tryd.prog 7 #[.slice A 0 c] w fun e w'=>∃ v,e = .returned v ∧ Kp w w' ∧ w'.ownsRow w.heap.size 41 3 v 0 [] := by
 cases A with
 | none =>
  have heq := eql_nil w none 0 c
  go_enter Tryd.func7,Tryd.ntmps7
  go_wp2
  go_ret
  exact ⟨_,rfl,Kp.refl _,World.ownsRow_nil _ _ _ _⟩
 | some p =>
  have hown : (w.alloc (.cells #[] 41)).ownsRow w.heap.size 41 3 (.slice (some ⟨w.heap.size,0,none⟩) 0 0) 0 [] :=
   World.ownsRow_made (base := w.heap.size) (e := 41) (size := 3) w #[] 0 (Nat.le_refl _) (by unfold maxLen; omega) (by simp)
  have hk1 : Kp w (w.alloc (.cells #[] 41)) := (Kp.refl w).alloc _
  have heq := eql_nil w (some p) 0 c
  go_enter Tryd.func7,Tryd.ntmps7
  go_wp2
  go_ret
  exact ⟨_,rfl,hk1,hown⟩
theorem clone_specR {es : List (List D)} (hl : okLen es.length = true) (hsz : es.all (·.length == 3) = true) : SpecR gP 7 [.d (.list es)] 41 es := by
 refine ⟨by kernel_rfl,fun w F vs hF hg hr=>?_⟩
 have hc : Tryd.prog.cellsOf 41 = 3 := by kernel_rfl
 rw [hc]
 have hle : es.length ≤ 16777216 := Nat.le_of_ble_eq_true hl
 match vs,hr with
 | [v],hr =>
  have r1 := (rels_cons_inv hr).1
  cases r1 with
  | d q =>
   cases q with
   | nil A c =>
    refine (clone_nil w A c).mono ?_
    rintro e w' ⟨v,rfl,hk,ho⟩
    exact ⟨v,[],rfl,hk,ho,fun i e h=>by simp at h,fun i j e x h=>by simp at h⟩
   | list _ b off c sz u hne hcap hs hFu hru =>
    have hs3 : ∀ (i : Nat) (e : List D),es[i]? = some e → e.length = 3 := fun i e he=>by
     have := List.all_eq_true.1 hsz e (List.mem_of_getElem? he); simpa using this
    have hsz3 : sz = 3 := by
     have h0 := List.getElem?_eq_getElem hne
     rw [← hs 0 _ h0,hs3 0 _ h0]
    subst hsz3
    let xs : List Value := (List.range (es.length * 3)).map fun m=>u (m / 3) (m % 3)
    have hxl : xs.length = es.length * 3 := by simp [xs]
    have hxat : ∀ m v,xs[m]? = some v → m < es.length * 3 ∧ v = u (m / 3) (m % 3) := by
     intro m v hm
     have hlt : m < es.length * 3 := by have := getElem_lt hm; omega
     refine ⟨hlt,?_⟩
     simp only [xs,List.getElem?_map,List.getElem?_range hlt] at hm
     simpa using hm.symm
    have hel : ∀ m,m < es.length * 3 → ∃ e x,es[m / 3]? = some e ∧ e[m % 3]? = some x := by
     intro m hm
     have h1 : m / 3 < es.length := by omega
     have he := List.getElem?_eq_getElem h1
     have h2 : m % 3 < (es[m / 3]).length := by rw [hs3 _ _ he]; omega
     exact ⟨_,_,he,List.getElem?_eq_getElem h2⟩
    refine (clone_row w b off es.length c xs hne hle hxl (fun j v hj=>?_) (fun v hv=>?_)).mono ?_
    ·obtain ⟨hlt,rfl⟩ := hxat j v hj
     obtain ⟨e,x,h1,h2⟩ := hel j hlt
     have := (hF _ _ _ (hFu _ _ e x h1 h2)).2
     rw [Addr.add_lit]
     rwa [show off + j / 3 * 3 + j % 3 = off + j by omega] at this
    ·obtain ⟨m,hm,rfl⟩ := List.getElem_of_mem hv
     obtain ⟨hlt,e0⟩ := hxat m _ (List.getElem?_eq_getElem hm)
     obtain ⟨e,x,h1,h2⟩ := hel m hlt
     rw [e0]
     exact one_rel (G := bareG F) (x := .d x) (.d (hru _ _ e x h1 h2)) rfl
    ·rintro en w' ⟨v,rfl,hk,ho⟩
     refine ⟨v,xs,rfl,hk,ho,hs3,fun i j e x h1 h2=>⟨u i j,?_,hru i j e x h1 h2⟩⟩
     have hj := getElem_lt h2
     rw [hs3 i e h1] at hj
     have hi := getElem_lt h1
     have hm : i * 3 + j < es.length * 3 := by omega
     simp only [xs,List.getElem?_map,List.getElem?_range hm,Option.map_some]
     rw [show (i * 3 + j) / 3 = i by omega,show (i * 3 + j) % 3 = j by omega]
 | [],hr=>have := hr.1; simp at this
 | _ :: _ :: _,hr=>have := hr.1; simp at this
end Go.Proofs.YtnnelopkjdgbgaaDoor
