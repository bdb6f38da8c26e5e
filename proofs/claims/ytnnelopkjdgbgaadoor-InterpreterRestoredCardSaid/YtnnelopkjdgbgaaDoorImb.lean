import Derived.Test.YtnnelopkjdgbgaaDoorInb
import Derived.Lib.AppendZerosOnto
import Derived.Laws.CopyRow
import Derived.Lib.Hide
import Derived.Deep.WholeRow
import Derived.Laws.NewBlocks
import Derived.Laws.Externs
import Derived.Shelf.Spec.SlicesInsert
namespace Go.Proofs.YtnnelopkjdgbgaaDoor
open Go.RowKit Go.Lib
set_option linter.unusedVariables false
set_option linter.unusedSimpArgs false
set_option maxHeartbeats 4000000 in
set_option maxRecDepth 100000 in
theorem ins_end (w : World) (B n vb voff vc : Nat) (v : Value) (xs ys : List Value) (hown : w.ownsRow B 41 3 v n xs)
  (hyl : ys.length = 3) (hys : ∀ j u,ys[j]? = some u → w.cell? ((⟨vb,voff,none⟩ : Addr).add j) = some u) (h1y : ∀ u ∈ ys,u.oneCell' = true) (hn : n + 1 ≤ 16777216) (hB : B ≤ w.heap.size) :
  Calls Tryd.prog 10 #[v,.int .i64 n,.slice (some ⟨vb,voff,none⟩) 1 vc] w fun e w' =>
   ∃ gg cap,e = .returned (.slice (some ⟨gg,0,none⟩) (n + 1) cap) ∧ w'.ownsRow B 41 3 (.slice (some ⟨gg,0,none⟩) (n + 1) cap) (n + 1) (xs ++ ys) ∧ ((v.ownBlock = some gg ∧ w.grownBy w' (some gg)) ∨ (gg = w.heap.size ∧ Kp w w')) := by
 obtain ⟨i0,hi0,hz0⟩ : ∃ i0,Tryd.prog.info? 41 = some i0 ∧ (i0.size = 3 ∧ i0.zero = some (.agg #[.bool false,.slice none 0 0,.string ⟨#[]⟩]) ∧ i0.bytes = 48) := ⟨_,rfl,by kernel_rfl,by kernel_rfl,by kernel_rfl⟩
 obtain ⟨gg,cap,w',r1,r2,r3⟩ := run_append_any (P := Tryd.prog) w 22 22 41 i0 (.agg #[.bool false,.slice none 0 0,.string ⟨#[]⟩]) B Tryd.underlying22 hi0 hz0.2.1 (by rw [hz0.1]; rfl) v n xs (by rw [hz0.1]; exact hown) ⟨vb,voff,none⟩ 1 vc ys (by rw [hz0.1,hyl]) hys h1y (by omega) (by unfold maxLen; omega) (by rw [hz0.2.2]; omega) hB
 rw [hz0.1] at r2
 rcases hown.2 with ⟨rfl,rfl⟩ | ⟨g,c,cur,rfl,-,-,hnc,-⟩
 ·go_enter Tryd.func10,Tryd.ntmps10
  go_wp2_with (at_builtin; refine Lib.wpList_append_run _ rfl _ _ _ _ rfl _ _ rfl rfl _ _ r1 ?_)
  all_goals (go_ret; exact ⟨gg,cap,rfl,r2,r3⟩)
 ·go_enter Tryd.func10,Tryd.ntmps10
  go_wp2_with (at_builtin; refine Lib.wpList_append_run _ rfl _ _ _ _ rfl _ _ rfl rfl _ _ r1 ?_)
  all_goals (go_ret; exact ⟨gg,cap,rfl,r2,r3⟩)
set_option maxHeartbeats 4000000 in
set_option maxRecDepth 100000 in
theorem ins_grow (w : World) (g n i vb voff vc : Nat) (cur : Array Value) (ys : List Value) (hg : w.heap[g]? = some (.cells cur 41 (0,0))) (hi : i < n) (hcs : cur.size = n * 3) (hn : n + 1 ≤ 16777216)
  (hyl : ys.length = 3) (hys : ∀ j v,ys[j]? = some v → w.cell? ((⟨vb,voff,none⟩ : Addr).add j) = some v) (h1y : ∀ v ∈ ys,v.oneCell' = true) (h1c : ∀ v ∈ cur.toList,v.oneCell' = true) :
  Calls Tryd.prog 10 #[.slice (some ⟨g,0,none⟩) n n,.int .i64 i,.slice (some ⟨vb,voff,none⟩) 1 vc] w fun e w' =>
   ∃ cap R,e = .returned (.slice (some ⟨w.heap.size,0,none⟩) (n + 1) cap) ∧ n + 1 ≤ cap ∧ cap ≤ maxLen ∧ R.size = cap * 3 ∧ R.toList.take ((n + 1) * 3) = cur.toList.take (i * 3) ++ ys ++ cur.toList.drop (i * 3) ∧ w' = ((w.alloc (.cells R 41)).drew).drew := by
 obtain ⟨i0,hi0,hz0⟩ : ∃ i0,Tryd.prog.info? 41 = some i0 ∧ (i0.size = 3 ∧ i0.zero = some (.agg #[.bool false,.slice none 0 0,.string ⟨#[]⟩]) ∧ i0.bytes = 48) := ⟨_,rfl,by kernel_rfl,by kernel_rfl,by kernel_rfl⟩
 obtain ⟨z1,z2,z3⟩ := hz0
 have hsz : (Tryd.prog.info? 41).map (·.size) = some 3 := by kernel_rfl
 have hgw : g < w.heap.size := heap_lt' hg
 have hvw : vb < w.heap.size := by
  obtain ⟨y0,hy0⟩ : ∃ y,ys[0]? = some y := ⟨_,List.getElem?_eq_getElem (by omega)⟩
  have := hys 0 y0 hy0
  rw [Addr.add_lit] at this
  exact cell_lt this
 obtain ⟨A,hA1⟩ : ∃ A,A = cur.toList.take (i * 3) := ⟨_,rfl⟩
 obtain ⟨M,hM1⟩ : ∃ M,M = cur.toList.drop (i * 3) := ⟨_,rfl⟩
 have hAl : A.length = i * 3 := by rw [hA1]; simp; omega
 have hMl : M.length = (n - i) * 3 := by rw [hM1]; simp; omega
 have hold : (Builtin.firstCells i0.size i (.slice (some ⟨g,0,none⟩) i n)).run Tryd.prog w.drew = .ok A.toArray w.drew := by
  rw [z1]
  exact run_firstCells_some w.drew 3 i ⟨g,0,none⟩ i n A hAl (fun j v hj=>by
   rw [Addr.add_lit,Nat.zero_add,cell_of_row w.drew g j _ _ _ (show w.drew.heap[g]? = some (.cells cur 41 (0,0)) from hg),← Array.getElem?_toList]
   rw [hA1,List.getElem?_take] at hj
   split at hj
   ·exact hj
   ·cases hj)
 obtain ⟨G,hG⟩ : ∃ G,G = grownCap w (n + 1) n 41 := ⟨_,rfl⟩
 have hGn : n + 1 ≤ G := by rw [hG]; exact grownCap_ge w _ _ _
 have hGm : G ≤ maxLen := by rw [hG]; exact grownCap_le_maxLen w (n + 1) n 41 (by unfold maxLen; omega)
 have hG63 : G ≤ 9223372036854775807 := by unfold maxLen at hGm; omega
 obtain ⟨Z,hZ⟩ : ∃ Z : List Value,Z = (Builtin.zeroCells (Value.agg #[.bool false,.slice none 0 0,.string ⟨#[]⟩]).cells (n + 1 - i)).toList ++ (Builtin.zeroCells (Value.agg #[.bool false,.slice none 0 0,.string ⟨#[]⟩]).cells (G - (n + 1))).toList := ⟨_,rfl⟩
 have hZl : Z.length = (G - i) * 3 := by
  rw [hZ]
  simp [Builtin.zeroCells,Value.cells]
  omega
 have hrz : ∀ ty,(Builtin.append_ #[22,3] ty #[.slice (some ⟨g,0,none⟩) i n,.int .i64 ((n + 1 - i : Nat) : Int)]).run Tryd.prog w = .ok (.slice (some ⟨w.heap.size,0,none⟩) (n + 1) G) (w.drew.alloc (.cells (A ++ Z).toArray 41)) := fun ty=>by
  have h := Lib.run_append_grow_zeros (P := Tryd.prog) w 22 3 ty 41 i0 _ .i64 .i64 Tryd.underlying22 Tryd.underlying3 hi0 z2 (some ⟨g,0,none⟩) i n A hold (n + 1 - i) (by omega) (by omega) (by omega) (by omega) (by rw [z3]; omega) (by rw [z3,show i + (n + 1 - i) = n + 1 by omega]; exact growslice_fits (by omega) (by omega))
  rw [show i + (n + 1 - i) = n + 1 by omega,← hG] at h
  rw [h,hZ]
  congr 3
  apply Array.toList_inj.1
  simp
 obtain ⟨R1,hR1⟩ : ∃ R1 : List Value,R1 = A ++ ys ++ Z.drop 3 := ⟨_,rfl⟩
 obtain ⟨R2,hR2⟩ : ∃ R2 : List Value,R2 = A ++ ys ++ M ++ Z.drop (3 + (n - i) * 3) := ⟨_,rfl⟩
 have hcpA : ∀ ty dc,(Builtin.copy_ #[22,22] ty #[.slice (some ⟨w.heap.size,i * 3,none⟩) (n + 1 - i) dc,.slice (some ⟨vb,voff,none⟩) 1 vc]).run Tryd.prog (w.drew.alloc (.cells (A ++ Z).toArray 41)) = .ok (goInt (1 : Nat)) (w.drew.alloc (.cells R1.toArray 41)) := fun ty dc=>by
  rw [run_copy_rowN (P := Tryd.prog) _ _ _ ty 41 w.heap.size (i * 3) (n + 1 - i) dc ⟨vb,voff,none⟩ 1 vc (A ++ Z).toArray 41 ys 3 1 Tryd.underlying22 hsz (heap_alloc_new w.drew _) (by simp only [Nat.min_def]; split <;> omega) (by omega) (fun j v hj=>by
   rw [Addr.add_lit]
   have := hys j v hj
   rw [Addr.add_lit] at this
   rw [World.cell?_alloc_past (w := w.drew) _ vb _ hvw]; exact this) (by simp [hAl,hZl,hyl]; omega) h1y,show ∀ c c',(w.drew.alloc (.cells c 41)).setRow w.heap.size c' = w.drew.alloc (.cells c' 41) from fun c c'=>World.setRow_alloc_new w.drew c c' _]
  congr 3
  rw [hR1,hyl]
  simp only [List.toList_toArray]
  congr 1
  rw [List.take_left' hAl,show i * 3 + 3 = A.length + 3 by omega,List.drop_append]
  simp
 have hcpB : ∀ ty dc sc,(Builtin.copy_ #[22,22] ty #[.slice (some ⟨w.heap.size,(i + 1) * 3,none⟩) (n - i) dc,.slice (some ⟨g,i * 3,none⟩) (n - i) sc]).run Tryd.prog (w.drew.drew.alloc (.cells R1.toArray 41)) = .ok (goInt (n - i : Nat)) (w.drew.drew.alloc (.cells R2.toArray 41)) := fun ty dc sc=>by
  rw [run_copy_rowN (P := Tryd.prog) _ _ _ ty 41 w.heap.size ((i + 1) * 3) (n - i) dc ⟨g,i * 3,none⟩ (n - i) sc R1.toArray 41 M 3 (n - i) Tryd.underlying22 hsz (heap_alloc_new w.drew.drew _) (by simp only [Nat.min_def]; split <;> omega) (by omega) (fun j v hj=>by
   rw [Addr.add_lit,World.cell?_alloc_past (w := w.drew.drew) _ g _ hgw,cell_of_row w.drew.drew g _ _ _ _ (show w.drew.drew.heap[g]? = some (.cells cur 41 (0,0)) from hg),← Array.getElem?_toList]
   rw [hM1,List.getElem?_drop] at hj
   exact hj) (by rw [hR1]; simp [hAl,hZl,hyl,hMl]; omega) (fun v hv=>h1c v (by rw [hM1] at hv; exact List.mem_of_mem_drop hv)),show ∀ c c',(w.drew.drew.alloc (.cells c 41)).setRow w.heap.size c' = w.drew.drew.alloc (.cells c' 41) from fun c c'=>World.setRow_alloc_new w.drew.drew c c' _]
  congr 3
  rw [hR2,hMl,hR1]
  simp only [List.toList_toArray]
  congr 1
  rw [show (i + 1) * 3 = (A ++ ys).length by simp [hAl,hyl]; omega,List.take_left,List.drop_append]
  simp
 have hcpA' : ∀ ty dc,(Builtin.copy_ #[22,22] ty #[.slice (some ⟨w.heap.size,i * 3,none⟩) (n + 1 - i) dc,.slice (some ⟨vb,voff,none⟩) 1 vc]).run Tryd.prog (w.alloc (.cells (A ++ Z).toArray 41)).drew = .ok (goInt (1 : Nat)) (w.alloc (.cells R1.toArray 41)).drew := hcpA
 have hcpB' : ∀ ty dc sc,(Builtin.copy_ #[22,22] ty #[.slice (some ⟨w.heap.size,(i + 1) * 3,none⟩) (n - i) dc,.slice (some ⟨g,i * 3,none⟩) (n - i) sc]).run Tryd.prog (w.alloc (.cells R1.toArray 41)).drew.drew = .ok (goInt (n - i : Nat)) (w.alloc (.cells R2.toArray 41)).drew.drew := hcpB
 have mixed : Tryd.prog.follows .mixedOrders = true := by kernel_rfl
 have hw1 : IntKind.i64.wrap ((i : Int) + 1) = (i : Int) + 1 := by rw [IntKind.wrap_i64]; omega
 have hw2 : IntKind.i64.wrap ((n : Int) + 1) = (n : Int) + 1 := by rw [IntKind.wrap_i64]; omega
 have hw3 : IntKind.i64.wrap ((n : Int) + 1 - (i : Int)) = ((n + 1 - i : Nat) : Int) := by rw [IntKind.wrap_i64]; omega
 have hz2 : ¬ ((i : Int) = (n : Int)) := by omega
 have hz3 : (n : Int) < (n : Int) + 1 := by omega
 have hb1 : (0 : Int) ≤ (i : Int) + 1 := by omega
 have hin : i ≤ n := by omega
 have htn : ((i : Int) + 1).toNat = i + 1 := by omega
 have hb3 : (i : Int) ≤ (n : Int) := by omega
 have hGi : ¬ (G = i) := by omega
 have hGim : ¬ (G = i + 1) := by omega
 have hci : ¬ (n = i) := by omega
 have F := hid (show R2.length = G * 3 ∧ R2.take ((n + 1) * 3) = cur.toList.take (i * 3) ++ ys ++ cur.toList.drop (i * 3) from by
  refine ⟨by rw [hR2]; simp [hAl,hZl,hyl,hMl]; omega,?_⟩
  rw [hR2,← hA1,← hM1,show (n + 1) * 3 = (A ++ ys ++ M).length by simp [hAl,hyl,hMl]; omega,List.take_left])
 clear hcpA hcpB hold hZ hG hR1 hR2 hA1 hM1 hAl hMl hZl
 go_enter Tryd.func10,Tryd.ntmps10
 go_wp2_with (first
  | (at_builtin; refine Lib.wpList_append_run _ rfl _ _ _ _ rfl _ _ rfl rfl _ _ (hrz _) ?_)
  | (at_builtin; refine wpList_copy_runI _ rfl _ _ 22 22 rfl _ _ rfl rfl (hcpA' _ _) ?_))
 go_region_law_o (refine step_copy_runI rfl _ _ 22 22 rfl _ _ (by simp [Act.eval,Act.put]) (by simp [Act.eval,Act.put]) (hcpB' _ _ _) ?_)
 go_wp2
 go_ret
 exact ⟨G,R2.toArray,rfl,hGn,hGm,by simpa using F.out.1,by simpa using F.out.2,rfl⟩
end Go.Proofs.YtnnelopkjdgbgaaDoor
