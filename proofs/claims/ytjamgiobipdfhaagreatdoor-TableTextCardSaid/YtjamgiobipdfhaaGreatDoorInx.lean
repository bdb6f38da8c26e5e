/-
  In, Im, Io in one text.
-/
import Derived.Test.YtjamgiobipdfhaaGreatDoorGx
import Derived.Lib.AppendZerosOnto
import Derived.Laws.CopyRow
import Derived.Lib.Hide
import Derived.Laws.NewBlocks
import Derived.Laws.Externs
import Derived.Shelf.Spec.SlicesInsert
import Derived.Deep.WholeRow
import Derived.Test.YtjamgiobipdfhaaGreatDoorTy
namespace Go.Proofs.YtjamgiobipdfhaaGreatDoor
open Go.RowKit Go.Lib
set_option linter.unusedVariables false
set_option linter.unusedSimpArgs false
theorem run_copy_rowN {P : Program} (w : World) (dT sT ty elem : TypeId) (g o dLen dCap : Nat) (a : Addr) (sLen sCap : Nat) (cur : Array Value) (t : TypeId) (cs : List Value) (sz m : Nat)
  (hu : P.underlying dT = some (.slice elem)) (hs : (P.info? elem).map (·.size) = some sz)
  (hg : w.heap[g]? = some (.cells cur t (0,0))) (hm : Nat.min sLen dLen = m) (hn : cs.length = m * sz)
  (hsrc : ∀ j v,cs[j]? = some v → w.cell? (a.add j) = some v) (hfit : o + cs.length ≤ cur.size) (h1 : ∀ v ∈ cs,v.oneCell' = true) :
  (Builtin.copy_ #[dT,sT] ty #[.slice (some ⟨g,o,none⟩) dLen dCap,.slice (some a) sLen sCap]).run P w =
   .ok (goInt m) (w.setRow g (cur.toList.take o ++ cs ++ cur.toList.drop (o + cs.length)).toArray) := by
 have hl := run_loadCells_list (P := P) w a cs hsrc
 have hst := run_storeCells_at P g o t cs 0 cur w hg (by simpa using hfit) h1
 cases hq : P.info? elem with
 | none=>simp [hq] at hs
 | some i =>
  have hi : i.size = sz := by simpa [hq] using hs
  simp [Builtin.copy_,run_underlying hu,Builtin.lenOf,Builtin.firstCells,sizeOf,typeInfo,hq,hi,hm,← hn,hl,hst]
theorem run_overlaps_row {P : Program} (w : World) (tS tR e : TypeId) (ht : P.underlying tS = some (.slice e)) (size : Nat) (hz : ∀ w,(Go.sizeOf e).run P w = .ok size w)
  (a b : Addr) (la ca lb cb : Nat) (hne : a.block ≠ b.block) {cA cB : Array Value} {tA tB : TypeId} {zA : Nat × Nat} (hA : w.heap[a.block]? = some (.cells cA tA zA)) (hA0 : cA.size ≠ 0) (hB : w.heap[b.block]? = some (.cells cB tB (0,0))) (hB0 : cB.size ≠ 0) :
  (Extern.SlicesOverlaps.overlaps #[tS,tS] #[tR] #[.slice (some a) la ca,.slice (some b) lb cb]).run P w = .ok (.bool false) w := by
 have hnb : (a.block != b.block) = true := by simpa using hne
 have hnb' : (a.block == b.block) = false := by simpa using hne
 have hsa : w.shape? a.block = some (tA,cA.size) := by simp [World.shape?,hA]
 have hsb : w.shape? b.block = some (tB,cB.size) := by simp [World.shape?,hB]
 have hfb : ∀ o s,w.frozen? ⟨b.block,o,s⟩ = false := fun o s=>by simp [World.frozen?,hB]
 have hfb' : w.frozen? b = false := hfb _ _
 change Sem.run P (α := Value) (do
  let some t := (#[tS, tS] : Array TypeId)[0]? | stuck "slices.overlaps: no parameter types"
  let .slice elem ← underlying t | stuck "slices.overlaps: slice type expected"
  let size ← sizeOf elem
  match (some a : Option Addr),(some b : Option Addr) with
  | some a,some b =>
   if la = 0 ∨ lb = 0 ∨ size = 0 then pure (Value.bool false)
   else if a.block != b.block && (← frozen a) && (← frozen b) then unsupported .addressObserved
   else do
    if a.block != b.block then do
     noView a; noView b
     if ← mayBeOne a b then return Value.bool ((← choose (.extern "sameAddr.stringBytes" 2)) == 1)
    pure (Value.bool (a.block == b.block && a.off < b.off + lb * size && b.off < a.off + la * size))
  | _,_=>pure (Value.bool false)) w = _
 by_cases h0 : la = 0 ∨ lb = 0 ∨ size = 0
 ·simp [run_underlying ht,hz,h0]
 ·cases hkA : cA.size with
  | zero=>exact absurd hkA hA0
  | succ kA =>
   cases hkB : cB.size with
   | zero=>exact absurd hkB hB0
   | succ kB =>
    rw [hkA] at hsa
    rw [hkB] at hsb
    cases hfa : w.frozen? a <;> cases hfe : w.frozen? { block := a.block,off := kA + 1 } <;>
     simp [run_underlying ht,hz,h0,hnb,hnb',frozen,noView,viewAt,mayBeOne,stringish,shape,Sem.run,hsa,hsb,hfa,hfe,hfb,hfb']
set_option maxHeartbeats 4000000 in
set_option maxRecDepth 100000 in
theorem ins_room (w : World) (g n c i vb voff vc : Nat) (cur : Array Value) (ys : List Value) {cA : Array Value} {tA : TypeId} {zA : Nat × Nat} (hg : w.heap[g]? = some (.cells cur 65 (0,0))) (hi : i < n) (hroom : n + 1 ≤ c) (hc : c ≤ maxLen) (hcs : cur.size = c * 2)
  (hyl : ys.length = 2) (hys : ∀ j v,ys[j]? = some v → w.cell? ((⟨vb,voff,none⟩ : Addr).add j) = some v) (h1y : ∀ v ∈ ys,v.oneCell' = true) (h1c : ∀ v ∈ cur.toList.take (n * 2),v.oneCell' = true) (hvb : vb ≠ g) (hA : w.heap[vb]? = some (.cells cA tA zA)) (hA0 : cA.size ≠ 0) :
  Calls Tryz.prog 34 #[.slice (some ⟨g,0,none⟩) n c,.int .i64 i,.slice (some ⟨vb,voff,none⟩) 1 vc] w fun e w' =>
   e = .returned (.slice (some ⟨g,0,none⟩) (n + 1) c) ∧ w' = w.drew.setRow g (cur.toList.take (i * 2) ++ ys ++ (cur.toList.take (n * 2)).drop (i * 2) ++ cur.toList.drop ((n + 1) * 2)).toArray := by
 have hc63 : c ≤ 9223372036854775807 := by unfold maxLen at hc; omega
 have hz2 : ¬ ((i : Int) = (n : Int)) := by omega
 have hsz : (Tryz.prog.info? 65).map (·.size) = some 2 := by kernel_rfl
 have hov : ∀ off lb cb,(callFunc 60 #[.slice (some ⟨vb,voff,none⟩) 1 vc,.slice (some ⟨g,off,none⟩) lb cb]).run Tryz.prog w = .ok (.value (.bool false)) w := fun off lb cb=>by
  rw [run_callFunc_extern Tryz.func60 (by kernel_rfl) (by kernel_rfl) (by kernel_rfl) (e := Extern.SlicesOverlaps.overlaps #[32,32] #[4]) (by kernel_rfl),
   run_overlaps_row w 32 4 65 Tryz.underlying32 2 Tryz.sizeOf65 ⟨vb,voff,none⟩ ⟨g,off,none⟩ 1 vc lb cb hvb hA hA0 hg (by rw [hcs]; omega)]
  rfl
 have mixed : Tryz.prog.follows .mixedOrders = true := by kernel_rfl
 have hw1 : IntKind.i64.wrap ((i : Int) + 1) = (i : Int) + 1 := by rw [IntKind.wrap_i64]; omega
 have hw2 : IntKind.i64.wrap ((n : Int) + 1) = (n : Int) + 1 := by rw [IntKind.wrap_i64]; omega
 have hb1 : (0 : Int) ≤ (i : Int) + 1 := by omega
 have hin : i ≤ n := by omega
 have htn : ((i : Int) + 1).toNat = i + 1 := by omega
 have htn2 : ((n : Int) + 1).toNat = n + 1 := by omega
 have hb3 : (i : Int) ≤ (n : Int) + 1 := by omega
 have hb2 : ¬ (c = i + 1) := by omega
 have hb4 : ¬ (c = i) := by omega
 obtain ⟨A,hA1⟩ : ∃ A,A = cur.toList.take (i * 2) := ⟨_,rfl⟩
 obtain ⟨M,hM1⟩ : ∃ M,M = (cur.toList.take (n * 2)).drop (i * 2) := ⟨_,rfl⟩
 obtain ⟨Z,hZ1⟩ : ∃ Z,Z = cur.toList.drop ((n + 1) * 2) := ⟨_,rfl⟩
 have hAl : A.length = i * 2 := by rw [hA1]; simp; omega
 have hMl : M.length = (n - i) * 2 := by rw [hM1]; simp; omega
 obtain ⟨R1,hR1⟩ : ∃ R1,R1 = (cur.toList.take ((i + 1) * 2) ++ M ++ cur.toList.drop ((i + 1) * 2 + M.length)).toArray := ⟨_,rfl⟩
 have hcell : ∀ j,w.drew.cell? ⟨g,j,none⟩ = cur[j]? := fun j=>by
  have : w.drew.heap[g]? = some (.cells cur 65 (0,0)) := hg
  exact cell_of_row w.drew g j _ _ _ this
 have hcp1 : ∀ ty dc sc,(Builtin.copy_ #[32,32] ty #[.slice (some ⟨g,(i + 1) * 2,none⟩) (n - i) dc,.slice (some ⟨g,i * 2,none⟩) (n + 1 - i) sc]).run Tryz.prog w.drew = .ok (goInt (n - i : Nat)) (w.drew.setRow g R1) := fun ty dc sc=>by
  rw [run_copy_rowN (P := Tryz.prog) w.drew _ _ ty 65 g ((i + 1) * 2) (n - i) dc ⟨g,i * 2,none⟩ (n + 1 - i) sc cur 65 M 2 (n - i) Tryz.underlying32 hsz hg (by simp only [Nat.min_def]; split <;> omega) hMl (fun j v hj=>by
   rw [Addr.add_lit,hcell,← Array.getElem?_toList]
   rw [hM1,List.getElem?_drop,List.getElem?_take] at hj
   split at hj
   ·exact hj
   ·cases hj) (by rw [hMl,hcs]; omega) (fun v hv=>h1c v (by rw [hM1] at hv; exact List.mem_of_mem_drop hv)),hR1]
 have hR1l : R1.size = c * 2 := by rw [hR1]; simp [hMl,hcs]; omega
 obtain ⟨R2,hR2⟩ : ∃ R2,R2 = (A ++ ys ++ M ++ Z).toArray := ⟨_,rfl⟩
 have hg1 : (w.drew.setRow g R1).heap[g]? = some (.cells R1 65 (0,0)) := setRow_heap w.drew g cur R1 _ (0,0) hg
 have hcp2 : ∀ ty dc,(Builtin.copy_ #[32,32] ty #[.slice (some ⟨g,i * 2,none⟩) (n + 1 - i) dc,.slice (some ⟨vb,voff,none⟩) 1 vc]).run Tryz.prog (w.drew.setRow g R1) = .ok (goInt (1 : Nat)) (w.drew.setRow g R2) := fun ty dc=>by
  rw [run_copy_rowN (P := Tryz.prog) (w.drew.setRow g R1) _ _ ty 65 g (i * 2) (n + 1 - i) dc ⟨vb,voff,none⟩ 1 vc R1 65 ys 2 1 Tryz.underlying32 hsz hg1 (by simp only [Nat.min_def]; split <;> omega) (by omega) (fun j v hj=>by
   rw [Addr.add_lit]
   have := hys j v hj
   rw [Addr.add_lit] at this
   unfold World.cell? at this ⊢
   rw [show (w.drew.setRow g R1).heap[vb]? = w.heap[vb]? from setRow_other w.drew g vb R1 hvb]
   exact this) (by rw [hR1l,hyl]; omega) h1y,setRow_setRow]
  congr 2
  rw [hR1,hR2,hyl]
  simp only [List.toList_toArray]
  congr 1
  have e1 : (cur.toList.take ((i + 1) * 2) ++ M ++ cur.toList.drop ((i + 1) * 2 + M.length)).take (i * 2) = A := by
   rw [List.append_assoc,List.take_append_of_le_length (by simp; omega),List.take_take,hA1]
   congr 1; omega
  have e2 : (cur.toList.take ((i + 1) * 2) ++ M ++ cur.toList.drop ((i + 1) * 2 + M.length)).drop (i * 2 + 2) = M ++ Z := by
   rw [List.append_assoc,show i * 2 + 2 = (cur.toList.take ((i + 1) * 2)).length by simp; omega,List.drop_left,hZ1,hMl]
   congr 2; omega
  rw [e1,e2]
  simp
 have F := hid (show R2 = (cur.toList.take (i * 2) ++ ys ++ (cur.toList.take (n * 2)).drop (i * 2) ++ cur.toList.drop ((n + 1) * 2)).toArray by rw [hR2,hA1,hM1,hZ1])
 clear hR1 hR2 hA1 hM1 hZ1 hcell hR1l hg1 hAl hMl
 go_enter Tryz.func34,Tryz.ntmps34
 go_wp2_with (simp only [hov])
 go_region_law_o (refine step_copy_runI rfl _ _ 32 32 rfl _ _ (by simp [Act.eval,Act.put]) (by simp [Act.eval,Act.put]) (hcp1 _ _ _) ?_)
 go_wp2_with (at_builtin; refine wpList_copy_runI _ rfl _ _ 32 32 rfl _ _ rfl rfl (hcp2 _ _) ?_)
 go_ret
 exact ⟨rfl,by rw [F.out]⟩
end Go.Proofs.YtjamgiobipdfhaaGreatDoor
namespace Go.Proofs.YtjamgiobipdfhaaGreatDoor
open Go.RowKit Go.Lib
set_option linter.unusedVariables false
set_option linter.unusedSimpArgs false
set_option maxHeartbeats 4000000 in
set_option maxRecDepth 100000 in
theorem ins_end (w : World) (B n vb voff vc : Nat) (v : Value) (xs ys : List Value) (hown : w.ownsRow B 65 2 v n xs)
  (hyl : ys.length = 2) (hys : ∀ j u,ys[j]? = some u → w.cell? ((⟨vb,voff,none⟩ : Addr).add j) = some u) (h1y : ∀ u ∈ ys,u.oneCell' = true) (hn : n + 1 ≤ 16777216) (hB : B ≤ w.heap.size) :
  Calls Tryz.prog 34 #[v,.int .i64 n,.slice (some ⟨vb,voff,none⟩) 1 vc] w fun e w' =>
   ∃ gg cap,e = .returned (.slice (some ⟨gg,0,none⟩) (n + 1) cap) ∧ w'.ownsRow B 65 2 (.slice (some ⟨gg,0,none⟩) (n + 1) cap) (n + 1) (xs ++ ys) ∧ ((v.ownBlock = some gg ∧ w.grownBy w' (some gg)) ∨ (gg = w.heap.size ∧ Kp w w')) := by
 obtain ⟨i0,hi0,hz0⟩ : ∃ i0,Tryz.prog.info? 65 = some i0 ∧ (i0.size = 2 ∧ i0.zero = some (.agg #[.int .i64 0,.int .i64 0]) ∧ i0.bytes = 16) := ⟨_,rfl,by kernel_rfl,by kernel_rfl,by kernel_rfl⟩
 obtain ⟨gg,cap,w',r1,r2,r3⟩ := run_append_any (P := Tryz.prog) w 32 32 65 i0 (.agg #[.int .i64 0,.int .i64 0]) B Tryz.underlying32 hi0 hz0.2.1 (by rw [hz0.1]; rfl) v n xs (by rw [hz0.1]; exact hown) ⟨vb,voff,none⟩ 1 vc ys (by rw [hz0.1,hyl]) hys h1y (by omega) (by unfold maxLen; omega) (by rw [hz0.2.2]; omega) hB
 rw [hz0.1] at r2
 rcases hown.2 with ⟨rfl,rfl⟩ | ⟨g,c,cur,rfl,-,-,hnc,-⟩
 ·go_enter Tryz.func34,Tryz.ntmps34
  go_wp2_with (at_builtin; refine Lib.wpList_append_run _ rfl _ _ _ _ rfl _ _ rfl rfl _ _ r1 ?_)
  all_goals (go_ret; exact ⟨gg,cap,rfl,r2,r3⟩)
 ·go_enter Tryz.func34,Tryz.ntmps34
  go_wp2_with (at_builtin; refine Lib.wpList_append_run _ rfl _ _ _ _ rfl _ _ rfl rfl _ _ r1 ?_)
  all_goals (go_ret; exact ⟨gg,cap,rfl,r2,r3⟩)
set_option maxHeartbeats 4000000 in
set_option maxRecDepth 100000 in
theorem ins_grow (w : World) (g n i vb voff vc : Nat) (cur : Array Value) (ys : List Value) (hg : w.heap[g]? = some (.cells cur 65 (0,0))) (hi : i < n) (hcs : cur.size = n * 2) (hn : n + 1 ≤ 16777216)
  (hyl : ys.length = 2) (hys : ∀ j v,ys[j]? = some v → w.cell? ((⟨vb,voff,none⟩ : Addr).add j) = some v) (h1y : ∀ v ∈ ys,v.oneCell' = true) (h1c : ∀ v ∈ cur.toList,v.oneCell' = true) :
  Calls Tryz.prog 34 #[.slice (some ⟨g,0,none⟩) n n,.int .i64 i,.slice (some ⟨vb,voff,none⟩) 1 vc] w fun e w' =>
   ∃ cap R,e = .returned (.slice (some ⟨w.heap.size,0,none⟩) (n + 1) cap) ∧ n + 1 ≤ cap ∧ cap ≤ maxLen ∧ R.size = cap * 2 ∧ R.toList.take ((n + 1) * 2) = cur.toList.take (i * 2) ++ ys ++ cur.toList.drop (i * 2) ∧ w' = ((w.alloc (.cells R 65)).drew).drew := by
 obtain ⟨i0,hi0,hz0⟩ : ∃ i0,Tryz.prog.info? 65 = some i0 ∧ (i0.size = 2 ∧ i0.zero = some (.agg #[.int .i64 0,.int .i64 0]) ∧ i0.bytes = 16) := ⟨_,rfl,by kernel_rfl,by kernel_rfl,by kernel_rfl⟩
 obtain ⟨z1,z2,z3⟩ := hz0
 have hsz : (Tryz.prog.info? 65).map (·.size) = some 2 := by kernel_rfl
 have hgw : g < w.heap.size := heap_lt' hg
 have hvw : vb < w.heap.size := by
  obtain ⟨y0,hy0⟩ : ∃ y,ys[0]? = some y := ⟨_,List.getElem?_eq_getElem (by omega)⟩
  have := hys 0 y0 hy0
  rw [Addr.add_lit] at this
  exact cell_lt this
 obtain ⟨A,hA1⟩ : ∃ A,A = cur.toList.take (i * 2) := ⟨_,rfl⟩
 obtain ⟨M,hM1⟩ : ∃ M,M = cur.toList.drop (i * 2) := ⟨_,rfl⟩
 have hAl : A.length = i * 2 := by rw [hA1]; simp; omega
 have hMl : M.length = (n - i) * 2 := by rw [hM1]; simp; omega
 have hold : (Builtin.firstCells i0.size i (.slice (some ⟨g,0,none⟩) i n)).run Tryz.prog w.drew = .ok A.toArray w.drew := by
  rw [z1]
  exact run_firstCells_some w.drew 2 i ⟨g,0,none⟩ i n A hAl (fun j v hj=>by
   rw [Addr.add_lit,Nat.zero_add,cell_of_row w.drew g j _ _ _ (show w.drew.heap[g]? = some (.cells cur 65 (0,0)) from hg),← Array.getElem?_toList]
   rw [hA1,List.getElem?_take] at hj
   split at hj
   ·exact hj
   ·cases hj)
 obtain ⟨G,hG⟩ : ∃ G,G = grownCap w (n + 1) n 65 := ⟨_,rfl⟩
 have hGn : n + 1 ≤ G := by rw [hG]; exact grownCap_ge w _ _ _
 have hGm : G ≤ maxLen := by rw [hG]; exact grownCap_le_maxLen w (n + 1) n 65 (by unfold maxLen; omega)
 have hG63 : G ≤ 9223372036854775807 := by unfold maxLen at hGm; omega
 obtain ⟨Z,hZ⟩ : ∃ Z : List Value,Z = (Builtin.zeroCells (Value.agg #[.int .i64 0,.int .i64 0]).cells (n + 1 - i)).toList ++ (Builtin.zeroCells (Value.agg #[.int .i64 0,.int .i64 0]).cells (G - (n + 1))).toList := ⟨_,rfl⟩
 have hZl : Z.length = (G - i) * 2 := by
  rw [hZ]
  simp [Builtin.zeroCells,Value.cells]
  omega
 have hrz : ∀ ty,(Builtin.append_ #[32,3] ty #[.slice (some ⟨g,0,none⟩) i n,.int .i64 ((n + 1 - i : Nat) : Int)]).run Tryz.prog w = .ok (.slice (some ⟨w.heap.size,0,none⟩) (n + 1) G) (w.drew.alloc (.cells (A ++ Z).toArray 65)) := fun ty=>by
  have h := Lib.run_append_grow_zeros (P := Tryz.prog) w 32 3 ty 65 i0 _ .i64 .i64 Tryz.underlying32 Tryz.underlying3 hi0 z2 (some ⟨g,0,none⟩) i n A hold (n + 1 - i) (by omega) (by omega) (by omega) (by omega) (by rw [z3]; omega) (by rw [z3,show i + (n + 1 - i) = n + 1 by omega]; exact growslice_fits (by omega) (by omega))
  rw [show i + (n + 1 - i) = n + 1 by omega,← hG] at h
  rw [h,hZ]
  congr 3
  apply Array.toList_inj.1
  simp
 obtain ⟨R1,hR1⟩ : ∃ R1 : List Value,R1 = A ++ ys ++ Z.drop 2 := ⟨_,rfl⟩
 obtain ⟨R2,hR2⟩ : ∃ R2 : List Value,R2 = A ++ ys ++ M ++ Z.drop (2 + (n - i) * 2) := ⟨_,rfl⟩
 have hcpA : ∀ ty dc,(Builtin.copy_ #[32,32] ty #[.slice (some ⟨w.heap.size,i * 2,none⟩) (n + 1 - i) dc,.slice (some ⟨vb,voff,none⟩) 1 vc]).run Tryz.prog (w.drew.alloc (.cells (A ++ Z).toArray 65)) = .ok (goInt (1 : Nat)) (w.drew.alloc (.cells R1.toArray 65)) := fun ty dc=>by
  rw [run_copy_rowN (P := Tryz.prog) _ _ _ ty 65 w.heap.size (i * 2) (n + 1 - i) dc ⟨vb,voff,none⟩ 1 vc (A ++ Z).toArray 65 ys 2 1 Tryz.underlying32 hsz (heap_alloc_new w.drew _) (by simp only [Nat.min_def]; split <;> omega) (by omega) (fun j v hj=>by
   rw [Addr.add_lit]
   have := hys j v hj
   rw [Addr.add_lit] at this
   rw [World.cell?_alloc_past (w := w.drew) _ vb _ hvw]; exact this) (by simp [hAl,hZl,hyl]; omega) h1y,show ∀ c c',(w.drew.alloc (.cells c 65)).setRow w.heap.size c' = w.drew.alloc (.cells c' 65) from fun c c'=>World.setRow_alloc_new w.drew c c' _]
  congr 3
  rw [hR1,hyl]
  simp only [List.toList_toArray]
  congr 1
  rw [List.take_left' hAl,show i * 2 + 2 = A.length + 2 by omega,List.drop_append]
  simp
 have hcpB : ∀ ty dc sc,(Builtin.copy_ #[32,32] ty #[.slice (some ⟨w.heap.size,(i + 1) * 2,none⟩) (n - i) dc,.slice (some ⟨g,i * 2,none⟩) (n - i) sc]).run Tryz.prog (w.drew.drew.alloc (.cells R1.toArray 65)) = .ok (goInt (n - i : Nat)) (w.drew.drew.alloc (.cells R2.toArray 65)) := fun ty dc sc=>by
  rw [run_copy_rowN (P := Tryz.prog) _ _ _ ty 65 w.heap.size ((i + 1) * 2) (n - i) dc ⟨g,i * 2,none⟩ (n - i) sc R1.toArray 65 M 2 (n - i) Tryz.underlying32 hsz (heap_alloc_new w.drew.drew _) (by simp only [Nat.min_def]; split <;> omega) (by omega) (fun j v hj=>by
   rw [Addr.add_lit,World.cell?_alloc_past (w := w.drew.drew) _ g _ hgw,cell_of_row w.drew.drew g _ _ _ _ (show w.drew.drew.heap[g]? = some (.cells cur 65 (0,0)) from hg),← Array.getElem?_toList]
   rw [hM1,List.getElem?_drop] at hj
   exact hj) (by rw [hR1]; simp [hAl,hZl,hyl,hMl]; omega) (fun v hv=>h1c v (by rw [hM1] at hv; exact List.mem_of_mem_drop hv)),show ∀ c c',(w.drew.drew.alloc (.cells c 65)).setRow w.heap.size c' = w.drew.drew.alloc (.cells c' 65) from fun c c'=>World.setRow_alloc_new w.drew.drew c c' _]
  congr 3
  rw [hR2,hMl,hR1]
  simp only [List.toList_toArray]
  congr 1
  rw [show (i + 1) * 2 = (A ++ ys).length by simp [hAl,hyl]; omega,List.take_left,List.drop_append]
  simp
 have hcpA' : ∀ ty dc,(Builtin.copy_ #[32,32] ty #[.slice (some ⟨w.heap.size,i * 2,none⟩) (n + 1 - i) dc,.slice (some ⟨vb,voff,none⟩) 1 vc]).run Tryz.prog (w.alloc (.cells (A ++ Z).toArray 65)).drew = .ok (goInt (1 : Nat)) (w.alloc (.cells R1.toArray 65)).drew := hcpA
 have hcpB' : ∀ ty dc sc,(Builtin.copy_ #[32,32] ty #[.slice (some ⟨w.heap.size,(i + 1) * 2,none⟩) (n - i) dc,.slice (some ⟨g,i * 2,none⟩) (n - i) sc]).run Tryz.prog (w.alloc (.cells R1.toArray 65)).drew.drew = .ok (goInt (n - i : Nat)) (w.alloc (.cells R2.toArray 65)).drew.drew := hcpB
 have mixed : Tryz.prog.follows .mixedOrders = true := by kernel_rfl
 have hw1 : IntKind.i64.wrap ((i : Int) + 1) = (i : Int) + 1 := by rw [IntKind.wrap_i64]; omega
 have hw2 : IntKind.i64.wrap ((n : Int) + 1) = (n : Int) + 1 := by rw [IntKind.wrap_i64]; omega
 have hw3 : IntKind.i64.wrap ((n : Int) + 1 - (i : Int)) = ((n + 1 - i : Nat) : Int) := by rw [IntKind.wrap_i64]; omega
 have hz2 : ¬ ((i : Int) = (n : Int)) := by omega
 have hz3 : (n : Int) < (n : Int) + 1 := by omega
 have hb1 : (0 : Int) ≤ (i : Int) + 1 := by omega
 have hin : i ≤ n := by omega
 have htn : ((i : Int) + 1).toNat = i + 1 := by omega
 have hb3 : (i : Int) ≤ (n : Int) := by omega
 have hGi : ¬ (G = i) := by omega
 have hGim : ¬ (G = i + 1) := by omega
 have hci : ¬ (n = i) := by omega
 have F := hid (show R2.length = G * 2 ∧ R2.take ((n + 1) * 2) = cur.toList.take (i * 2) ++ ys ++ cur.toList.drop (i * 2) from by
  refine ⟨by rw [hR2]; simp [hAl,hZl,hyl,hMl]; omega,?_⟩
  rw [hR2,← hA1,← hM1,show (n + 1) * 2 = (A ++ ys ++ M).length by simp [hAl,hyl,hMl]; omega,List.take_left])
 clear hcpA hcpB hold hZ hG hR1 hR2 hA1 hM1 hAl hMl hZl
 go_enter Tryz.func34,Tryz.ntmps34
 go_wp2_with (first
  | (at_builtin; refine Lib.wpList_append_run _ rfl _ _ _ _ rfl _ _ rfl rfl _ _ (hrz _) ?_)
  | (at_builtin; refine wpList_copy_runI _ rfl _ _ 32 32 rfl _ _ rfl rfl (hcpA' _ _) ?_))
 go_region_law_o (refine step_copy_runI rfl _ _ 32 32 rfl _ _ (by simp [Act.eval,Act.put]) (by simp [Act.eval,Act.put]) (hcpB' _ _ _) ?_)
 go_wp2
 go_ret
 exact ⟨G,R2.toArray,rfl,hGn,hGm,by simpa using F.out.1,by simpa using F.out.2,rfl⟩
end Go.Proofs.YtjamgiobipdfhaaGreatDoor
namespace Go.Proofs.YtjamgiobipdfhaaGreatDoor
open Go.RowKit Go.Lib
set_option linter.unusedVariables false
set_option linter.unusedSimpArgs false
theorem ins_at {α : Type} {es : List α} {y c : α} {i q : Nat} (hi : i ≤ es.length) (h : (es.take i ++ [y] ++ es.drop i)[q]? = some c) : (q < i ∧ es[q]? = some c) ∨ (q = i ∧ c = y) ∨ (i < q ∧ es[q - 1]? = some c) := by
 have hl : (es.take i).length = i := by simp; omega
 rcases Nat.lt_trichotomy q i with z | z | z
 ·rw [List.append_assoc,List.getElem?_append_left (by omega),List.getElem?_take,if_pos z] at h
  exact .inl ⟨z,h⟩
 ·subst z
  rw [List.append_assoc,List.getElem?_append_right (by omega),hl,Nat.sub_self] at h
  simp at h
  exact .inr (.inl ⟨rfl,h.symm⟩)
 ·rw [List.getElem?_append_right (by simp; omega)] at h
  rw [List.getElem?_drop] at h
  refine .inr (.inr ⟨z,?_⟩)
  rw [← h]
  congr 1
  simp; omega
theorem relRow_ins {F : Nat → Nat → Value → Prop} {sz i : Nat} {es : List (List D)} {xs news : List Value} {y : List D} (h : relRow F sz es xs) (hxl : xs.length = es.length * sz) (hi : i ≤ es.length) (hy : y.length = sz) (hn : news.length = sz) (hr : ∀ (j : Nat) (x : D),y[j]? = some x → ∃ u,news[j]? = some u ∧ relD F x u) :
  relRow F sz (es.take i ++ [y] ++ es.drop i) (xs.take (i * sz) ++ news ++ xs.drop (i * sz)) := by
 have him : i * sz ≤ xs.length := by rw [hxl]; exact Nat.mul_le_mul_right _ hi
 have hl : (xs.take (i * sz)).length = i * sz := by simp; omega
 refine ⟨fun q c hq=>?_,fun q j c x hq hx=>?_⟩
 ·rcases ins_at hi hq with ⟨_,z⟩ | ⟨_,rfl⟩ | ⟨_,z⟩
  ·exact h.1 _ _ z
  ·exact hy
  ·exact h.1 _ _ z
 ·rcases ins_at hi hq with ⟨z,hz⟩ | ⟨rfl,rfl⟩ | ⟨z,hz⟩
  ·obtain ⟨u,u1,u2⟩ := h.2 q j c x hz hx
   have hj := getElem_lt hx
   rw [h.1 _ _ hz] at hj
   have hlt : q * sz + j < i * sz := by
    have := Nat.mul_le_mul_right sz (show q + 1 ≤ i from z)
    rw [Nat.add_mul] at this; omega
   exact ⟨u,by rw [List.append_assoc,List.getElem?_append_left (by omega),List.getElem?_take,if_pos hlt]; exact u1,u2⟩
  ·obtain ⟨u,u1,u2⟩ := hr j x hx
   have hj := getElem_lt u1
   exact ⟨u,by rw [List.append_assoc,List.getElem?_append_right (by omega),hl,List.getElem?_append_left (by omega),show q * sz + j - q * sz = j by omega]; exact u1,u2⟩
  ·obtain ⟨u,u1,u2⟩ := h.2 (q - 1) j c x hz hx
   have e1 : q * sz = (q - 1) * sz + sz := by rw [← Nat.succ_mul]; congr 1; omega
   have e2 : i * sz ≤ (q - 1) * sz := Nat.mul_le_mul_right _ (by omega)
   refine ⟨u,?_,u2⟩
   rw [List.getElem?_append_right (by simp; omega),List.getElem?_drop,← u1]
   congr 1
   simp; omega
theorem cell_row {w : World} {b o : Nat} {u : Value} (h : w.cell? ⟨b,o,none⟩ = some u) : ∃ c t z,w.heap[b]? = some (.cells c t z) ∧ c.size ≠ 0 := by
 unfold World.cell? at h
 split at h
 ·rename_i c t z hq
  refine ⟨c,t,z,hq,fun q=>?_⟩
  have : c = #[] := Array.eq_empty_of_size_eq_zero q
  subst this
  simp at h
 all_goals simp at h
theorem specS_ins {s : Sg} {k n : Nat} {i : Int} {es : List (List D)} {y : List D} {R : V → Sg → Prop} (ho : s.obs[k]? = some [.rowc 65 n es]) (h0 : 0 ≤ i) (hi : i ≤ (es.length : Int)) (hb : okLen (es.length + 1) = true) (hy : y.length = 2)
    (h : R (.gr k (n + 1)) ⟨s.obs.set k [.rowc 65 (n + 1) (es.take i.toNat ++ [y] ++ es.drop i.toNat)],s.lns⟩) : SpecS gP 34 [.gr k n,.d (.int .i64 i),.full [y]] s R := by
  refine ⟨by kernel_rfl,fun w0 w G vs hH hr=>?_⟩
  match vs,hr with
  | [v,iv,x],hr =>
    obtain ⟨r1,hr⟩ := rels_cons_inv hr
    obtain ⟨r2,hr⟩ := rels_cons_inv hr
    obtain ⟨r3,_⟩ := rels_cons_inv hr
    have e0 := inv_int r2
    subst e0
    obtain ⟨m,rfl⟩ : ∃ m : Nat,i = (m : Int) := ⟨i.toNat,by omega⟩
    rw [Int.toNat_natCast] at h
    have hm : m ≤ es.length := by omega
    obtain ⟨L,xs,a1,a2,a3,a4,a5,a6⟩ := inv_gr hH r1 ho
    have hLs : L.sz = 2 := a4.trans (by kernel_rfl)
    have hb' := okLen_le hb
    have hzr := list_rel r3 (show (V.full [y]).list? = some [y] from rfl)
    obtain ⟨b,off,c,news,q1,n1,n2,n3,n4⟩ := list_news (sz := 2) (fun b o v q=>(hH.fs b o v q).2) hzr (by simp) (by simp [hy])
    have n1' : news.length = 2 := by simpa using n1
    obtain ⟨y0,hy0⟩ : ∃ u,news[0]? = some u := ⟨_,List.getElem?_eq_getElem (by omega)⟩
    have hc0 := n2 0 y0 hy0
    rw [Addr.add_lit] at hc0
    obtain ⟨cA,tA,zA,hA,hA0⟩ := cell_row hc0
    have hbF : ∃ u,G.F b off u := by
      rw [q1] at hzr
      cases hzr with
      | list _ _ _ _ sz' u hne hcap hs hFc hr' =>
        have := hFc 0 0 y y[0] rfl (List.getElem?_eq_getElem (by omega))
        exact ⟨_,by simpa using this⟩
    subst a2
    rw [hLs] at a5 a6
    have hone : ∀ u ∈ xs,u.oneCell' = true := by
      intro u hu
      obtain ⟨q,hq,rfl⟩ := List.mem_iff_getElem.1 hu
      rw [a5.1] at hq
      have hi2 : q / 2 < es.length := by omega
      have he := List.getElem?_eq_getElem hi2
      have hel := a6.1 _ _ he
      have hj : q % 2 < (es[q / 2]).length := by omega
      obtain ⟨u',u1,u2⟩ := a6.2 _ _ _ _ he (List.getElem?_eq_getElem hj)
      rw [show q / 2 * 2 + q % 2 = q by omega,List.getElem?_eq_getElem (by rw [a5.1]; exact hq)] at u1
      injection u1 with u1
      rw [u1]
      exact relD_one u2
    have key : Calls Tryz.prog 34 ⟨[L.v,.int .i64 (m : Int),x]⟩ w fun e w'=>∃ gg cap,e = .returned (.slice (some ⟨gg,0,none⟩) (es.length + 1) cap) ∧ w'.ownsRow w0.heap.size 65 2 (.slice (some ⟨gg,0,none⟩) (es.length + 1) cap) (es.length + 1) (xs.take (m * 2) ++ news ++ xs.drop (m * 2)) ∧ ((L.v.ownBlock = some gg ∧ w.grownBy w' (some gg)) ∨ (gg = w.heap.size ∧ Kp w w')) := by
      rw [q1]
      have hlen : (xs.take (m * 2) ++ news ++ xs.drop (m * 2)).length = (es.length + 1) * 2 := by
        have := a5.1
        simp [n1']; omega
      rcases Nat.lt_or_ge m es.length with hlt | hge
      · rcases a5.2 with ⟨_,z⟩ | ⟨g,cap,cur,hv,hbg,hg,hnc,hcm,hcs,htake⟩
        · omega
        · have hvb : b ≠ g := by
            obtain ⟨e',es',xs',_,_,_,_,_,hz⟩ := hH.rvl k L a1
            obtain ⟨u,hu⟩ := hbF
            intro e
            subst e
            exact (hz b (by rw [hv]; rfl)).2.1 _ _ hu
          rw [hv]
          rcases Nat.lt_or_ge es.length cap with hroom | hroom
          · refine (ins_room w g es.length cap m b off c cur news hg hlt hroom hcm hcs n1' n2 n3 (by rw [htake]; exact hone) hvb hA hA0).mono ?_
            rintro e w' ⟨rfl,rfl⟩
            have hx1 : (cur.toList.take (es.length * 2)).drop (m * 2) = xs.drop (m * 2) := by rw [htake]
            have hx2 : cur.toList.take (m * 2) = xs.take (m * 2) := by rw [← htake,List.take_take]; congr 1; omega
            refine ⟨g,cap,rfl,⟨hlen,.inr ⟨g,cap,_,rfl,hbg,setRow_heap w.drew g cur _ _ (0,0) hg,hroom,hcm,?_,?_⟩⟩,.inl ⟨rfl,⟨rfl,rfl,rfl,(Nat.le_of_eq (setRow_size w.drew g _).symm),fun j _ hj=>setRow_other w.drew g j _ (fun e=>hj (by simp [e]))⟩⟩⟩
            · rw [hx1,hx2]
              simp only [List.size_toArray,List.length_append,List.length_drop,Array.length_toList,hcs]
              have := a5.1
              simp [n1']; omega
            · rw [hx1,hx2]
              simp only [List.toList_toArray]
              rw [← hlen,List.take_left]
          · obtain rfl : cap = es.length := by omega
            have hfull : cur.toList = xs := by rw [← htake,List.take_of_length_le (by simp [hcs])]
            refine (ins_grow w g es.length m b off c cur news hg hlt hcs hb' n1' n2 n3 (by rw [hfull]; exact hone)).mono ?_
            rintro e w' ⟨cap',R',rfl,c1,c2,c3,c4,rfl⟩
            rw [hfull] at c4
            refine ⟨_,cap',rfl,⟨hlen,.inr ⟨_,cap',R',rfl,hH.kp.size,heap_alloc_new w _,c1,c2,c3,c4⟩⟩,.inr ⟨rfl,((Kp.refl w).alloc _).drew.drew⟩⟩
      · obtain rfl : m = es.length := by omega
        refine (ins_end w w0.heap.size es.length b off c L.v xs news a5 n1' n2 n3 hb' hH.kp.size).mono ?_
        rintro e w' ⟨gg,cap,rfl,o1,o2⟩
        refine ⟨gg,cap,rfl,?_,o2⟩
        rw [show es.length * 2 = xs.length from a5.1.symm,List.take_length,List.drop_length,List.append_nil]
        exact o1
    refine key.mono ?_
    rintro e w' ⟨gg,cap,rfl,o1,o2⟩
    have hlen : (es.take m ++ [y] ++ es.drop m).length = es.length + 1 := by simp; omega
    have hrow : relRow G.F 2 (es.take m ++ [y] ++ es.drop m) (xs.take (m * 2) ++ news ++ xs.drop (m * 2)) := relRow_ins a6 a5.1 hm hy n1' (fun j x hx=>by
      obtain ⟨u,u1,u2⟩ := n4 0 j y x rfl hx
      exact ⟨u,by simpa using u1,u2⟩)
    subst a3
    have hob : s.obs[k]? = some [.rowc 65 L.n es] := ho
    rw [← hLs] at o1 hrow
    rw [← hlen] at o1
    obtain ⟨hle,hN⟩ := hH.growRow a1 hob o2 o1 hrow
    rw [sg_set hob] at hN
    have hN' : HR Tryz.prog w0 w' _ ⟨s.obs.set k [.rowc 65 (L.n + 1) (es.take m ++ [y] ++ es.drop m)],s.lns⟩ := hN
    exact ⟨_,.gr k (L.n + 1),_,_,rfl,hle,hN',.gr k (L.n + 1) _ rfl _ (upd_same _ _ _) (.inl ⟨rfl,by rw [hlen]⟩),h⟩
  | [],hr=>have := hr.1; simp at this
  | [_],hr=>have := hr.1; simp at this
  | [_,_],hr=>have := hr.1; simp at this
  | _ :: _ :: _ :: _ :: _,hr=>have := hr.1; simp at this
theorem specS_ins_TableLength {X : Type} (enc : X → List D) (l : List X) (y : X) {s : Sg} {k n : Nat} {i : Int} {R : V → Sg → Prop} (ho : s.obs[k]? = some [.rowc 65 n (l.map enc)]) (h0 : 0 ≤ i) (hi : i ≤ (l.length : Int)) (hb : okLen (l.length + 1) = true) (hy : (enc y).length = 2)
  (h : R (.gr k (n + 1)) ⟨s.obs.set k [.rowc 65 (n + 1) ((l.take (Int.toNat i) ++ [y] ++ l.drop (Int.toNat i)).map enc)],s.lns⟩) : SpecS gP 34 [.gr k n,.d (.int .i64 i),.full [enc y]] s R :=
 specS_ins ho h0 (by simpa using hi) (by simpa using hb) hy (by simpa only [List.map_append,List.map_take,List.map_drop,List.map_cons,List.map_nil] using h)
end Go.Proofs.YtjamgiobipdfhaaGreatDoor
