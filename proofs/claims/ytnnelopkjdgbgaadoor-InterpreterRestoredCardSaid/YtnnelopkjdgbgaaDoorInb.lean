import Derived.Test.YtnnelopkjdgbgaaDoorGx
import Derived.Lib.AppendZerosOnto
import Derived.Laws.CopyRow
import Derived.Lib.Hide
import Derived.Laws.NewBlocks
import Derived.Laws.Externs
import Derived.Shelf.Spec.SlicesInsert
namespace Go.Proofs.YtnnelopkjdgbgaaDoor
open Go.RowKit Go.Lib
set_option linter.unusedVariables false
set_option linter.unusedSimpArgs false
theorem run_copy_rowN {P : Program} (w : World) (dT sT ty elem : TypeId) (g o dLen dCap : Nat) (a : Addr) (sLen sCap : Nat) (cur : Array Value) (t : TypeId) (cs : List Value) (sz m : Nat)
  (hu : P.underlying dT = some (.slice elem)) (hs : (P.info? elem).map (·.size) = some sz)
  (hg : w.heap[g]? = some (.cells cur t (0,0))) (hm : Nat.min sLen dLen = m) (hn : cs.length = m * sz)
  (hsrc : ∀ j v,cs[j]? = some v → w.cell? (a.add j) = some v) (hfit : o + cs.length ≤ cur.size) (h1 : ∀ v ∈ cs,v.oneCell' = true) :
  (Builtin.copy_ #[dT,sT] ty #[.slice (some ⟨g,o,none⟩) dLen dCap,.slice (some a) sLen sCap]).run P w =
   .ok (goInt m) (w.setRow g (cur.toList.take o ++ cs ++ cur.toList.drop (o + cs.length)).toArray) := by
 have hl := run_loadCells_list (P := P) w a cs hsrc
 have hst := run_storeCells_at P g o t cs 0 cur w hg (by simpa using hfit) h1
 cases hq : P.info? elem with
 | none=>simp [hq] at hs
 | some i =>
  have hi : i.size = sz := by simpa [hq] using hs
  simp [Builtin.copy_,run_underlying hu,Builtin.lenOf,Builtin.firstCells,sizeOf,typeInfo,hq,hi,hm,← hn,hl,hst]
theorem run_overlaps_row {P : Program} (w : World) (tS tR e : TypeId) (ht : P.underlying tS = some (.slice e)) (size : Nat) (hz : ∀ w,(Go.sizeOf e).run P w = .ok size w)
  (a b : Addr) (la ca lb cb : Nat) (hne : a.block ≠ b.block) {cA cB : Array Value} {tA tB : TypeId} {zA : Nat × Nat} (hA : w.heap[a.block]? = some (.cells cA tA zA)) (hA0 : cA.size ≠ 0) (hB : w.heap[b.block]? = some (.cells cB tB (0,0))) (hB0 : cB.size ≠ 0) :
  (Extern.SlicesOverlaps.overlaps #[tS,tS] #[tR] #[.slice (some a) la ca,.slice (some b) lb cb]).run P w = .ok (.bool false) w := by
 have hnb : (a.block != b.block) = true := by simpa using hne
 have hnb' : (a.block == b.block) = false := by simpa using hne
 have hsa : w.shape? a.block = some (tA,cA.size) := by simp [World.shape?,hA]
 have hsb : w.shape? b.block = some (tB,cB.size) := by simp [World.shape?,hB]
 have hfb : ∀ o s,w.frozen? ⟨b.block,o,s⟩ = false := fun o s=>by simp [World.frozen?,hB]
 have hfb' : w.frozen? b = false := hfb _ _
 change Sem.run P (α := Value) (do
  let some t := (#[tS, tS] : Array TypeId)[0]? | stuck "slices.overlaps: no parameter types"
  let .slice elem ← underlying t | stuck "slices.overlaps: slice type expected"
  let size ← sizeOf elem
  match (some a : Option Addr),(some b : Option Addr) with
  | some a,some b =>
   if la = 0 ∨ lb = 0 ∨ size = 0 then pure (Value.bool false)
   else if a.block != b.block && (← frozen a) && (← frozen b) then unsupported .addressObserved
   else do
    if a.block != b.block then do
     noView a; noView b
     if ← mayBeOne a b then return Value.bool ((← choose (.extern "sameAddr.stringBytes" 2)) == 1)
    pure (Value.bool (a.block == b.block && a.off < b.off + lb * size && b.off < a.off + la * size))
  | _,_=>pure (Value.bool false)) w = _
 by_cases h0 : la = 0 ∨ lb = 0 ∨ size = 0
 ·simp [run_underlying ht,hz,h0]
 ·cases hkA : cA.size with
  | zero=>exact absurd hkA hA0
  | succ kA =>
   cases hkB : cB.size with
   | zero=>exact absurd hkB hB0
   | succ kB =>
    rw [hkA] at hsa
    rw [hkB] at hsb
    cases hfa : w.frozen? a <;> cases hfe : w.frozen? { block := a.block,off := kA + 1 } <;>
     simp [run_underlying ht,hz,h0,hnb,hnb',frozen,noView,viewAt,mayBeOne,stringish,shape,Sem.run,hsa,hsb,hfa,hfe,hfb,hfb']
set_option maxHeartbeats 4000000 in
set_option maxRecDepth 100000 in
theorem ins_room (w : World) (g n c i vb voff vc : Nat) (cur : Array Value) (ys : List Value) {cA : Array Value} {tA : TypeId} {zA : Nat × Nat} (hg : w.heap[g]? = some (.cells cur 41 (0,0))) (hi : i < n) (hroom : n + 1 ≤ c) (hc : c ≤ maxLen) (hcs : cur.size = c * 3)
  (hyl : ys.length = 3) (hys : ∀ j v,ys[j]? = some v → w.cell? ((⟨vb,voff,none⟩ : Addr).add j) = some v) (h1y : ∀ v ∈ ys,v.oneCell' = true) (h1c : ∀ v ∈ cur.toList.take (n * 3),v.oneCell' = true) (hvb : vb ≠ g) (hA : w.heap[vb]? = some (.cells cA tA zA)) (hA0 : cA.size ≠ 0) :
  Calls Tryd.prog 10 #[.slice (some ⟨g,0,none⟩) n c,.int .i64 i,.slice (some ⟨vb,voff,none⟩) 1 vc] w fun e w' =>
   e = .returned (.slice (some ⟨g,0,none⟩) (n + 1) c) ∧ w' = w.drew.setRow g (cur.toList.take (i * 3) ++ ys ++ (cur.toList.take (n * 3)).drop (i * 3) ++ cur.toList.drop ((n + 1) * 3)).toArray := by
 have hc63 : c ≤ 9223372036854775807 := by unfold maxLen at hc; omega
 have hz2 : ¬ ((i : Int) = (n : Int)) := by omega
 have hsz : (Tryd.prog.info? 41).map (·.size) = some 3 := by kernel_rfl
 have hov : ∀ off lb cb,(callFunc 22 #[.slice (some ⟨vb,voff,none⟩) 1 vc,.slice (some ⟨g,off,none⟩) lb cb]).run Tryd.prog w = .ok (.value (.bool false)) w := fun off lb cb=>by
  rw [run_callFunc_extern Tryd.func22 (by kernel_rfl) (by kernel_rfl) (by kernel_rfl) (e := Extern.SlicesOverlaps.overlaps #[22,22] #[4]) (by kernel_rfl),
   run_overlaps_row w 22 4 41 Tryd.underlying22 3 Tryd.sizeOf41 ⟨vb,voff,none⟩ ⟨g,off,none⟩ 1 vc lb cb hvb hA hA0 hg (by rw [hcs]; omega)]
  rfl
 have mixed : Tryd.prog.follows .mixedOrders = true := by kernel_rfl
 have hw1 : IntKind.i64.wrap ((i : Int) + 1) = (i : Int) + 1 := by rw [IntKind.wrap_i64]; omega
 have hw2 : IntKind.i64.wrap ((n : Int) + 1) = (n : Int) + 1 := by rw [IntKind.wrap_i64]; omega
 have hb1 : (0 : Int) ≤ (i : Int) + 1 := by omega
 have hin : i ≤ n := by omega
 have htn : ((i : Int) + 1).toNat = i + 1 := by omega
 have htn2 : ((n : Int) + 1).toNat = n + 1 := by omega
 have hb3 : (i : Int) ≤ (n : Int) + 1 := by omega
 have hb2 : ¬ (c = i + 1) := by omega
 have hb4 : ¬ (c = i) := by omega
 obtain ⟨A,hA1⟩ : ∃ A,A = cur.toList.take (i * 3) := ⟨_,rfl⟩
 obtain ⟨M,hM1⟩ : ∃ M,M = (cur.toList.take (n * 3)).drop (i * 3) := ⟨_,rfl⟩
 obtain ⟨Z,hZ1⟩ : ∃ Z,Z = cur.toList.drop ((n + 1) * 3) := ⟨_,rfl⟩
 have hAl : A.length = i * 3 := by rw [hA1]; simp; omega
 have hMl : M.length = (n - i) * 3 := by rw [hM1]; simp; omega
 obtain ⟨R1,hR1⟩ : ∃ R1,R1 = (cur.toList.take ((i + 1) * 3) ++ M ++ cur.toList.drop ((i + 1) * 3 + M.length)).toArray := ⟨_,rfl⟩
 have hcell : ∀ j,w.drew.cell? ⟨g,j,none⟩ = cur[j]? := fun j=>by
  have : w.drew.heap[g]? = some (.cells cur 41 (0,0)) := hg
  exact cell_of_row w.drew g j _ _ _ this
 have hcp1 : ∀ ty dc sc,(Builtin.copy_ #[22,22] ty #[.slice (some ⟨g,(i + 1) * 3,none⟩) (n - i) dc,.slice (some ⟨g,i * 3,none⟩) (n + 1 - i) sc]).run Tryd.prog w.drew = .ok (goInt (n - i : Nat)) (w.drew.setRow g R1) := fun ty dc sc=>by
  rw [run_copy_rowN (P := Tryd.prog) w.drew _ _ ty 41 g ((i + 1) * 3) (n - i) dc ⟨g,i * 3,none⟩ (n + 1 - i) sc cur 41 M 3 (n - i) Tryd.underlying22 hsz hg (by simp only [Nat.min_def]; split <;> omega) hMl (fun j v hj=>by
   rw [Addr.add_lit,hcell,← Array.getElem?_toList]
   rw [hM1,List.getElem?_drop,List.getElem?_take] at hj
   split at hj
   ·exact hj
   ·cases hj) (by rw [hMl,hcs]; omega) (fun v hv=>h1c v (by rw [hM1] at hv; exact List.mem_of_mem_drop hv)),hR1]
 have hR1l : R1.size = c * 3 := by rw [hR1]; simp [hMl,hcs]; omega
 obtain ⟨R2,hR2⟩ : ∃ R2,R2 = (A ++ ys ++ M ++ Z).toArray := ⟨_,rfl⟩
 have hg1 : (w.drew.setRow g R1).heap[g]? = some (.cells R1 41 (0,0)) := setRow_heap w.drew g cur R1 _ (0,0) hg
 have hcp2 : ∀ ty dc,(Builtin.copy_ #[22,22] ty #[.slice (some ⟨g,i * 3,none⟩) (n + 1 - i) dc,.slice (some ⟨vb,voff,none⟩) 1 vc]).run Tryd.prog (w.drew.setRow g R1) = .ok (goInt (1 : Nat)) (w.drew.setRow g R2) := fun ty dc=>by
  rw [run_copy_rowN (P := Tryd.prog) (w.drew.setRow g R1) _ _ ty 41 g (i * 3) (n + 1 - i) dc ⟨vb,voff,none⟩ 1 vc R1 41 ys 3 1 Tryd.underlying22 hsz hg1 (by simp only [Nat.min_def]; split <;> omega) (by omega) (fun j v hj=>by
   rw [Addr.add_lit]
   have := hys j v hj
   rw [Addr.add_lit] at this
   unfold World.cell? at this ⊢
   rw [show (w.drew.setRow g R1).heap[vb]? = w.heap[vb]? from setRow_other w.drew g vb R1 hvb]
   exact this) (by rw [hR1l,hyl]; omega) h1y,setRow_setRow]
  congr 2
  rw [hR1,hR2,hyl]
  simp only [List.toList_toArray]
  congr 1
  have e1 : (cur.toList.take ((i + 1) * 3) ++ M ++ cur.toList.drop ((i + 1) * 3 + M.length)).take (i * 3) = A := by
   rw [List.append_assoc,List.take_append_of_le_length (by simp; omega),List.take_take,hA1]
   congr 1; omega
  have e2 : (cur.toList.take ((i + 1) * 3) ++ M ++ cur.toList.drop ((i + 1) * 3 + M.length)).drop (i * 3 + 3) = M ++ Z := by
   rw [List.append_assoc,show i * 3 + 3 = (cur.toList.take ((i + 1) * 3)).length by simp; omega,List.drop_left,hZ1,hMl]
   congr 2; omega
  rw [e1,e2]
  simp
 have F := hid (show R2 = (cur.toList.take (i * 3) ++ ys ++ (cur.toList.take (n * 3)).drop (i * 3) ++ cur.toList.drop ((n + 1) * 3)).toArray by rw [hR2,hA1,hM1,hZ1])
 clear hR1 hR2 hA1 hM1 hZ1 hcell hR1l hg1 hAl hMl
 go_enter Tryd.func10,Tryd.ntmps10
 go_wp2_with (simp only [hov])
 go_region_law_o (refine step_copy_runI rfl _ _ 22 22 rfl _ _ (by simp [Act.eval,Act.put]) (by simp [Act.eval,Act.put]) (hcp1 _ _ _) ?_)
 go_wp2_with (at_builtin; refine wpList_copy_runI _ rfl _ _ 22 22 rfl _ _ rfl rfl (hcp2 _ _) ?_)
 go_ret
 exact ⟨rfl,by rw [F.out]⟩
end Go.Proofs.YtnnelopkjdgbgaaDoor
