import Derived.Test.YtjgngikiglhleaaGreatDoorSzz
import Derived.Test.YtjgngikiglhleaaGreatDoorTy
import Derived.Lib.AppendZerosOnto
import Derived.Laws.NewBlocks
namespace Go.Proofs.YtjgngikiglhleaaGreatDoor
open Go.RowKit Go.Lib
set_option linter.unusedVariables false
set_option linter.unusedSimpArgs false
set_option maxHeartbeats 4000000 in
set_option maxRecDepth 100000 in
theorem grow_nil (w : World) (n : Nat) (hn : n ≤ 16777216) : Calls Tryz.prog 91 #[.slice none 0 0,.int .i64 n] w fun e w'=>∃ v,e = .returned v ∧ Kp w w' ∧ w'.ownsRow w.heap.size 48 3 v 0 [] := by
 obtain ⟨i0,hi0,hz0⟩ : ∃ i0,Tryz.prog.info? 48 = some i0 ∧ (i0.size = 3 ∧ i0.zero = some (.agg #[.bool false,.slice none 0 0,.string ⟨#[]⟩]) ∧ i0.bytes = 48) := ⟨_,rfl,by kernel_rfl,by kernel_rfl,by kernel_rfl⟩
 have hw0 : IntKind.i64.wrap (n : Int) = (n : Int) := by rw [IntKind.wrap_i64]; omega
 by_cases h0 : n = 0
 ·subst h0
  go_enter Tryz.func91,Tryz.ntmps91
  go_wp2
  go_ret
  exact ⟨_,rfl,Kp.refl _,World.ownsRow_nil _ _ _ _⟩
 ·obtain ⟨G,hG⟩ : ∃ G,G = grownCap w n 0 48 := ⟨_,rfl⟩
  have hGn : n ≤ G := by rw [hG]; exact grownCap_ge w _ _ _
  have hGm : G ≤ maxLen := by rw [hG]; exact grownCap_le_maxLen w n 0 48 (by unfold maxLen; omega)
  obtain ⟨Z,hZ,hZl⟩ : ∃ Z : Array Value,(∀ ty,(Builtin.append_ #[31,3] ty #[.slice none 0 0,.int .i64 (n : Int)]).run Tryz.prog w = .ok (.slice (some ⟨w.heap.size,0,none⟩) n G) (w.drew.alloc (.cells Z 48))) ∧ Z.size = G * 3 := by
   have h := fun ty=>Lib.run_append_grow_zeros (P := Tryz.prog) w 31 3 ty 48 i0 _ .i64 .i64 Tryz.underlying31 Tryz.underlying3 hi0 hz0.2.1 none 0 0 [] (by simp [Builtin.firstCells]) n (by omega) (by rw [hz0.1]; omega) (by omega) (by omega) (by rw [hz0.2.2]; omega) (by rw [hz0.2.2]; exact growslice_fits (by omega) (by omega))
   simp only [Nat.zero_add,← hG] at h
   refine ⟨_,h,?_⟩
   simp [Builtin.zeroCells,Value.cells]
   omega
  clear hG
  have hpos : (0 : Int) < (n : Int) := by omega
  have hneg : ¬ ((n : Int) < 0) := by omega
  go_enter Tryz.func91,Tryz.ntmps91
  go_wp2_with (at_builtin; refine Lib.wpList_append_run _ rfl _ _ _ _ rfl _ _ rfl rfl _ _ (hZ _) ?_)
  all_goals (go_ret; exact ⟨_,rfl,(Kp.refl w).drew.alloc _,⟨by simp,.inr ⟨_,G,Z,rfl,Nat.le_refl _,heap_alloc_new w _,by omega,hGm,hZl,by simp⟩⟩⟩)
theorem grow_S {s : Sg} {R : V → Sg → Prop} {n : Int} (h : decide (0 ≤ n ∧ n ≤ 16777216) = true) (hR : R (.own s.lns.length []) ⟨s.obs,s.lns ++ [(48,0)]⟩) : SpecS gP 91 [.nil,.d (.int .i64 n)] s R := by
 have h := of_decide_eq_true h
 obtain ⟨k,rfl⟩ : ∃ k : Nat,n = (k : Int) := ⟨n.toNat,by omega⟩
 refine ⟨by kernel_rfl,fun w0 w G vs hH hr=>?_⟩
 match vs,hr with
 | [u,v],hr =>
  obtain ⟨r1,r2⟩ := rels_cons_inv hr
  obtain ⟨r2,_⟩ := rels_cons_inv r2
  have hv := inv_int r2
  subst hv
  cases r1 with
  | nil =>
   refine (grow_nil w k (by omega)).mono ?_
   rintro en w' ⟨v,rfl,hk,ho⟩
   have hc : Tryz.prog.cellsOf 48 = 3 := by kernel_rfl
   obtain ⟨A,c,rfl⟩ := own_slice ho
   rw [← hc] at ho
   obtain ⟨hle,hN⟩ := HRp.beginRowP hH hk s.lns.length (by simp) 48 ho
   rw [lns_push] at hN
   exact ⟨_,.own s.lns.length [],⟨s.obs,s.lns ++ [(48,0)]⟩,_,rfl,hle,hN,.own _ [] _ (.nil _ _) ⟨0,Tryz.prog.cellsOf 48,.slice A 0 c⟩ (upd_same _ _ _) (fun i c q=>by simp at q) (.inl ⟨rfl,rfl⟩),hR⟩
 | [],hr=>have := hr.1; simp at this
 | [_],hr=>have := hr.1; simp at this
 | _ :: _ :: _ :: _,hr=>have := hr.1; simp at this
end Go.Proofs.YtjgngikiglhleaaGreatDoor
