/-
  The walk of the law InterpolatePositions.
-/
import Derived.Test.YtjdjcjhdaedakaaPsE
namespace Go.Proofs.Ytjdjcjhdaedakaa
open Go.RowKit
set_option linter.unusedVariables false

theorem step_append_run {P : Program} {w : World} {ops : Array Oper} {o : Oper} {a : Act} {K : Act → World → Prop} {Q : Exit → Act → World → Prop} {E : Prop} (hgd : o.guard = none) (s x : Operand) (t : TypeId)
    (ho : o.op = .call { callee := .builtin .append, args := #[s, x], argTypes := #[t, t] }) (v u r : Value) (hs : a.eval s = v) (hx : a.eval x = u) (hrun : (Builtin.append_ #[t, t] o.type #[v, u]).run P w = .ok r w) (h : K (a.put o.dst r) w) :
    if Region.wanted o (yielded ops a.tmps) = true then Oper.wp P o a w K Q else E := by
  have hw : Region.wanted o (yielded ops a.tmps) = true := by simp [Region.wanted, hgd]
  rw [if_pos hw]
  unfold Oper.wp execOp
  simp only [ho, resolve, invoke, builtin, Sem.run_bind, Sem.run_pure, Result.andThen_ok, List.map_toArray, List.map_cons, List.map_nil, hs, hx, hrun]
  exact h

set_option maxHeartbeats 1000000 in
theorem lawPositions_many (x y z : Int) (A : Option Addr) (n ca : Nat) (w : World) (hm : 12 < (n : Int)) :
    Calls Try.prog 9 #[.agg #[.int .i64 x, .int .i64 y, .int .i64 z], .slice A n ca] w fun e w' => e = .returned (.bool true) ∧ Kp w w' := by
  go_enter Try.func9, Try.ntmps9
  go_wp2_with fail
  refine (awake_any _).mono ?_
  rintro e w1 ⟨rfl, hk1⟩; obtain ⟨hc1, hf1⟩ := hk1.see; have hz1 := hk1.size; (try simp only [World.size_alloc] at hz1); have hz1_0 : w.heap.size < w1.heap.size := (by omega)
  go_wp2_with (go_at_call 17; refine (few_many _ _ _ _ _ _ _ _ hm).mono ?_; rintro e w2 ⟨rfl, hk2⟩; obtain ⟨hc2, hf2⟩ := hk2.see; have hz2 := hk2.size; (try simp only [World.size_alloc] at hz2); have hz2_0 : w.heap.size < w2.heap.size := (by omega))
  refine (awake_any _).mono ?_
  rintro e w3 ⟨rfl, hk3⟩; obtain ⟨hc3, hf3⟩ := hk3.see; have hz3 := hk3.size; (try simp only [World.size_alloc] at hz3); have hz3_0 : w.heap.size < w3.heap.size := (by omega)
  go_wp2_with fail
  go_ret
  exact ⟨rfl, (by repeat (first | exact Kp.refl _ | assumption | (refine Kp.alloc ?_ _) | (refine Kp.drew ?_) | (refine Kp.drewN ?_ _) | (refine Kp.setCell ?_ (by first | omega | (simp only [World.size_alloc]; omega)) _) | (refine Kp.trans ?_ (by assumption))))⟩

theorem info_move : (Try.prog.info? 27).map (fun i => (i.zero, i.size, i.bytes)) = some (some (.agg #[.int .i64 0, .int .i64 0, .int .i64 0, .int .i64 0, .int .i64 0, .int .i64 0, .int .i64 0]), 7, 56) := by kernel_rfl
theorem cells7_one (l : List Mv) : ∀ u ∈ cells7 l, u.oneCell' = true := by
  intro u hu
  unfold cells7 at hu
  simp only [List.mem_flatMap, List.mem_cons, List.not_mem_nil, or_false] at hu
  obtain ⟨p, _, rfl | rfl | rfl | rfl | rfl | rfl | rfl⟩ := hu <;> rfl

set_option maxRecDepth 100000 in
set_option maxHeartbeats 2000000 in
theorem lawPositions_few (x y z : Int) (v : Value) (l : List Mv) (w : World) (hx : I64 x) (hy : I64 y) (hz : I64 z) (hrd : Rd w 7 v l.length (cells7 l)) (hok : ∀ m ∈ l, m.ok) (hlen : (l.length : Int) ≤ 12) (hfew : fewM x y z l = true) (h0 : 0 < l.length) :
    Calls Try.prog 9 #[.agg #[.int .i64 x, .int .i64 y, .int .i64 z], v] w fun e w' => e = .returned (.bool true) ∧ Kp w w' := by
  have htot : (runM x y z l).1.flatten.length ≤ 20000 := by have := run_few l x y z hfew; omega
  have Hrd := Lib.hid hrd
  obtain ⟨hcl, A, ca, rfl, hA⟩ := hrd
  obtain ⟨b1, o1, rfl, hb1, hc1⟩ := hA h0
  have Hcl := Lib.hid hcl
  have Hc1 := Lib.hid hc1
  have Hok := Lib.hid hok
  clear hcl hA hc1 hok
  obtain ⟨i0, hi0, iz0, is0, ib0⟩ := info_parts info_move
  go_enter Try.func9, Try.ntmps9
  go_wp2_with (first | (go_at_call 11; refine (awake_any _).mono ?_; rintro e w1 ⟨rfl, hk1⟩; obtain ⟨hc1, hf1⟩ := hk1.see; have hz1 := hk1.size; (try simp only [World.size_alloc] at hz1); have hz1_0 : w.heap.size < w1.heap.size := (by omega)) | (go_at_call 17; refine (few_any _ _ _ _ l _ _ hx hy hz (Hrd.out.kp (by repeat (first | exact Kp.refl _ | assumption | (refine Kp.alloc ?_ _) | (refine Kp.drew ?_) | (refine Kp.drewN ?_ _) | (refine Kp.setCell ?_ (by first | omega | (simp only [World.size_alloc]; omega)) _) | (refine Kp.trans ?_ (by assumption))))) Hok.out (by omega) hlen).mono ?_; rw [hfew]; rintro e w2 ⟨rfl, hk2⟩; obtain ⟨hc2, hf2⟩ := hk2.see; have hz2 := hk2.size; (try simp only [World.size_alloc] at hz2); have hz2_0 : w.heap.size < w2.heap.size := (by omega)))
  have hkw2 : Kp w w2 := (by repeat (first | exact Kp.refl _ | assumption | (refine Kp.alloc ?_ _) | (refine Kp.drew ?_) | (refine Kp.drewN ?_ _) | (refine Kp.setCell ?_ (by first | omega | (simp only [World.size_alloc]; omega)) _) | (refine Kp.trans ?_ (by assumption))))
  have hfx : ∀ w', Kp w2 w' → w'.cell? ⟨w.heap.size, 0, none⟩ = some (.int .i64 x) ∧ w'.cell? ⟨w.heap.size, 1, none⟩ = some (.int .i64 y) ∧ w'.cell? ⟨w.heap.size, 2, none⟩ = some (.int .i64 z) ∧ Kp w2 w' := fun w' hk' => by
    refine ⟨?_, ?_, ?_, hk'⟩
    · rw [hk'.below.cell (p := ⟨w.heap.size, 0, none⟩) hz2_0]; go_simp
    · rw [hk'.below.cell (p := ⟨w.heap.size, 1, none⟩) hz2_0]; go_simp
    · rw [hk'.below.cell (p := ⟨w.heap.size, 2, none⟩) hz2_0]; go_simp
  have Hfx := Lib.hid hfx
  obtain ⟨d0, d1, d2, _⟩ := hfx w2 (Kp.refl _)
  clear hfx hc1 hf1 hk1 hz1 hc2 hf2 hk2 hz2
  have hown0 := (World.ownsRow_lit (base := w2.heap.size) (e := 27) (size := 7) w2 #[] 0 (Nat.le_refl _) (by unfold maxLen; omega) rfl).drew
  go_region_held3 (fun w' => w'.cell? ⟨w.heap.size, 0, none⟩ = some (.int .i64 x) ∧ w'.cell? ⟨w.heap.size, 1, none⟩ = some (.int .i64 y) ∧ w'.cell? ⟨w.heap.size, 2, none⟩ = some (.int .i64 z) ∧ Kp w2 w')
    ((go_split_ands; exact Hfx.out _ (by first | assumption | exact Kp.drew (Kp.refl w2) | (exact ((Kp.refl w2).alloc _).drew) | exact Kp.grown (((Kp.refl w2).alloc _).drew) hgrow (fun k hk => (hown0.lt k hk).1) | exact Kp.trans (by assumption) hk4)))
    (first
      | (refine step_append_lies _ (by rfl) _ _ _ (by rfl) w2.heap.size 27 i0 _ 7 56 Try.underlying37 hi0 iz0 is0 ib0 rfl (by omega) (.slice (some ⟨w2.heap.size, 0, none⟩) 0 0) 0 [] (by rfl) hown0 ⟨b1, o1, none⟩ l.length ca (cells7 l) (by rfl) Hcl.out (fun j u hu => by rw [addr_add]; exact (((hkw2.alloc _).drew).below.cell (p := ⟨b1, o1 + j, none⟩) hb1).trans (Hc1.out j u hu)) (cells7_one l) h0 (by unfold maxLen; omega) (by omega) (by simp) (w2.heap.size + 1) (by simp) ?_; intro gg cap' w3 hown3 hgrow hat hlt3)
      | (go_simp; go_at_call 23; refine (positions_any _ _ _ _ l _ hx hy hz ?_ Hok.out (by omega) htot).mono ?_; exact Rd.of_own (by simpa using hown3); rintro e w4 ⟨v4, rfl, hown4, hk4⟩))
  have hk3 : Kp w2 w3 := Kp.grown (((Kp.refl w2).alloc _).drew) hgrow (fun k hk => (hown0.lt k hk).1)
  have hk24 := hk3.trans hk4
  have hr4 := Rd.of_own hown4
  clear hown4 hk4 hown3 hgrow hown0 hat hk3 d0 d1 d2
  obtain ⟨d0, d1, d2, _⟩ := Hfx.out w4 hk24
  obtain ⟨rr, hrr⟩ : ∃ rr, runM x y z l = rr := ⟨_, rfl⟩
  have HR := Lib.hid hrr
  rw [hrr] at hr4 htot ⊢
  have hol : (outM rr).length ≤ 20000 := by
    unfold outM; split
    · exact htot
    · simp
  go_wp2_with (go_at_call 24; refine (rpositions_any _ _ _ _ l _ hx hy hz (Hrd.out.kp (hkw2.trans hk24)) Hok.out (by omega) (by rw [HR.out]; exact htot)).mono ?_; rw [HR.out]; rintro e w5 ⟨v5, rfl, hown5, hk5⟩)
  clear hrr
  have hr5 := Rd.of_own hown5
  have hk25 := hk24.trans hk5
  have hrl5 := Hrd.out.kp (hkw2.trans hk25)
  have hr45 := hr4.kp hk5
  have HR45 := Lib.hid hr45
  have HR5 := Lib.hid hr5
  have HRL := Lib.hid hrl5
  clear hown5 d0 d1 d2 hr4 hr5 hr45 hrl5
  obtain ⟨d0, d1, d2, _⟩ := Hfx.out w5 hk25
  go_region_held3 (fun w' => w'.cell? ⟨w.heap.size, 0, none⟩ = some (.int .i64 x) ∧ w'.cell? ⟨w.heap.size, 1, none⟩ = some (.int .i64 y) ∧ w'.cell? ⟨w.heap.size, 2, none⟩ = some (.int .i64 z) ∧ Kp w2 w' ∧ Kp w5 w')
    ((go_split_ands; refine (fun h => ⟨(Hfx.out _ (hk25.trans h)).1, (Hfx.out _ (hk25.trans h)).2.1, (Hfx.out _ (hk25.trans h)).2.2.1, hk25.trans h, h⟩) (by first | assumption | exact Kp.drew (Kp.refl w5) | exact Kp.trans (by assumption) hk6 | exact Kp.trans (by assumption) hk7 | exact Kp.trans (by assumption) hk8)))
    (first
      | (go_at_call 20; refine (same_any _ _ (outM rr) (outM rr) _ (HR45.out.kp (Kp.drew (Kp.refl w5))) (HR5.out.kp (Kp.drew (Kp.refl w5))) (by omega) (by omega)).mono ?_; rw [show sameM (outM rr) (outM rr) = true from decide_eq_true rfl]; rintro e w6 ⟨rfl, hk6⟩)
      | (go_at_call 25; refine (iend_any _ _ _ _ l _ (HRL.out.kp ((Kp.drew (Kp.refl w5)).trans hk6)) (by omega)).mono ?_; rintro e w7 ⟨rfl, hk7⟩)
      | (go_at_call 26; refine (rend_any _ _ _ _ l _ (HRL.out.kp (((Kp.drew (Kp.refl w5)).trans hk6).trans hk7)) (by omega)).mono ?_; rintro e w8 ⟨rfl, hk8⟩))
  go_wp2_with fail
  go_ret
  exact ⟨rfl, (by repeat (first | exact Kp.refl _ | assumption | (refine Kp.alloc ?_ _) | (refine Kp.drew ?_) | (refine Kp.drewN ?_ _) | (refine Kp.setCell ?_ (by first | omega | (simp only [World.size_alloc]; omega)) _) | (refine Kp.trans ?_ (by assumption))))⟩

set_option maxRecDepth 100000 in
set_option maxHeartbeats 2000000 in
theorem lawPositions_none (x y z : Int) (A : Option Addr) (ca : Nat) (w : World) (hx : I64 x) (hy : I64 y) (hz : I64 z)  :
    Calls Try.prog 9 #[.agg #[.int .i64 x, .int .i64 y, .int .i64 z], .slice A 0 ca] w fun e w' => e = .returned (.bool true) ∧ Kp w w' := by
  have htot : (runM x y z []).1.flatten.length ≤ 20000 := by simp [runM]
  have hfew : fewM x y z [] = true := rfl
  have hrd : ∀ W : World, Rd W 7 (.slice A 0 ca) ([] : List Mv).length (cells7 []) := fun W => ⟨rfl, A, ca, rfl, fun h => absurd h (by simp)⟩
  have Hrd := Lib.hid hrd
  have Hok : Hid (∀ m ∈ ([] : List Mv), m.ok) := Lib.hid (by simp)
  clear hrd
  obtain ⟨i0, hi0, iz0, is0, ib0⟩ := info_parts info_move
  go_enter Try.func9, Try.ntmps9
  go_wp2_with (first | (go_at_call 11; refine (awake_any _).mono ?_; rintro e w1 ⟨rfl, hk1⟩; obtain ⟨hc1, hf1⟩ := hk1.see; have hz1 := hk1.size; (try simp only [World.size_alloc] at hz1); have hz1_0 : w.heap.size < w1.heap.size := (by omega)) | (go_at_call 17; refine (few_any _ _ _ _ [] _ _ hx hy hz (Hrd.out _) Hok.out (by simp) (by simp)).mono ?_; rw [hfew]; rintro e w2 ⟨rfl, hk2⟩; obtain ⟨hc2, hf2⟩ := hk2.see; have hz2 := hk2.size; (try simp only [World.size_alloc] at hz2); have hz2_0 : w.heap.size < w2.heap.size := (by omega)))
  have hkw2 : Kp w w2 := (by repeat (first | exact Kp.refl _ | assumption | (refine Kp.alloc ?_ _) | (refine Kp.drew ?_) | (refine Kp.drewN ?_ _) | (refine Kp.setCell ?_ (by first | omega | (simp only [World.size_alloc]; omega)) _) | (refine Kp.trans ?_ (by assumption))))
  have hfx : ∀ w', Kp w2 w' → w'.cell? ⟨w.heap.size, 0, none⟩ = some (.int .i64 x) ∧ w'.cell? ⟨w.heap.size, 1, none⟩ = some (.int .i64 y) ∧ w'.cell? ⟨w.heap.size, 2, none⟩ = some (.int .i64 z) ∧ Kp w2 w' := fun w' hk' => by
    refine ⟨?_, ?_, ?_, hk'⟩
    · rw [hk'.below.cell (p := ⟨w.heap.size, 0, none⟩) hz2_0]; go_simp
    · rw [hk'.below.cell (p := ⟨w.heap.size, 1, none⟩) hz2_0]; go_simp
    · rw [hk'.below.cell (p := ⟨w.heap.size, 2, none⟩) hz2_0]; go_simp
  have Hfx := Lib.hid hfx
  obtain ⟨d0, d1, d2, _⟩ := hfx w2 (Kp.refl _)
  clear hfx hc1 hf1 hk1 hz1 hc2 hf2 hk2 hz2
  have happ : ∀ W : World, (Builtin.append_ #[37, 37] 37 #[.slice (some ⟨w2.heap.size, 0, none⟩) 0 0, .slice A 0 ca]).run Try.prog W = .ok (.slice (some ⟨w2.heap.size, 0, none⟩) 0 0) W := fun W => by
    rcases A with _ | ad
    · simp [Builtin.append_, run_underlying Try.underlying37, sizeOf, typeInfo, hi0, Builtin.lenOf, Builtin.firstCells, storeCells, loadCells, loadCellsFrom]
    · simp [Builtin.append_, run_underlying Try.underlying37, sizeOf, typeInfo, hi0, Builtin.lenOf, Builtin.firstCells, storeCells, loadCells, loadCellsFrom]
  go_region_held3 (fun w' => w'.cell? ⟨w.heap.size, 0, none⟩ = some (.int .i64 x) ∧ w'.cell? ⟨w.heap.size, 1, none⟩ = some (.int .i64 y) ∧ w'.cell? ⟨w.heap.size, 2, none⟩ = some (.int .i64 z) ∧ Kp w2 w')
    ((go_split_ands; exact Hfx.out _ (by first | assumption | exact Kp.drew (Kp.refl w2) | (exact ((Kp.refl w2).alloc _).drew) | exact Kp.trans (by assumption) hk4)))
    (first
      | (refine step_append_run (by rfl) _ _ 37 (by rfl) (.slice (some ⟨w2.heap.size, 0, none⟩) 0 0) (.slice A 0 ca) (.slice (some ⟨w2.heap.size, 0, none⟩) 0 0) (by rfl) (by rfl) (happ _) ?_)
      | (go_simp; go_at_call 23; refine (positions_any _ _ _ _ [] _ hx hy hz ⟨rfl, _, _, rfl, fun h => absurd h (by simp)⟩ Hok.out (by simp) htot).mono ?_; rintro e w4 ⟨v4, rfl, hown4, hk4⟩))
  have hk24 : Kp w2 w4 := (by repeat (first | exact Kp.refl _ | assumption | (refine Kp.alloc ?_ _) | (refine Kp.drew ?_) | (refine Kp.drewN ?_ _) | (refine Kp.setCell ?_ (by first | omega | (simp only [World.size_alloc]; omega)) _) | (refine Kp.trans ?_ (by assumption))))
  have hr4 := Rd.of_own hown4
  clear hown4 hk4 d0 d1 d2
  obtain ⟨d0, d1, d2, _⟩ := Hfx.out w4 hk24
  obtain ⟨rr, hrr⟩ : ∃ rr, runM x y z [] = rr := ⟨_, rfl⟩
  have HR := Lib.hid hrr
  rw [hrr] at hr4 htot ⊢
  have hol : (outM rr).length ≤ 20000 := by
    unfold outM; split
    · exact htot
    · simp
  go_wp2_with (go_at_call 24; refine (rpositions_any _ _ _ _ [] _ hx hy hz (Hrd.out _) Hok.out (by simp) (by rw [HR.out]; exact htot)).mono ?_; rw [HR.out]; rintro e w5 ⟨v5, rfl, hown5, hk5⟩)
  clear hrr
  have hr5 := Rd.of_own hown5
  have hk25 := hk24.trans hk5
  have hr45 := hr4.kp hk5
  have HR45 := Lib.hid hr45
  have HR5 := Lib.hid hr5
  clear hown5 d0 d1 d2 hr4 hr5 hr45
  obtain ⟨d0, d1, d2, _⟩ := Hfx.out w5 hk25
  go_region_held3 (fun w' => w'.cell? ⟨w.heap.size, 0, none⟩ = some (.int .i64 x) ∧ w'.cell? ⟨w.heap.size, 1, none⟩ = some (.int .i64 y) ∧ w'.cell? ⟨w.heap.size, 2, none⟩ = some (.int .i64 z) ∧ Kp w2 w' ∧ Kp w5 w')
    ((go_split_ands; refine (fun h => ⟨(Hfx.out _ (hk25.trans h)).1, (Hfx.out _ (hk25.trans h)).2.1, (Hfx.out _ (hk25.trans h)).2.2.1, hk25.trans h, h⟩) (by first | assumption | exact Kp.drew (Kp.refl w5) | exact Kp.trans (by assumption) hk6 | exact Kp.trans (by assumption) hk7 | exact Kp.trans (by assumption) hk8)))
    (first
      | (go_at_call 20; refine (same_any _ _ (outM rr) (outM rr) _ (HR45.out.kp (Kp.drew (Kp.refl w5))) (HR5.out.kp (Kp.drew (Kp.refl w5))) (by omega) (by omega)).mono ?_; rw [show sameM (outM rr) (outM rr) = true from decide_eq_true rfl]; rintro e w6 ⟨rfl, hk6⟩)
      | (go_at_call 25; refine (iend_any _ _ _ _ [] _ (Hrd.out _) (by simp)).mono ?_; rintro e w7 ⟨rfl, hk7⟩)
      | (go_at_call 26; refine (rend_any _ _ _ _ [] _ (Hrd.out _) (by simp)).mono ?_; rintro e w8 ⟨rfl, hk8⟩))
  go_wp2_with fail
  go_ret
  exact ⟨rfl, (by repeat (first | exact Kp.refl _ | assumption | (refine Kp.alloc ?_ _) | (refine Kp.drew ?_) | (refine Kp.drewN ?_ _) | (refine Kp.setCell ?_ (by first | omega | (simp only [World.size_alloc]; omega)) _) | (refine Kp.trans ?_ (by assumption))))⟩

set_option maxHeartbeats 1000000 in
theorem lawPositions_far (x y z : Int) (v : Value) (l : List Mv) (w : World) (hx : I64 x) (hy : I64 y) (hz : I64 z) (hrd : Rd w 7 v l.length (cells7 l)) (hok : ∀ m ∈ l, m.ok) (hlen : (l.length : Int) ≤ 12) (hfew : fewM x y z l = false) :
    Calls Try.prog 9 #[.agg #[.int .i64 x, .int .i64 y, .int .i64 z], v] w fun e w' => e = .returned (.bool true) ∧ Kp w w' := by
  have Hrd := Lib.hid hrd
  have Hok := Lib.hid hok
  clear hrd hok
  go_enter Try.func9, Try.ntmps9
  go_wp2_with fail
  refine (awake_any _).mono ?_
  rintro e w1 ⟨rfl, hk1⟩; obtain ⟨hc1, hf1⟩ := hk1.see; have hz1 := hk1.size; (try simp only [World.size_alloc] at hz1); have hz1_0 : w.heap.size < w1.heap.size := (by omega)
  go_wp2_with (go_at_call 17; refine (few_any _ _ _ _ l _ _ hx hy hz (Hrd.out.kp (by repeat (first | exact Kp.refl _ | assumption | (refine Kp.alloc ?_ _) | (refine Kp.drew ?_) | (refine Kp.drewN ?_ _) | (refine Kp.setCell ?_ (by first | omega | (simp only [World.size_alloc]; omega)) _) | (refine Kp.trans ?_ (by assumption))))) Hok.out (by omega) hlen).mono ?_; rw [hfew]; rintro e w2 ⟨rfl, hk2⟩; obtain ⟨hc2, hf2⟩ := hk2.see; have hz2 := hk2.size; (try simp only [World.size_alloc] at hz2); have hz2_0 : w.heap.size < w2.heap.size := (by omega))
  refine (awake_any _).mono ?_
  rintro e w3 ⟨rfl, hk3⟩; obtain ⟨hc3, hf3⟩ := hk3.see; have hz3 := hk3.size; (try simp only [World.size_alloc] at hz3); have hz3_0 : w.heap.size < w3.heap.size := (by omega)
  go_wp2_with fail
  go_ret
  exact ⟨rfl, (by repeat (first | exact Kp.refl _ | assumption | (refine Kp.alloc ?_ _) | (refine Kp.drew ?_) | (refine Kp.drewN ?_ _) | (refine Kp.setCell ?_ (by first | omega | (simp only [World.size_alloc]; omega)) _) | (refine Kp.trans ?_ (by assumption))))⟩

theorem lawPositions_any (x y z : Int) (v : Value) (l : List Mv) (w : World) (hx : I64 x) (hy : I64 y) (hz : I64 z) (hrd : Rd w 7 v l.length (cells7 l)) (hok : ∀ m ∈ l, m.ok) (hl : l.length ≤ 9223372036854775807) :
    Calls Try.prog 9 #[.agg #[.int .i64 x, .int .i64 y, .int .i64 z], v] w fun e w' => e = .returned (.bool true) ∧ Kp w w' := by
  have hrd' := hrd
  obtain ⟨_, A, ca, rfl, _⟩ := hrd
  by_cases hlen : (l.length : Int) ≤ 12
  · cases hfew : fewM x y z l
    · exact lawPositions_far x y z _ l w hx hy hz hrd' hok hlen hfew
    · rcases Nat.eq_zero_or_pos l.length with h0 | h0
      · rw [h0]
        exact lawPositions_none x y z A ca w hx hy hz
      · exact lawPositions_few x y z _ l w hx hy hz hrd' hok hlen hfew h0
  · exact lawPositions_many x y z A l.length ca w (by omega)

end Go.Proofs.Ytjdjcjhdaedakaa
