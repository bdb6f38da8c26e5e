/-
  The contract of swarfref33.Positions.
-/
import Derived.Test.YtjdjcjhdaedakaaPsB
namespace Go.Proofs.Ytjdjcjhdaedakaa
open Go.RowKit

set_option maxRecDepth 100000 in
set_option maxHeartbeats 2000000 in
theorem rpositions_any (x y z : Int) (v : Value) (l : List Mv) (w : World) (hx : I64 x) (hy : I64 y) (hz : I64 z) (hrd : Rd w 7 v l.length (cells7 l)) (hok : ∀ m ∈ l, m.ok) (hlen : l.length ≤ 1000000000) (htot : (runM x y z l).1.flatten.length ≤ 20000) :
    Calls Try.prog 24 #[.agg #[.int .i64 x, .int .i64 y, .int .i64 z], v] w (PosPost w (runM x y z l)) := by
  obtain ⟨hcl, A, ca, rfl, hA⟩ := hrd
  have HA := Lib.hid hA
  have Hok := Lib.hid hok
  clear hA hok hcl
  obtain ⟨i0, hi0, iz0, is0, ib0⟩ := info_parts info_pos
  go_enter Try.func24, Try.ntmps24
  go_wp2_with fail
  go_loopg [6, 7] l.length (fun g o i wr => ∃ (j : Nat) (a b c : Int) (acc : List (List (Int × Int × Int))) (T : Nat), g + j = l.length ∧ i = .int .i64 j ∧ Hid (acc.flatten.length = T) ∧ T ≤ 20000 ∧ Hid (runM x y z l = (acc ++ (runM a b c (l.drop j)).1, (runM a b c (l.drop j)).2)) ∧ I64 a ∧ I64 b ∧ I64 c ∧ Bk3 wr w.heap.size a b c ∧ wr.ownsRow (w.heap.size + 1) 23 3 o T (cells3 acc.flatten) ∧ Kp w wr)
  case atStart => exact ⟨0, x, y, z, [], 0, by omega, rfl, rfl, by omega, Lib.hid (by simp), hx, hy, hz, Bk3.new w x y z, World.ownsRow_nil _ _ _ _, (by repeat (first | exact Kp.refl _ | assumption | (refine Kp.alloc ?_ _) | (refine Kp.drew ?_) | (refine Kp.drewN ?_ _) | (refine Kp.setCell ?_ (by first | omega | (simp only [World.size_alloc]; omega)) _) | (refine Kp.trans ?_ (by assumption))))⟩
  case round =>
    obtain ⟨j, a, b, c, acc, T, hj, rfl, HT, hT2, Hr, ha, hb, hc, hbk, hown, hkr⟩ := hrel
    obtain ⟨Ao, co, rfl⟩ := own_slice hown
    by_cases hlt : j < l.length
    · obtain ⟨b1, o1, rfl, hb1, hc1⟩ := HA.out (by omega)
      obtain ⟨p1, p2, p3, p4, p5, p6, p7⟩ := cells7_at hlt
      have hdr := runM_drop l j hlt a b c
      have hmok := Hok.out _ (List.getElem_mem hlt)
      generalize l[j] = m at *
      have hfx : ∀ w', Kp wr w' → w'.cell? ⟨w.heap.size, 0, none⟩ = some (.int .i64 a) ∧ w'.cell? ⟨w.heap.size, 1, none⟩ = some (.int .i64 b) ∧ w'.cell? ⟨w.heap.size, 2, none⟩ = some (.int .i64 c) ∧ w'.cell? ⟨b1, o1 + j * 7, none⟩ = some (.int .i64 m.k) ∧ w'.cell? ⟨b1, o1 + j * 7 + 1, none⟩ = some (.int .i64 m.x) ∧ w'.cell? ⟨b1, o1 + j * 7 + 2, none⟩ = some (.int .i64 m.y) ∧ w'.cell? ⟨b1, o1 + j * 7 + 3, none⟩ = some (.int .i64 m.z) ∧ w'.cell? ⟨b1, o1 + j * 7 + 4, none⟩ = some (.int .i64 m.cx) ∧ w'.cell? ⟨b1, o1 + j * 7 + 5, none⟩ = some (.int .i64 m.cy) ∧ w'.cell? ⟨b1, o1 + j * 7 + 6, none⟩ = some (.int .i64 m.r) ∧ Kp wr w' := fun w' hk' => by
        have e2 : ∀ o u, (cells7 l)[o]? = some u → w'.cell? ⟨b1, o1 + o, none⟩ = some u := fun o u hu => (hk'.below.cell (p := ⟨b1, o1 + o, none⟩) (Nat.lt_of_lt_of_le hb1 hkr.size)).trans ((hkr.below.cell (p := ⟨b1, o1 + o, none⟩) hb1).trans (hc1 _ _ hu))
        obtain ⟨y1, y2, y3⟩ := (hbk.kp hk').cells
        exact ⟨y1, y2, y3, e2 _ _ p1, e2 _ _ p2, e2 _ _ p3, e2 _ _ p4, e2 _ _ p5, e2 _ _ p6, e2 _ _ p7, hk'⟩
      have Hfx := Lib.hid hfx
      obtain ⟨y1, y2, y3, x1, x2, x3, x4, x5, x6, x7, _⟩ := hfx wr (Kp.refl _)
      have Hdr := Lib.hid hdr
      obtain ⟨m0, m1, m2, m3, m4, m5, m6⟩ := hmok
      clear hc1 p1 p2 p3 p4 p5 p6 p7 hdr hfx
      have hj0 : (0 : Int) ≤ (j : Int) := Int.natCast_nonneg _
      have hj1 : (j : Int) < (l.length : Int) := by omega
      go_wp2_with fail
      go_region_held3 (fun w' => w'.cell? ⟨w.heap.size, 0, none⟩ = some (.int .i64 a) ∧ w'.cell? ⟨w.heap.size, 1, none⟩ = some (.int .i64 b) ∧ w'.cell? ⟨w.heap.size, 2, none⟩ = some (.int .i64 c) ∧ w'.cell? ⟨b1, o1 + j * 7, none⟩ = some (.int .i64 m.k) ∧ w'.cell? ⟨b1, o1 + j * 7 + 1, none⟩ = some (.int .i64 m.x) ∧ w'.cell? ⟨b1, o1 + j * 7 + 2, none⟩ = some (.int .i64 m.y) ∧ w'.cell? ⟨b1, o1 + j * 7 + 3, none⟩ = some (.int .i64 m.z) ∧ w'.cell? ⟨b1, o1 + j * 7 + 4, none⟩ = some (.int .i64 m.cx) ∧ w'.cell? ⟨b1, o1 + j * 7 + 5, none⟩ = some (.int .i64 m.cy) ∧ w'.cell? ⟨b1, o1 + j * 7 + 6, none⟩ = some (.int .i64 m.r) ∧ Kp wr w') ((go_split_ands; exact Hfx.out _ (by first | assumption | exact Kp.drew (Kp.refl wr) | (refine Kp.drew ?_; assumption) | exact Kp.trans (by assumption) hk4))) ((go_at_call 15; refine (rvalid_any _ _ _ _ _ _ _ _ _ _ _ ha hb m1 m2 m4 m5).mono ?_; rintro e w4 ⟨rfl, hk4⟩; obtain ⟨hc4, hf4⟩ := hk4.see; have hz4 := hk4.size; (try simp only [World.size_alloc] at hz4)))
      have hk4' : Kp wr w4 := (by repeat (first | exact Kp.refl _ | assumption | (refine Kp.alloc ?_ _) | (refine Kp.drew ?_) | (refine Kp.drewN ?_ _) | (refine Kp.setCell ?_ (by first | omega | (simp only [World.size_alloc]; omega)) _) | (refine Kp.trans ?_ (by assumption))))
      clear hk4 hc4 hf4 hz4 y1 y2 y3 x1 x2 x3 x4 x5 x6 x7
      obtain ⟨y1, y2, y3, x1, x2, x3, x4, x5, x6, x7, _⟩ := Hfx.out w4 hk4'
      by_cases hv : validM a b c m.k m.x m.y m.z m.cx m.cy m.r = 0
      · have hv' : (validM a b c m.k m.x m.y m.z m.cx m.cy m.r != 0) = false := neqz hv
        have Hv := Lib.hid hv
        have hr1 : Hid (runM x y z l = (acc ++ stepPs a b c m :: (runM m.x m.y m.z (l.drop (j + 1))).1, (runM m.x m.y m.z (l.drop (j + 1))).2)) := Lib.hid (by rw [Hr.out, Hdr.out, if_pos (show Mv.valid a b c m = 0 from hv)])
        have htl : (acc ++ [stepPs a b c m]).flatten.length ≤ 20000 := by
          have h := htot
          rw [hr1.out] at h
          simp only [List.flatten_append, List.flatten_cons, List.length_append, List.flatten_nil, List.append_nil] at h ⊢
          omega
        simp only [List.flatten_append, List.flatten_cons, List.length_append, List.flatten_nil, List.append_nil] at htl
        clear hv
        cases hk : (m.k == 3 || m.k == 4)
        · have hps : stepPs a b c m = [(m.x, m.y, m.z)] := by unfold stepPs Mv.arc; rw [hk]; rfl
          have Hps := Lib.hid hps
          rw [hps] at htl
          simp only [List.length_cons, List.length_nil] at htl
          have htI : T + 1 ≤ 20000 := by have := HT.out; omega
          clear hps htl
          go_wp2_with (first | (go_at_call 31; refine (rarc_any _ _ _ _ _ _ _ _).mono ?_; rw [hk]; rintro e w5 ⟨rfl, hk5⟩; obtain ⟨hc5, hf5⟩ := hk5.see; have hz5 := hk5.size; (try simp only [World.size_alloc] at hz5); have hk5' : Kp wr w5 := (by repeat (first | exact Kp.refl _ | assumption | (refine Kp.alloc ?_ _) | (refine Kp.drew ?_) | (refine Kp.drewN ?_ _) | (refine Kp.setCell ?_ (by first | omega | (simp only [World.size_alloc]; omega)) _) | (refine Kp.trans ?_ (by assumption)))); have hownW := (own_kp hown hk5').alloc (.cells #[.int .i64 m.x, .int .i64 m.y, .int .i64 m.z] 23); obtain ⟨q1, q2, q3, q4, q5, q6, q7, q8, q9, q10, _⟩ := Hfx.out w5 hk5') | (at_builtin; refine wpList_append_lies _ rfl (.tmp 43) (.tmp 49) 38 rfl (w.heap.size + 1) 23 i0 _ 3 24 Try.underlying38 hi0 iz0 is0 ib0 rfl (by decide) (.slice Ao T co) T (cells3 acc.flatten) rfl hownW ⟨w5.heap.size, 0, none⟩ 1 1 [.int .i64 m.x, .int .i64 m.y, .int .i64 m.z] rfl rfl (World.news_of_block (heap_alloc_new w5 _)) ?c2 (by decide) ?c3 ?c4 ?c5 (w5.heap.size + 1) (by simp) ?_))
          case c2 => simp [Value.oneCell']
          case c3 => unfold maxLen; omega
          case c4 => omega
          case c5 => have h1 := hk5'.size; have h2 := hbk.lt; simp only [World.size_alloc]; omega
          intro g cap w8 hown8 hg8 hat8 hlt8
          have hKW : Kp wr (w5.alloc (.cells #[.int .i64 m.x, .int .i64 m.y, .int .i64 m.z] 23)) := hk5'.alloc _
          clear hat8
          have hBk8 : Bk3 w8 w.heap.size a b c := (hg8.block _ (hbk.kp hKW).lt (by intro e; have := (hownW.lt _ e.symm).1; omega)).trans (hbk.kp hKW)
          have hk8 : Kp w w8 := Kp.grown (hkr.trans hKW) hg8 (fun k hk => by have := (hownW.lt k hk).1; omega)
          have f0 := hBk8.free 0
          have f1 := hBk8.free 1
          have f2 := hBk8.free 2
          obtain ⟨y1', y2', y3'⟩ := hBk8.cells
          have hbn : some b1 ≠ (Value.slice Ao T co).ownBlock := fun e => by have := (hownW.lt _ e.symm).1; omega
          obtain ⟨_, _, _, _, z2, z3, z4, _⟩ := Hfx.out _ hKW
          have c1 := (hg8.cell_far ⟨b1, o1 + j * 7 + 1, none⟩ (Nat.lt_of_lt_of_le hb1 (Nat.le_trans hkr.size hKW.size)) hbn).trans z2
          have c2 := (hg8.cell_far ⟨b1, o1 + j * 7 + 2, none⟩ (Nat.lt_of_lt_of_le hb1 (Nat.le_trans hkr.size hKW.size)) hbn).trans z3
          have c3 := (hg8.cell_far ⟨b1, o1 + j * 7 + 3, none⟩ (Nat.lt_of_lt_of_le hb1 (Nat.le_trans hkr.size hKW.size)) hbn).trans z4
          go_wp2_with fail
          go_roundg (gk - 1)
          case measure => omega
          case rel =>
            refine ⟨j + 1, m.x, m.y, m.z, acc ++ [stepPs a b c m], T + 1, by omega, by go_num, Lib.hid (by rw [Hps.out]; simp only [List.flatten_append, List.flatten_cons, List.length_append, List.flatten_nil, List.append_nil, List.length_cons, List.length_nil]; have := HT.out; omega), by omega, Lib.hid (by rw [hr1.out, List.append_assoc]; rfl), m1, m2, m3, hBk8.put _ _ _, ?_, ((hk8.setCell (Nat.le_refl _) _).setCell (Nat.le_refl _) _).setCell (Nat.le_refl _) _⟩
            rw [Hps.out]
            simp only [List.flatten_append, List.flatten_cons, List.flatten_nil, List.append_nil]
            rw [cells3_append]
            exact ownsRow_setCell_below (ownsRow_setCell_below (ownsRow_setCell_below hown8 (by simp only; omega) _) (by simp only; omega) _) (by simp only; omega) _
        · have hps : stepPs a b c m = arcM a b c m.k m.x m.y m.z m.cx m.cy := by unfold stepPs Mv.arc; rw [hk]; rfl
          obtain ⟨ps, hpe⟩ : ∃ ps, arcM a b c m.k m.x m.y m.z m.cx m.cy = ps := ⟨_, rfl⟩
          have hp0 := (arcOk (r := m.r) (by simpa using hk) Hv.out).pos
          rw [hpe] at hps hp0
          have Hpe := Lib.hid hpe
          have Hps := Lib.hid hps
          rw [hps] at htl
          have htI : T + ps.length ≤ 20000 := by have := HT.out; omega
          clear hpe hps htl
          go_wp2_with (go_at_call 31; refine (rarc_any _ _ _ _ _ _ _ _).mono ?_; rw [hk]; rintro e w5 ⟨rfl, hk5⟩; obtain ⟨hc5, hf5⟩ := hk5.see; have hz5 := hk5.size; (try simp only [World.size_alloc] at hz5))
          have hk5' : Kp wr w5 := (by repeat (first | exact Kp.refl _ | assumption | (refine Kp.alloc ?_ _) | (refine Kp.drew ?_) | (refine Kp.drewN ?_ _) | (refine Kp.setCell ?_ (by first | omega | (simp only [World.size_alloc]; omega)) _) | (refine Kp.trans ?_ (by assumption))))
          clear hk5 hc5 hf5 hz5 y1 y2 y3 x1 x2 x3 x4 x5 x6 x7
          obtain ⟨y1, y2, y3, x1, x2, x3, x4, x5, x6, x7, _⟩ := Hfx.out w5 hk5'
          go_region_held3 (fun w' => w'.cell? ⟨w.heap.size, 0, none⟩ = some (.int .i64 a) ∧ w'.cell? ⟨w.heap.size, 1, none⟩ = some (.int .i64 b) ∧ w'.cell? ⟨w.heap.size, 2, none⟩ = some (.int .i64 c) ∧ w'.cell? ⟨b1, o1 + j * 7, none⟩ = some (.int .i64 m.k) ∧ w'.cell? ⟨b1, o1 + j * 7 + 1, none⟩ = some (.int .i64 m.x) ∧ w'.cell? ⟨b1, o1 + j * 7 + 2, none⟩ = some (.int .i64 m.y) ∧ w'.cell? ⟨b1, o1 + j * 7 + 3, none⟩ = some (.int .i64 m.z) ∧ w'.cell? ⟨b1, o1 + j * 7 + 4, none⟩ = some (.int .i64 m.cx) ∧ w'.cell? ⟨b1, o1 + j * 7 + 5, none⟩ = some (.int .i64 m.cy) ∧ w'.cell? ⟨b1, o1 + j * 7 + 6, none⟩ = some (.int .i64 m.r) ∧ Kp wr w') ((go_split_ands; exact Hfx.out _ (by first | assumption | exact Kp.drew (Kp.refl wr) | (refine Kp.drew ?_; assumption) | exact Kp.trans (by assumption) hk7))) ((go_at_call 19; refine (rarcs_good _ _ _ _ _ _ _ _ _ _ _ ha hb m1 m2 m4 m5 hk hv').mono ?_; rw [Hpe.out]; rintro e w7 ⟨v7, rfl, hown7, hk7⟩))
          have hKW : Kp wr w7 := (by repeat (first | exact Kp.refl _ | assumption | (refine Kp.alloc ?_ _) | (refine Kp.drew ?_) | (refine Kp.drewN ?_ _) | (refine Kp.setCell ?_ (by first | omega | (simp only [World.size_alloc]; omega)) _) | (refine Kp.trans ?_ (by assumption))))
          obtain ⟨hcl7, A7, c7, rfl, hA7⟩ := Rd.of_own hown7
          obtain ⟨b7, o7, rfl, hb7, hc7⟩ := hA7 hp0
          have Hcl7 := Lib.hid hcl7
          have hownW := own_kp hown hKW
          clear hk7 hown7 hA7 hcl7 y1 y2 y3 x1 x2 x3 x4 x5 x6 x7
          obtain ⟨y1, y2, y3, x1, x2, x3, x4, x5, x6, x7, _⟩ := Hfx.out w7 hKW
          go_wp2_with (at_builtin; refine wpList_append_lies _ rfl (.tmp 40) (.tmp 41) 38 rfl (w.heap.size + 1) 23 i0 _ 3 24 Try.underlying38 hi0 iz0 is0 ib0 rfl (by decide) (.slice Ao T co) T (cells3 acc.flatten) rfl hownW ⟨b7, o7, none⟩ ps.length c7 (cells3 ps) rfl Hcl7.out ?c1 (cells3_one ps) hp0 ?c3 ?c4 ?c5 w7.heap.size rfl ?_)
          case c1 => intro j u hu; rw [addr_add]; exact hc7 j u hu
          case c3 => unfold maxLen; omega
          case c4 => omega
          case c5 => have h1 := hKW.size; have h2 := hbk.lt; omega
          intro g cap w8 hown8 hg8 hat8 hlt8
          clear hat8
          have hBk8 : Bk3 w8 w.heap.size a b c := (hg8.block _ (hbk.kp hKW).lt (by intro e; have := (hownW.lt _ e.symm).1; omega)).trans (hbk.kp hKW)
          have hk8 : Kp w w8 := Kp.grown (hkr.trans hKW) hg8 (fun k hk => by have := (hownW.lt k hk).1; omega)
          have f0 := hBk8.free 0
          have f1 := hBk8.free 1
          have f2 := hBk8.free 2
          obtain ⟨y1', y2', y3'⟩ := hBk8.cells
          have hbn : some b1 ≠ (Value.slice Ao T co).ownBlock := fun e => by have := (hownW.lt _ e.symm).1; omega
          obtain ⟨_, _, _, _, z2, z3, z4, _⟩ := Hfx.out _ hKW
          have c1 := (hg8.cell_far ⟨b1, o1 + j * 7 + 1, none⟩ (Nat.lt_of_lt_of_le hb1 (Nat.le_trans hkr.size hKW.size)) hbn).trans z2
          have c2 := (hg8.cell_far ⟨b1, o1 + j * 7 + 2, none⟩ (Nat.lt_of_lt_of_le hb1 (Nat.le_trans hkr.size hKW.size)) hbn).trans z3
          have c3 := (hg8.cell_far ⟨b1, o1 + j * 7 + 3, none⟩ (Nat.lt_of_lt_of_le hb1 (Nat.le_trans hkr.size hKW.size)) hbn).trans z4
          go_wp2_with fail
          go_roundg (gk - 1)
          case measure => omega
          case rel =>
            refine ⟨j + 1, m.x, m.y, m.z, acc ++ [stepPs a b c m], T + ps.length, by omega, by go_num, Lib.hid (by rw [Hps.out]; simp only [List.flatten_append, List.flatten_cons, List.length_append, List.flatten_nil, List.append_nil]; have := HT.out; omega), by omega, Lib.hid (by rw [hr1.out, List.append_assoc]; rfl), m1, m2, m3, hBk8.put _ _ _, ?_, ((hk8.setCell (Nat.le_refl _) _).setCell (Nat.le_refl _) _).setCell (Nat.le_refl _) _⟩
            rw [Hps.out]
            simp only [List.flatten_append, List.flatten_cons, List.flatten_nil, List.append_nil]
            rw [cells3_append]
            exact ownsRow_setCell_below (ownsRow_setCell_below (ownsRow_setCell_below hown8 (by simp only; omega) _) (by simp only; omega) _) (by simp only; omega) _
      · have hv' : (validM a b c m.k m.x m.y m.z m.cx m.cy m.r != 0) = true := neqnz hv
        have hrr : runM x y z l = (acc, validM a b c m.k m.x m.y m.z m.cx m.cy m.r) := by
          rw [Hr.out, Hdr.out, if_neg (show ¬ Mv.valid a b c m = 0 from hv), List.append_nil]; rfl
        have Hrr := Lib.hid hrr
        clear hrr
        go_wp2_with fail
        go_ret2
        rw [Hrr.out]
        refine ⟨_, rfl, ?_, hkr.trans hk4'⟩
        rw [show outM (acc, validM a b c m.k m.x m.y m.z m.cx m.cy m.r) = [] from if_neg hv]
        exact World.ownsRow_nil _ _ _ _
    · have hrr : runM x y z l = (acc, 0) := by
        rw [Hr.out, List.drop_of_length_le (by omega)]; simp [runM]
      have Hrr := Lib.hid hrr
      have htI : (T : Int) ≤ 20000 := by omega
      clear hrr
      go_wp2_with fail
      go_ret2
      rw [Hrr.out]
      refine ⟨_, rfl, ?_, hkr⟩
      show _
      rw [show outM (acc, 0) = acc.flatten from rfl, HT.out]
      exact own_mono hown (by omega)

end Go.Proofs.Ytjdjcjhdaedakaa
