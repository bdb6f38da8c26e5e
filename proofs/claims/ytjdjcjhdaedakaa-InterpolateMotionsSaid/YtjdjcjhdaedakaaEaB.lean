/-
  The contract of interpolate.each with a closure (pos).
-/
import Derived.Test.YtjdjcjhdaedakaaEaA
namespace Go.Proofs.Ytjdjcjhdaedakaa
open Go.RowKit
set_option linter.unusedVariables false

def EachPostpos (Inv : List (List (Int × Int × Int)) → World → Prop) (Own : World → Nat → Prop) (w : World) (r : List (List (Int × Int × Int)) × Int) (e : Ending) (w' : World) : Prop :=
  e = .returned (.int .i64 r.2) ∧ Inv r.1 w' ∧ Kx (Own w) w w' ∧ ∀ b, b < w.heap.size → Own w' b → Own w b

set_option maxRecDepth 100000 in
set_option maxHeartbeats 2000000 in
theorem each_pos (q0 : Value) (Inv : List (List (Int × Int × Int)) → World → Prop) (Own : World → Nat → Prop) (x y z : Int) (v : Value) (l : List Mv) (w : World) (hC : Closure 44 (fun i v => #[i, v, q0]) Inv Own) (hx : I64 x) (hy : I64 y) (hz : I64 z) (hrd : Rd w 7 v l.length (cells7 l)) (hnb : 0 < l.length → ∀ b off n c, v = .slice (some ⟨b, off, none⟩) n c → ¬ Own w b) (hok : ∀ m ∈ l, m.ok) (hlen : l.length ≤ 1000000000) (htot : (runM x y z l).1.flatten.length ≤ 20000) (hI : Inv [] w) :
    Calls Try.prog 43 #[.agg #[.int .i64 x, .int .i64 y, .int .i64 z], v, .func (.func 44) #[] #[q0]] w (EachPostpos Inv Own w (runM x y z l)) := by
  obtain ⟨hcl, A, ca, rfl, hA⟩ := hrd
  have Hcl := Lib.hid hcl
  have HnB := Lib.hid hnb
  have HC := Lib.hid hC
  have HI := Lib.hid hI
  have Hok := Lib.hid hok
  have HA := Lib.hid hA
  clear hcl hnb hC hI hok hA
  go_enter Try.func43, Try.ntmps43
  go_wp2_with fail
  go_loopg [7, 15] l.length (fun g t i wr => ∃ (j : Nat) (a b c : Int) (acc : List (List (Int × Int × Int))) (T : Nat), g + j = l.length ∧ i = .int .i64 j ∧ t = .int .i64 (T : Int) ∧ Hid (acc.flatten.length = T) ∧ acc.length = j ∧ Hid (runM x y z l = (acc ++ (runM a b c (l.drop j)).1, (runM a b c (l.drop j)).2)) ∧ I64 a ∧ I64 b ∧ I64 c ∧ Bk3 wr w.heap.size a b c ∧ Hid (Inv acc wr ∧ Kx (Own w) w wr ∧ (∀ b, b < w.heap.size → Own wr b → Own w b) ∧ ¬ Own wr w.heap.size))
  case atStart =>
    have hk0 : Kp w (w.alloc (.cells #[.int .i64 x, .int .i64 y, .int .i64 z] 23)) := (Kp.refl w).alloc _
    have h1 := HC.out.kp [] w _ HI.out hk0
    exact ⟨0, x, y, z, [], 0, by omega, rfl, rfl, rfl, rfl, Lib.hid (by simp), hx, hy, hz, Bk3.new w x y z, Lib.hid ⟨h1.1, Kx.of_kp hk0, fun b _ h => (h1.2 b).1 h, fun h => Nat.lt_irrefl _ (HC.out.lt _ _ _ HI.out ((h1.2 _).1 h))⟩⟩
  case round =>
    obtain ⟨j, a, b, c, acc, T, hj, rfl, rfl, HT, hacc, Hr, ha, hb, hc, hbk, HW⟩ := hrel
    by_cases hlt : j < l.length
    · obtain ⟨b1, o1, rfl, hb1, hc1⟩ := HA.out (by omega)
      obtain ⟨p1, p2, p3, p4, p5, p6, p7⟩ := cells7_at hlt
      have hdr := runM_drop l j hlt a b c
      have hmok := Hok.out _ (List.getElem_mem hlt)
      have hm27 := stepPs a b c l[j]
      generalize l[j] = m at *
      have hnown : ¬ Own w b1 := HnB.out (by omega) _ _ _ _ rfl
      have hfx : ∀ w', Kp wr w' → w'.cell? ⟨b1, o1 + j * 7, none⟩ = some (.int .i64 m.k) ∧ w'.cell? ⟨b1, o1 + j * 7 + 1, none⟩ = some (.int .i64 m.x) ∧ w'.cell? ⟨b1, o1 + j * 7 + 2, none⟩ = some (.int .i64 m.y) ∧ w'.cell? ⟨b1, o1 + j * 7 + 3, none⟩ = some (.int .i64 m.z) ∧ w'.cell? ⟨b1, o1 + j * 7 + 4, none⟩ = some (.int .i64 m.cx) ∧ w'.cell? ⟨b1, o1 + j * 7 + 5, none⟩ = some (.int .i64 m.cy) ∧ w'.cell? ⟨b1, o1 + j * 7 + 6, none⟩ = some (.int .i64 m.r) := fun w' hk' => by
        have hbx : b1 < wr.heap.size := Nat.lt_of_lt_of_le hb1 HW.out.2.1.size
        have e2 : ∀ o u, (cells7 l)[o]? = some u → w'.cell? ⟨b1, o1 + o, none⟩ = some u := fun o u hu => (hk'.below.cell (p := ⟨b1, o1 + o, none⟩) hbx).trans ((HW.out.2.1.cell (p := ⟨b1, o1 + o, none⟩) hb1 hnown).trans (hc1 _ _ hu))
        exact ⟨e2 _ _ p1, e2 _ _ p2, e2 _ _ p3, e2 _ _ p4, e2 _ _ p5, e2 _ _ p6, e2 _ _ p7⟩
      obtain ⟨x1, x2, x3, x4, x5, x6, x7⟩ := hfx wr (Kp.refl _)
      obtain ⟨y1, y2, y3⟩ := hbk.cells
      have hbl := hbk.lt
      have Hdr := Lib.hid hdr
      have Hacc := Lib.hid hacc
      obtain ⟨m0, m1, m2, m3, m4, m5, m6⟩ := hmok
      clear hc1 p1 p2 p3 p4 p5 p6 p7 hdr hfx hm27 hacc
      have hj0 : (0 : Int) ≤ (j : Int) := Int.natCast_nonneg _
      by_cases hv : validM a b c m.k m.x m.y m.z m.cx m.cy m.r = 0
      · have hv' : (validM a b c m.k m.x m.y m.z m.cx m.cy m.r != 0) = false := neqz hv
        have Hv := Lib.hid hv
        have hr1 : Hid (runM x y z l = (acc ++ stepPs a b c m :: (runM m.x m.y m.z (l.drop (j + 1))).1, (runM m.x m.y m.z (l.drop (j + 1))).2)) := Lib.hid (by rw [Hr.out, Hdr.out, if_pos (show Mv.valid a b c m = 0 from hv)])
        have htl : (acc ++ [stepPs a b c m]).flatten.length ≤ 20000 := by
          have h := htot
          rw [hr1.out] at h
          simp only [List.flatten_append, List.flatten_cons, List.length_append, List.flatten_nil, List.append_nil] at h ⊢
          omega
        simp only [List.flatten_append, List.flatten_cons, List.length_append, List.flatten_nil, List.append_nil] at htl
        clear hv
        cases hk : (m.k == 3 || m.k == 4)
        · have hps : stepPs a b c m = [(m.x, m.y, m.z)] := by unfold stepPs Mv.arc; rw [hk]; rfl
          have Hps := Lib.hid hps
          rw [hps] at htl
          simp only [List.length_cons, List.length_nil] at htl
          have htI : (T : Int) + 1 ≤ 20000 := by have := HT.out; omega
          clear hps
          go_wp2_with (first | (go_at_call 14; refine (valid_any _ _ _ _ _ _ _ _ _ _ _ ha hb hc m1 m2 m3 m4 m5).mono ?_; rintro e w4 ⟨rfl, hk4⟩; obtain ⟨hc4, hf4⟩ := hk4.see; have hz4 := hk4.size; (try simp only [World.size_alloc] at hz4); have hz4_0 : wr.heap.size < w4.heap.size := (by omega); have hg4 : w.heap.size < w4.heap.size := (by omega)) | (go_at_call 29; refine (isArc_any _ _ _ _ _ _ _ _).mono ?_; rw [hk]; rintro e w5 ⟨rfl, hk5⟩; obtain ⟨hc5, hf5⟩ := hk5.see; have hz5 := hk5.size; (try simp only [World.size_alloc] at hz5); have hz5_0 : wr.heap.size < w5.heap.size := (by omega); have hg5 : w.heap.size < w5.heap.size := (by omega)) | fail)
          have hkw5 : Kp wr w5 := (by repeat (first | exact Kp.refl _ | assumption | (refine Kp.alloc ?_ _) | (refine Kp.drew ?_) | (refine Kp.drewN ?_ _) | (refine Kp.setCell ?_ (by first | omega | (simp only [World.size_alloc]; omega)) _) | (refine Kp.trans ?_ (by assumption))))
          obtain ⟨u1, u2, u3, u4⟩ := HW.out
          obtain ⟨i1, i2⟩ := HC.out.kp acc wr w5 u1 hkw5
          have hrd : Rd w5 3 (.slice (some ⟨w4.heap.size, 0, none⟩) 1 1) 1 (cells3 [(m.x, m.y, m.z)]) := (Rd.of_own (World.ownsRow_lit (base := 0) (e := 23) (size := 3) w4 #[.int .i64 m.x, .int .i64 m.y, .int .i64 m.z] 1 (by omega) (by unfold maxLen; omega) rfl)).kp hk5
          have hcall := HC.out.call acc w5 _ [(m.x, m.y, m.z)] i1 hrd (by simp) (by simp only [List.length_cons, List.length_nil]; omega) (by have := Hacc.out; omega)
          rw [Hacc.out] at hcall
          refine hcall.mono ?_
          clear hcall
          rintro e w6 ⟨rfl, i3, kx6, o6⟩
          have ng : ¬ Own w5 w.heap.size := fun h => u4 ((i2 _).1 h)
          have nm : ¬ Own w5 wr.heap.size := fun h => Nat.lt_irrefl _ (HC.out.lt acc wr _ u1 ((i2 _).1 h))
          have hb6 := kx6.bk3 (hbk.kp hkw5) ng
          have f0 := hb6.free 0
          have f1 := hb6.free 1
          have f2 := hb6.free 2
          obtain ⟨y1, y2, y3⟩ := hb6.cells
          have c1 : w6.cell? ⟨wr.heap.size, 1, none⟩ = some (.int .i64 m.x) := by rw [kx6.cell (p := ⟨wr.heap.size, 1, none⟩) hz5_0 nm]; go_simp
          have c2 : w6.cell? ⟨wr.heap.size, 2, none⟩ = some (.int .i64 m.y) := by rw [kx6.cell (p := ⟨wr.heap.size, 2, none⟩) hz5_0 nm]; go_simp
          have c3 : w6.cell? ⟨wr.heap.size, 3, none⟩ = some (.int .i64 m.z) := by rw [kx6.cell (p := ⟨wr.heap.size, 3, none⟩) hz5_0 nm]; go_simp
          have ng6 : ¬ Own w6 w.heap.size := fun h => ng (o6 _ (hbk.kp hkw5).lt h)
          clear hc4 hf4 hk4 hz4 hc5 hf5 hk5 hz5 x1 x2 x3 x4 x5 x6 x7
          go_wp2_with fail
          go_roundg (gk - 1)
          case measure => omega
          case rel =>
            have e0 := HC.out.far _ w6 ⟨w.heap.size, 0, none⟩ (.int .i64 m.x) i3 ng6 hb6.lt
            have e1 := HC.out.far _ _ ⟨w.heap.size, 1, none⟩ (.int .i64 m.y) e0.1 (fun h => ng6 ((e0.2 _).1 h)) (by simpa using hb6.lt)
            have e2 := HC.out.far _ _ ⟨w.heap.size, 2, none⟩ (.int .i64 m.z) e1.1 (fun h => ng6 ((e0.2 _).1 ((e1.2 _).1 h))) (by simpa using hb6.lt)
            have ee : ∀ b, Own (((w6.setCell ⟨w.heap.size, 0, none⟩ (.int .i64 m.x)).setCell ⟨w.heap.size, 1, none⟩ (.int .i64 m.y)).setCell ⟨w.heap.size, 2, none⟩ (.int .i64 m.z)) b → Own w6 b := fun b h => (e0.2 b).1 ((e1.2 b).1 ((e2.2 b).1 h))
            have kw : Kx (Own w) w w6 := (u2.kp hkw5).trans kx6 (fun i hi h => u3 i hi ((i2 i).1 h))
            refine ⟨j + 1, m.x, m.y, m.z, acc ++ [stepPs a b c m], T + 1, by omega, by go_num, by go_num, Lib.hid (by rw [Hps.out]; simp only [List.flatten_append, List.flatten_cons, List.length_append, List.flatten_nil, List.append_nil, List.length_cons, List.length_nil]; have := HT.out; omega), by simp only [List.length_append, List.length_cons, List.length_nil]; have := Hacc.out; omega, Lib.hid (by rw [hr1.out, List.append_assoc]; rfl), m1, m2, m3, hb6.put _ _ _, Lib.hid ⟨by rw [Hps.out]; exact e2.1, ?_, ?_, ?_⟩⟩
            · exact ⟨kw.os, kw.tape, kw.output, by simpa [World.setCell] using kw.size, fun b hb hn => by
                rw [Below.heap_setCell _ _ _ _ (by simp only; omega), Below.heap_setCell _ _ _ _ (by simp only; omega), Below.heap_setCell _ _ _ _ (by simp only; omega)]
                exact kw.block b hb hn⟩
            · intro b hb h
              exact u3 b hb ((i2 b).1 (o6 b (Nat.lt_of_lt_of_le hb (Nat.le_trans u2.size hkw5.size)) (ee b h)))
            · exact fun h => ng6 (ee _ h)
        · have hps : stepPs a b c m = arcM a b c m.k m.x m.y m.z m.cx m.cy := by unfold stepPs Mv.arc; rw [hk]; rfl
          obtain ⟨ps, hpe⟩ : ∃ ps, arcM a b c m.k m.x m.y m.z m.cx m.cy = ps := ⟨_, rfl⟩
          have hlp := arcM_len a b c m.k m.x m.y m.z m.cx m.cy (valid0 (by simpa using hk) Hv.out).2.2.1
          have hp0 := (arcOk (r := m.r) (by simpa using hk) Hv.out).pos
          rw [hpe] at hps hlp hp0
          have Hpe := Lib.hid hpe
          clear hpe
          have Hps := Lib.hid hps
          rw [hps] at htl
          have htI : (T : Int) + (ps.length : Int) ≤ 20000 := by have := HT.out; omega
          clear hps
          go_wp2_with (first | (go_at_call 14; refine (valid_any _ _ _ _ _ _ _ _ _ _ _ ha hb hc m1 m2 m3 m4 m5).mono ?_; rintro e w4 ⟨rfl, hk4⟩; obtain ⟨hc4, hf4⟩ := hk4.see; have hz4 := hk4.size; (try simp only [World.size_alloc] at hz4); have hz4_0 : wr.heap.size < w4.heap.size := (by omega); have hg4 : w.heap.size < w4.heap.size := (by omega)) | (go_at_call 29; refine (isArc_any _ _ _ _ _ _ _ _).mono ?_; rw [hk]; rintro e w5 ⟨rfl, hk5⟩; obtain ⟨hc5, hf5⟩ := hk5.see; have hz5 := hk5.size; (try simp only [World.size_alloc] at hz5); have hz5_0 : wr.heap.size < w5.heap.size := (by omega); have hg5 : w.heap.size < w5.heap.size := (by omega)) | fail)
          refine (arc_good _ _ _ _ _ _ _ _ _ _ _ ha hb hc m1 m2 m3 m4 m5 hk hv').mono ?_
          rw [Hpe.out]
          rintro e w7 ⟨v7, rfl, hown7, hk7⟩
          have hrd := Rd.of_own hown7
          obtain ⟨A7, c7, rfl⟩ := own_slice hown7
          clear hown7
          have hz7_0 : wr.heap.size < w7.heap.size := Nat.lt_of_lt_of_le hz5_0 hk7.size
          go_wp2_with fail
          have hkw5 : Kp wr w7 := (by repeat (first | exact Kp.refl _ | assumption | (refine Kp.alloc ?_ _) | (refine Kp.drew ?_) | (refine Kp.drewN ?_ _) | (refine Kp.setCell ?_ (by first | omega | (simp only [World.size_alloc]; omega)) _) | (refine Kp.trans ?_ (by assumption))))
          obtain ⟨u1, u2, u3, u4⟩ := HW.out
          obtain ⟨i1, i2⟩ := HC.out.kp acc wr w7 u1 hkw5
          have hcall := HC.out.call acc w7 _ ps i1 hrd hp0 (by have := HT.out; omega) (by have := Hacc.out; omega)
          rw [Hacc.out] at hcall
          refine hcall.mono ?_
          clear hcall
          rintro e w6 ⟨rfl, i3, kx6, o6⟩
          have ng : ¬ Own w7 w.heap.size := fun h => u4 ((i2 _).1 h)
          have nm : ¬ Own w7 wr.heap.size := fun h => Nat.lt_irrefl _ (HC.out.lt acc wr _ u1 ((i2 _).1 h))
          have hb6 := kx6.bk3 (hbk.kp hkw5) ng
          have f0 := hb6.free 0
          have f1 := hb6.free 1
          have f2 := hb6.free 2
          obtain ⟨y1, y2, y3⟩ := hb6.cells
          have c1 : w6.cell? ⟨wr.heap.size, 1, none⟩ = some (.int .i64 m.x) := by rw [kx6.cell (p := ⟨wr.heap.size, 1, none⟩) hz7_0 nm, hk7.below.cell (p := ⟨wr.heap.size, 1, none⟩) hz5_0]; go_simp
          have c2 : w6.cell? ⟨wr.heap.size, 2, none⟩ = some (.int .i64 m.y) := by rw [kx6.cell (p := ⟨wr.heap.size, 2, none⟩) hz7_0 nm, hk7.below.cell (p := ⟨wr.heap.size, 2, none⟩) hz5_0]; go_simp
          have c3 : w6.cell? ⟨wr.heap.size, 3, none⟩ = some (.int .i64 m.z) := by rw [kx6.cell (p := ⟨wr.heap.size, 3, none⟩) hz7_0 nm, hk7.below.cell (p := ⟨wr.heap.size, 3, none⟩) hz5_0]; go_simp
          have ng6 : ¬ Own w6 w.heap.size := fun h => ng (o6 _ (hbk.kp hkw5).lt h)
          clear hc4 hf4 hk4 hz4 hc5 hf5 hk5 hz5 x1 x2 x3 x4 x5 x6 x7
          go_wp2_with fail
          go_roundg (gk - 1)
          case measure => omega
          case rel =>
            have e0 := HC.out.far _ w6 ⟨w.heap.size, 0, none⟩ (.int .i64 m.x) i3 ng6 hb6.lt
            have e1 := HC.out.far _ _ ⟨w.heap.size, 1, none⟩ (.int .i64 m.y) e0.1 (fun h => ng6 ((e0.2 _).1 h)) (by simpa using hb6.lt)
            have e2 := HC.out.far _ _ ⟨w.heap.size, 2, none⟩ (.int .i64 m.z) e1.1 (fun h => ng6 ((e0.2 _).1 ((e1.2 _).1 h))) (by simpa using hb6.lt)
            have ee : ∀ b, Own (((w6.setCell ⟨w.heap.size, 0, none⟩ (.int .i64 m.x)).setCell ⟨w.heap.size, 1, none⟩ (.int .i64 m.y)).setCell ⟨w.heap.size, 2, none⟩ (.int .i64 m.z)) b → Own w6 b := fun b h => (e0.2 b).1 ((e1.2 b).1 ((e2.2 b).1 h))
            have kw : Kx (Own w) w w6 := (u2.kp hkw5).trans kx6 (fun i hi h => u3 i hi ((i2 i).1 h))
            refine ⟨j + 1, m.x, m.y, m.z, acc ++ [stepPs a b c m], T + ps.length, by omega, by go_num, by go_num, Lib.hid (by rw [Hps.out]; simp only [List.flatten_append, List.flatten_cons, List.length_append, List.flatten_nil, List.append_nil]; have := HT.out; omega), by simp only [List.length_append, List.length_cons, List.length_nil]; have := Hacc.out; omega, Lib.hid (by rw [hr1.out, List.append_assoc]; rfl), m1, m2, m3, hb6.put _ _ _, Lib.hid ⟨by rw [Hps.out]; exact e2.1, ?_, ?_, ?_⟩⟩
            · exact ⟨kw.os, kw.tape, kw.output, by simpa [World.setCell] using kw.size, fun b hb hn => by
                rw [Below.heap_setCell _ _ _ _ (by simp only; omega), Below.heap_setCell _ _ _ _ (by simp only; omega), Below.heap_setCell _ _ _ _ (by simp only; omega)]
                exact kw.block b hb hn⟩
            · intro b hb h
              exact u3 b hb ((i2 b).1 (o6 b (Nat.lt_of_lt_of_le hb (Nat.le_trans u2.size hkw5.size)) (ee b h)))
            · exact fun h => ng6 (ee _ h)
      · have hv' : (validM a b c m.k m.x m.y m.z m.cx m.cy m.r != 0) = true := neqnz hv
        go_wp2_with (go_at_call 14; refine (valid_any _ _ _ _ _ _ _ _ _ _ _ ha hb hc m1 m2 m3 m4 m5).mono ?_; rintro e w4 ⟨rfl, hk4⟩; obtain ⟨hc4, hf4⟩ := hk4.see; have hz4 := hk4.size; (try simp only [World.size_alloc] at hz4); have hz4_0 : wr.heap.size < w4.heap.size := (by omega); have hg4 : w.heap.size < w4.heap.size := (by omega))
        go_ret
        have hk4' : Kp wr w4 := (by repeat (first | exact Kp.refl _ | assumption | (refine Kp.alloc ?_ _) | (refine Kp.drew ?_) | (refine Kp.drewN ?_ _) | (refine Kp.setCell ?_ (by first | omega | (simp only [World.size_alloc]; omega)) _) | (refine Kp.trans ?_ (by assumption))))
        obtain ⟨w1, w2, w3, w5⟩ := HW.out
        obtain ⟨i1, i2⟩ := HC.out.kp acc wr w4 w1 hk4'
        have hrr : runM x y z l = (acc, validM a b c m.k m.x m.y m.z m.cx m.cy m.r) := by
          rw [Hr.out, Hdr.out, if_neg (show ¬ Mv.valid a b c m = 0 from hv), List.append_nil]; rfl
        rw [hrr]
        exact ⟨rfl, i1, w2.kp hk4', fun b hb h => w3 b hb ((i2 b).1 h)⟩
    · have hjn : j = l.length := by omega
      have hrr : runM x y z l = (acc, 0) := by
        rw [Hr.out, List.drop_of_length_le (by omega)]; simp [runM]
      obtain ⟨w1, w2, w3, w5⟩ := HW.out
      have htl : acc.flatten.length ≤ 20000 := by have h := htot; rw [hrr] at h; exact h
      have Hrr := Lib.hid hrr
      have htI : (T : Int) ≤ 20000 := by have := HT.out; omega
      clear hrr hjn
      go_wp2_with fail
      go_ret
      rw [Hrr.out]
      exact ⟨rfl, w1, w2, w3⟩

end Go.Proofs.Ytjdjcjhdaedakaa
