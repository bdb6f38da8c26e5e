/-
  The contracts of End, of the program and of the reference.
-/
import Derived.Test.YtjdjcjhdaedakaaPsC
namespace Go.Proofs.Ytjdjcjhdaedakaa
open Go.RowKit

def endM (x y z : Int) (l : List Mv) : Int × Int × Int := match l.getLast? with | none => (x, y, z) | some m => (m.x, m.y, m.z)
theorem endM_nil (x y z : Int) {l : List Mv} (h : l.length = 0) : endM x y z l = (x, y, z) := by
  have : l = [] := List.eq_nil_of_length_eq_zero h
  subst this; rfl
theorem endM_last (x y z : Int) {l : List Mv} (h : l.length - 1 < l.length) : endM x y z l = (l[l.length - 1].x, l[l.length - 1].y, l[l.length - 1].z) := by
  unfold endM
  rw [List.getLast?_eq_getElem?, List.getElem?_eq_getElem h]

set_option maxHeartbeats 1000000 in
theorem iend_any (x y z : Int) (v : Value) (l : List Mv) (w : World) (hrd : Rd w 7 v l.length (cells7 l)) (hlen : l.length ≤ 1000000000000) :
    Calls Try.prog 25 #[.agg #[.int .i64 x, .int .i64 y, .int .i64 z], v] w fun e w' => e = .returned (.agg #[.int .i64 (endM x y z l).1, .int .i64 (endM x y z l).2.1, .int .i64 (endM x y z l).2.2]) ∧ Kp w w' := by
  obtain ⟨hcl, A, ca, rfl, hA⟩ := hrd
  have Hcl := Lib.hid hcl
  clear hcl
  by_cases h0 : l.length = 0
  · rw [endM_nil x y z h0]
    have h1 : ((l.length : Int) == 0) = true := by simp [h0]
    clear hA
    go_enter Try.func25, Try.ntmps25
    go_wp2_with fail
    exact bodyPost_ret (v := .agg #[.int .i64 x, .int .i64 y, .int .i64 z]) (by simp [results, Try.results25, go_sem]) rfl ⟨rfl, (by repeat (first | exact Kp.refl _ | assumption | (refine Kp.alloc ?_ _) | (refine Kp.drew ?_) | (refine Kp.drewN ?_ _) | (refine Kp.setCell ?_ (by first | omega | (simp only [World.size_alloc]; omega)) _) | (refine Kp.trans ?_ (by assumption))))⟩
  · have hl1 : l.length - 1 < l.length := by omega
    rw [endM_last x y z hl1]
    obtain ⟨b1, o1, rfl, hb1, hc1⟩ := hA (by omega)
    obtain ⟨_, p2, p3, p4, _⟩ := cells7_at hl1
    generalize l[l.length - 1] = m at *
    have x2 := hc1 _ _ p2
    have x3 := hc1 _ _ p3
    have x4 := hc1 _ _ p4
    rw [← Nat.add_assoc] at x2 x3 x4
    have h1 : ((l.length : Int) == 0) = false := by simpa using h0
    have i1 : IntKind.i64.wrap ((l.length : Int) - 1) = (l.length : Int) - 1 := IntWalk.i64_in _ (by omega)
    have i2 : ((l.length : Int) - 1).toNat = l.length - 1 := by omega
    have i3 : (1 : Int) ≤ (l.length : Int) := by omega
    clear hA hc1 p2 p3 p4
    go_enter Try.func25, Try.ntmps25
    go_wp2_with fail
    exact bodyPost_ret (v := .agg #[.int .i64 m.x, .int .i64 m.y, .int .i64 m.z]) (by simp [results, Try.results25, go_sem]) rfl ⟨rfl, (by repeat (first | exact Kp.refl _ | assumption | (refine Kp.alloc ?_ _) | (refine Kp.drew ?_) | (refine Kp.drewN ?_ _) | (refine Kp.setCell ?_ (by first | omega | (simp only [World.size_alloc]; omega)) _) | (refine Kp.trans ?_ (by assumption))))⟩

set_option maxHeartbeats 1000000 in
theorem rend_any (x y z : Int) (v : Value) (l : List Mv) (w : World) (hrd : Rd w 7 v l.length (cells7 l)) (hlen : l.length ≤ 1000000000000) :
    Calls Try.prog 26 #[.agg #[.int .i64 x, .int .i64 y, .int .i64 z], v] w fun e w' => e = .returned (.agg #[.int .i64 (endM x y z l).1, .int .i64 (endM x y z l).2.1, .int .i64 (endM x y z l).2.2]) ∧ Kp w w' := by
  obtain ⟨hcl, A, ca, rfl, hA⟩ := hrd
  have Hcl := Lib.hid hcl
  clear hcl
  by_cases h0 : l.length = 0
  · rw [endM_nil x y z h0]
    have h1 : ((l.length : Int) == 0) = true := by simp [h0]
    clear hA
    go_enter Try.func26, Try.ntmps26
    go_wp2_with fail
    exact bodyPost_ret (v := .agg #[.int .i64 x, .int .i64 y, .int .i64 z]) (by simp [results, Try.results26, go_sem]) rfl ⟨rfl, (by repeat (first | exact Kp.refl _ | assumption | (refine Kp.alloc ?_ _) | (refine Kp.drew ?_) | (refine Kp.drewN ?_ _) | (refine Kp.setCell ?_ (by first | omega | (simp only [World.size_alloc]; omega)) _) | (refine Kp.trans ?_ (by assumption))))⟩
  · have hl1 : l.length - 1 < l.length := by omega
    rw [endM_last x y z hl1]
    obtain ⟨b1, o1, rfl, hb1, hc1⟩ := hA (by omega)
    obtain ⟨_, p2, p3, p4, _⟩ := cells7_at hl1
    generalize l[l.length - 1] = m at *
    have x2 := hc1 _ _ p2
    have x3 := hc1 _ _ p3
    have x4 := hc1 _ _ p4
    rw [← Nat.add_assoc] at x2 x3 x4
    have h1 : ((l.length : Int) == 0) = false := by simpa using h0
    have i1 : IntKind.i64.wrap ((l.length : Int) - 1) = (l.length : Int) - 1 := IntWalk.i64_in _ (by omega)
    have i2 : ((l.length : Int) - 1).toNat = l.length - 1 := by omega
    have i3 : (1 : Int) ≤ (l.length : Int) := by omega
    clear hA hc1 p2 p3 p4
    go_enter Try.func26, Try.ntmps26
    go_wp2_with fail
    exact bodyPost_ret (v := .agg #[.int .i64 m.x, .int .i64 m.y, .int .i64 m.z]) (by simp [results, Try.results26, go_sem]) rfl ⟨rfl, (by repeat (first | exact Kp.refl _ | assumption | (refine Kp.alloc ?_ _) | (refine Kp.drew ?_) | (refine Kp.drewN ?_ _) | (refine Kp.setCell ?_ (by first | omega | (simp only [World.size_alloc]; omega)) _) | (refine Kp.trans ?_ (by assumption))))⟩

end Go.Proofs.Ytjdjcjhdaedakaa
