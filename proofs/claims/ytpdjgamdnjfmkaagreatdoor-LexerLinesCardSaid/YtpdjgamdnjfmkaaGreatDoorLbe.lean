/-
  Lb, Ls in one text.
-/
import Derived.Test.YtpdjgamdnjfmkaaGreatDoorLz
import Derived.Test.YtpdjgamdnjfmkaaGreatDoorGx
import Derived.Test.YtpdjgamdnjfmkaaGreatDoorTy
import Derived.Lib.AppendIntMem
import Derived.Shelf.Strings.SlTrimAscii
import Derived.Shelf.Small.Strs
import Derived.Shelf.Strings.Search3
import Derived.Shelf.Strings.SplitCore
import Derived.Shelf.Strings.Count
import Derived.Lib.SplitLaws
import Derived.Lib.IndexBytes
namespace Go.Proofs.YtpdjgamdnjfmkaaGreatDoor
open Go.RowKit
set_option linter.unusedVariables false
set_option linter.unusedSimpArgs false
set_option maxRecDepth 100000
theorem spec_str {f : FuncId} {args : List V} {y : List UInt8} (he : enterable Tryz.prog f = true) (h : ∀ (w : World) (F : Nat → Nat → Value → Prop) (vs : List Value), GlobOk w F → rels (bareG F) args vs → Calls Tryz.prog f ⟨vs⟩ w fun e w' => e = .returned (.string ⟨y.toArray⟩) ∧ Kp w w') : Spec gP f args (.d (.str y)) :=
 ⟨he, fun w F vs hF hg hr => (h w F vs hg hr).mono (by rintro e w' ⟨rfl, hk⟩; exact ⟨_, rfl, hk, .d (.str _)⟩)⟩
theorem args2 {G : Cx} {x y : V} {vs : List Value} (h : rels G [x, y] vs) : ∃ v u, vs = [v, u] ∧ rel G x v ∧ rel G y u := by
 match vs, h with
 | [v, u], h => exact ⟨v, u, rfl, (rels_cons_inv h).1, (rels_cons_inv (rels_cons_inv h).2).1⟩
 | [], h => have := h.1; simp at this
 | [_], h => have := h.1; simp at this
 | _ :: _ :: _ :: _, h => have := h.1; simp at this
def trimL1 (s : List UInt8) : List UInt8 → Option (List UInt8)
 | [c] => guardO (decide (c.toNat < 128) && decide (s.length ≤ 9223372036854775807)) (some (Lib.trimLeftB s c))
 | _ => none
def strings_TrimLeft (a0 a1 : List UInt8) : Option (List UInt8) := trimL1 a0 a1
theorem strings_TrimLeft_spec {a0 a1 : List UInt8} {y : List UInt8} (h : strings_TrimLeft a0 a1 = some y) : Spec gP 78 [.d (.str a0), .d (.str a1)] (.d (.str y)) := by
 unfold strings_TrimLeft trimL1 at h
 split at h
 · rename_i c
   obtain ⟨hl, h⟩ := guardO_some h
   injection h with h; subst h
   simp only [Bool.and_eq_true, decide_eq_true_eq] at hl
   refine spec_str (by kernel_rfl) fun w F vs hg hr => ?_
   obtain ⟨v, u, rfl, r1, r2⟩ := args2 hr
   have hv := inv_str r1; have hu := inv_str r2
   subst hv; subst hu
   refine (Any.strings_TrimLeft_one lays161 ⟨a0.toArray⟩ c hl.1 w).mono ?_
   rintro e w' ⟨rfl, rfl⟩
   exact ⟨rfl, Kp.refl _⟩
 · cases h
def strings_Trim (a0 a1 : List UInt8) : Option (List UInt8) := guardO (a1.all (fun c => decide (c.toNat < 128)) && (decide (a0.length ≤ 9223372036854775807) && decide (a1.length < 4294967281))) (some (Lib.trimS a0 a1))
theorem zero_set (w : World) : (zeroValue 135).run Tryz.prog w = .ok (.agg (Array.replicate 256 (.bool false))) w := by
 obtain ⟨i, hi, hz⟩ : ∃ i, Tryz.prog.info? 135 = some i ∧ i.zero = some (.agg (Array.replicate 256 (.bool false))) := ⟨_, rfl, by kernel_rfl⟩
 simp [zeroValue, typeInfo, hi, hz, program, Sem.run]
theorem strings_Trim_spec {a0 a1 : List UInt8} {y : List UInt8} (h : strings_Trim a0 a1 = some y) : Spec gP 107 [.d (.str a0), .d (.str a1)] (.d (.str y)) := by
 obtain ⟨hl, h⟩ := guardO_some h
 injection h with h; subst h
 simp only [Bool.and_eq_true, decide_eq_true_eq, List.all_eq_true] at hl
 refine spec_str (by kernel_rfl) fun w F vs hg hr => ?_
 obtain ⟨v, u, rfl, r1, r2⟩ := args2 hr
 have hv := inv_str r1; have hu := inv_str r2
 subst hv; subst hu
 exact Any.strings_Trim_ascii lays160 zero_set (by kernel_rfl) ⟨a0.toArray⟩ ⟨a1.toArray⟩ w hl.2.1 hl.2.2 (fun j b hb => hl.1 b (List.mem_of_getElem? hb))
def stringslite_IndexByte (a0 : List UInt8) (a1 : Int) : Option Int := some (Lib.indexByte a0 a1.toNat.toUInt8)
theorem stringslite_IndexByte_spec {a0 : List UInt8} {a1 y : Int} (h : stringslite_IndexByte a0 a1 = some y) : Spec gP 52 [.d (.str a0), .d (.int .u8 a1)] (.d (.int .i64 y)) := by
 injection h with h; subst h
 refine ⟨by kernel_rfl, fun w F vs hF hg hr => ?_⟩
 obtain ⟨v, u, rfl, r1, r2⟩ := args2 hr
 have hv := inv_str r1; have hu := inv_int r2
 subst hv; subst hu
 refine (Any.stringslite_IndexByte lays217 ⟨a0.toArray⟩ a1 w).mono ?_
 rintro e w' ⟨rfl, rfl⟩
 exact ⟨_, rfl, Kp.refl _, .d (.int _ _)⟩
end Go.Proofs.YtpdjgamdnjfmkaaGreatDoor
namespace Go.Proofs.YtpdjgamdnjfmkaaGreatDoor
open Go.RowKit
set_option linter.unusedVariables false
set_option linter.unusedSimpArgs false
theorem rel_strs {F : Nat → Nat → Value → Prop} {w : World} {t : TypeId} (xs : List ByteArray) (N : Nat) (hx : xs.length = N) (h0 : 0 < N) :
  rel (bareG fun b o u => F b o u ∨ fresh w (w.alloc (.cells (Lib.cellsOf xs N) t)) b o u) (.d (.list (List.map eStr (xs.map (·.data.toList))))) (.slice (some ⟨w.heap.size, 0, none⟩) xs.length N) := by
 subst hx
 have hl : (List.map eStr (xs.map (·.data.toList))).length = xs.length := by simp
 have key : ∀ (i j : Nat) (e : List D) (x : D), (List.map eStr (xs.map (·.data.toList)))[i]? = some e → e[j]? = some x → ∃ s, xs[i]? = some s ∧ j = 0 ∧ x = .str s.data.toList := by
  intro i j e x h1 h2
  rw [List.getElem?_map, List.getElem?_map] at h1
  cases hs : xs[i]? with
  | none => rw [hs] at h1; cases h1
  | some s =>
   rw [hs] at h1
   injection h1 with h1
   subst h1
   cases j with
   | zero => injection h2 with h2; exact ⟨s, rfl, rfl, h2.symm⟩
   | succ j => cases h2
 rw [show (Value.slice (some ⟨w.heap.size, 0, none⟩) xs.length xs.length) = .slice (some ⟨w.heap.size, 0, none⟩) (List.map eStr (xs.map (·.data.toList))).length xs.length by rw [hl]]
 refine .d (.list _ w.heap.size 0 xs.length 1 (fun i _ => match xs[i]? with | some s => .string s | none => Go.undef) (by rw [hl]; exact h0) (by rw [hl]; exact Nat.le_refl _) ?_ ?_ ?_)
 ·intro i e h1
  rw [List.getElem?_map] at h1
  cases hs : (xs.map (·.data.toList))[i]? with
  | none => rw [hs] at h1; cases h1
  | some s => rw [hs] at h1; injection h1 with h1; subst h1; rfl
 ·intro i j e x h1 h2
  obtain ⟨s, hs, rfl, rfl⟩ := key i j e x h1 h2
  refine .inr ⟨Nat.le_refl _, ?_⟩
  rw [World.cell?_alloc_new]
  simp only [Nat.zero_add, Nat.mul_one, Nat.add_zero, hs]
  unfold Lib.cellsOf
  rw [List.getElem?_toArray, List.getElem?_append_left (by rw [List.length_map]; exact (List.getElem?_eq_some_iff.1 hs).1), List.getElem?_map, hs]
  rfl
 ·intro i j e x h1 h2
  obtain ⟨s, hs, rfl, rfl⟩ := key i j e x h1 h2
  simp only [hs]
  exact .str _
section
open Go.Shelf Go.Lib
variable {P : Program} {ρ : Ren}
theorem countB_one (s : ByteArray) (c : UInt8) : Lib.countB s ⟨#[c]⟩ = Lib.countByte s.data.toList c := by
 show Lib.count s.data.toList [c] = _
 rw [Lib.count_one]; rfl
set_option maxHeartbeats 4000000 in
theorem split_one (L : Lays.n146 P ρ) (hi9 : (P.info? (ρ.t 9)).map (fun i => (i.zero, i.size, i.bytes)) = some (some (.string ByteArray.empty), 1, 16)) (s : ByteArray) (b : UInt8) (w : World) (hs : s.size < 4294967281) :
   Calls P (ρ.f 146) #[.string s, .string ⟨#[b]⟩] w fun e w' =>
     e = .returned (.slice (some ⟨w.heap.size, 0, none⟩) (Lib.splitB ⟨#[b]⟩ 0 (Lib.countB s ⟨#[b]⟩) s).length (Lib.countB s ⟨#[b]⟩ + 1)) ∧ w' = w.alloc (.cells (Lib.cellsOf (Lib.splitB ⟨#[b]⟩ 0 (Lib.countB s ⟨#[b]⟩) s) (Lib.countB s ⟨#[b]⟩ + 1)) (ρ.t 9)) := by
 have hle := Lib.countB_le ⟨#[b]⟩ (Nat.le_refl 1) s.size s (Nat.le_refl _)
 have c := Any.strings_genSplit_core { L with } hi9 s ⟨#[b]⟩ 0 (-1) (Lib.countB s ⟨#[b]⟩ + 1) w hs (Nat.le_refl 1) (Nat.zero_le _)
   (fun x cc hx => (Any.strings_Index_one { L with } x b _).mono fun e w' ⟨he, hw⟩ => ⟨by rw [he, ← Lib.index_one], hw⟩)
   ((Any.strings_Count_one { L with } s b w).mono fun e w' ⟨he, hw⟩ => ⟨by rw [he, countB_one], hw⟩) (by decide) (by decide) (by rw [if_pos (by decide)]; omega)
 rw [Nat.add_sub_cancel] at c
 have t3 := L.t3; have t9 := L.t9; have t31 := L.t31
 have a3 := L.a3; have a9 := L.a9; have a31 := L.a31
 have z3 := L.z3; have v3 := L.v3; have z9 := L.z9; have v9 := L.v9; have z31 := L.z31; have v31 := L.v31
 have e221 : ∀ args w, (callFunc (ρ.f 221) args).run P w = .ok (.enter (ρ.f 221) args) w := enters_of L.f221 (by kernel_rfl) rfl
 go_enter L.f146, Body.n146_ntmps ρ
 go_wp2_with (go_at_fn (ρ.f 221); refine c.mono ?_; rintro e w' ⟨rfl, hw⟩; rw [hw])
 go_ret
 exact ⟨rfl, rfl⟩
end
def split1 (s : List UInt8) : List UInt8 → Option (List (List UInt8))
 | [c] => guardO (decide (s.length ≤ 16777216)) (some (Lib.split s [c]))
 | _ => none
def strings_Split (a0 a1 : List UInt8) : Option (List (List UInt8)) := split1 a0 a1
theorem strings_Split_spec {a0 a1 : List UInt8} {y : List (List UInt8)} (h : strings_Split a0 a1 = some y) : Spec gP 34 [.d (.str a0), .d (.str a1)] (.d (.list (List.map eStr y))) := by
 unfold strings_Split split1 at h
 split at h
 · rename_i c
   obtain ⟨hl, h⟩ := guardO_some h
   injection h with h; subst h
   simp only [decide_eq_true_eq] at hl
   refine ⟨by kernel_rfl, fun w F vs hF hg hr => ?_⟩
   obtain ⟨v, u, rfl, r1, r2⟩ := args2 hr
   have hv := inv_str r1; have hu := inv_str r2
   subst hv; subst hu
   have hsz : (⟨a0.toArray⟩ : ByteArray).size = a0.length := by show a0.toArray.size = _; simp
   refine (split_one lays146 (by kernel_rfl) ⟨a0.toArray⟩ c w (by rw [hsz]; omega)).mono ?_
   rintro e w' ⟨rfl, rfl⟩
   have hll := Lib.splitB_all ⟨#[c]⟩ (Nat.le_refl 1) 0 _ (⟨a0.toArray⟩ : ByteArray) rfl
   have hd := Lib.splitB_data ⟨#[c]⟩ 0 (Lib.countB ⟨a0.toArray⟩ ⟨#[c]⟩) (⟨a0.toArray⟩ : ByteArray)
   have hr := rel_strs (F := F) (w := w) (t := 9) _ _ hll (Nat.succ_pos _)
   rw [hd] at hr
   exact ⟨_, rfl, (Kp.refl _).alloc _, hr⟩
 · cases h
end Go.Proofs.YtpdjgamdnjfmkaaGreatDoor
