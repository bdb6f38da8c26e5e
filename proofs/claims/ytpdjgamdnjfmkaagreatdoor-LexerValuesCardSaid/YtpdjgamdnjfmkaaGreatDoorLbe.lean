/-
  Lb, Ls, Le in one text.
-/
import Derived.Test.YtpdjgamdnjfmkaaGreatDoorLz
import Derived.Test.YtpdjgamdnjfmkaaGreatDoorGx
import Derived.Test.YtpdjgamdnjfmkaaGreatDoorTy
import Derived.Lib.AppendIntMem
import Derived.Shelf.Strings.SlTrimAscii
import Derived.Shelf.Small.Strs
import Derived.Shelf.Strings.Search3
import Derived.Shelf.Strings.SplitCore
import Derived.Shelf.Strings.Count
import Derived.Lib.SplitLaws
import Derived.Lib.IndexBytes
import Derived.Test.YtpdjgamdnjfmkaaGreatDoorSzz
namespace Go.Proofs.YtpdjgamdnjfmkaaGreatDoor
open Go.RowKit
set_option linter.unusedVariables false
set_option linter.unusedSimpArgs false
set_option maxRecDepth 100000
theorem spec_str {f : FuncId} {args : List V} {y : List UInt8} (he : enterable Tryz.prog f = true) (h : ∀ (w : World) (F : Nat → Nat → Value → Prop) (vs : List Value), GlobOk w F → rels (bareG F) args vs → Calls Tryz.prog f ⟨vs⟩ w fun e w' => e = .returned (.string ⟨y.toArray⟩) ∧ Kp w w') : Spec gP f args (.d (.str y)) :=
 ⟨he, fun w F vs hF hg hr => (h w F vs hg hr).mono (by rintro e w' ⟨rfl, hk⟩; exact ⟨_, rfl, hk, .d (.str _)⟩)⟩
theorem args2 {G : Cx} {x y : V} {vs : List Value} (h : rels G [x, y] vs) : ∃ v u, vs = [v, u] ∧ rel G x v ∧ rel G y u := by
 match vs, h with
 | [v, u], h => exact ⟨v, u, rfl, (rels_cons_inv h).1, (rels_cons_inv (rels_cons_inv h).2).1⟩
 | [], h => have := h.1; simp at this
 | [_], h => have := h.1; simp at this
 | _ :: _ :: _ :: _, h => have := h.1; simp at this
def trimL1 (s : List UInt8) : List UInt8 → Option (List UInt8)
 | [c] => guardO (decide (c.toNat < 128) && decide (s.length ≤ 9223372036854775807)) (some (Lib.trimLeftB s c))
 | _ => none
def strings_TrimLeft (a0 a1 : List UInt8) : Option (List UInt8) := trimL1 a0 a1
theorem strings_TrimLeft_spec {a0 a1 : List UInt8} {y : List UInt8} (h : strings_TrimLeft a0 a1 = some y) : Spec gP 78 [.d (.str a0), .d (.str a1)] (.d (.str y)) := by
 unfold strings_TrimLeft trimL1 at h
 split at h
 · rename_i c
   obtain ⟨hl, h⟩ := guardO_some h
   injection h with h; subst h
   simp only [Bool.and_eq_true, decide_eq_true_eq] at hl
   refine spec_str (by kernel_rfl) fun w F vs hg hr => ?_
   obtain ⟨v, u, rfl, r1, r2⟩ := args2 hr
   have hv := inv_str r1; have hu := inv_str r2
   subst hv; subst hu
   refine (Any.strings_TrimLeft_one lays161 ⟨a0.toArray⟩ c hl.1 w).mono ?_
   rintro e w' ⟨rfl, rfl⟩
   exact ⟨rfl, Kp.refl _⟩
 · cases h
theorem args3 {G : Cx} {x y z : V} {vs : List Value} (h : rels G [x, y, z] vs) : ∃ v u t, vs = [v, u, t] ∧ rel G x v ∧ rel G y u ∧ rel G z t := by
 match vs, h with
 | [v, u, t], h => exact ⟨v, u, t, rfl, (rels_cons_inv h).1, (rels_cons_inv (rels_cons_inv h).2).1, (rels_cons_inv (rels_cons_inv (rels_cons_inv h).2).2).1⟩
 | [], h => have := h.1; simp at this
 | [_], h => have := h.1; simp at this
 | [_, _], h => have := h.1; simp at this
 | _ :: _ :: _ :: _ :: _, h => have := h.1; simp at this
def strings_Trim (a0 a1 : List UInt8) : Option (List UInt8) := guardO (a1.all (fun c => decide (c.toNat < 128)) && (decide (a0.length ≤ 9223372036854775807) && decide (a1.length < 4294967281))) (some (Lib.trimS a0 a1))
theorem zero_set (w : World) : (zeroValue 135).run Tryz.prog w = .ok (.agg (Array.replicate 256 (.bool false))) w := by
 obtain ⟨i, hi, hz⟩ : ∃ i, Tryz.prog.info? 135 = some i ∧ i.zero = some (.agg (Array.replicate 256 (.bool false))) := ⟨_, rfl, by kernel_rfl⟩
 simp [zeroValue, typeInfo, hi, hz, program, Sem.run]
theorem strings_Trim_spec {a0 a1 : List UInt8} {y : List UInt8} (h : strings_Trim a0 a1 = some y) : Spec gP 107 [.d (.str a0), .d (.str a1)] (.d (.str y)) := by
 obtain ⟨hl, h⟩ := guardO_some h
 injection h with h; subst h
 simp only [Bool.and_eq_true, decide_eq_true_eq, List.all_eq_true] at hl
 refine spec_str (by kernel_rfl) fun w F vs hg hr => ?_
 obtain ⟨v, u, rfl, r1, r2⟩ := args2 hr
 have hv := inv_str r1; have hu := inv_str r2
 subst hv; subst hu
 exact Any.strings_Trim_ascii lays160 zero_set (by kernel_rfl) ⟨a0.toArray⟩ ⟨a1.toArray⟩ w hl.2.1 hl.2.2 (fun j b hb => hl.1 b (List.mem_of_getElem? hb))
def stringslite_IndexByte (a0 : List UInt8) (a1 : Int) : Option Int := some (Lib.indexByte a0 a1.toNat.toUInt8)
theorem stringslite_IndexByte_spec {a0 : List UInt8} {a1 y : Int} (h : stringslite_IndexByte a0 a1 = some y) : Spec gP 52 [.d (.str a0), .d (.int .u8 a1)] (.d (.int .i64 y)) := by
 injection h with h; subst h
 refine ⟨by kernel_rfl, fun w F vs hF hg hr => ?_⟩
 obtain ⟨v, u, rfl, r1, r2⟩ := args2 hr
 have hv := inv_str r1; have hu := inv_int r2
 subst hv; subst hu
 refine (Any.stringslite_IndexByte lays217 ⟨a0.toArray⟩ a1 w).mono ?_
 rintro e w' ⟨rfl, rfl⟩
 exact ⟨_, rfl, Kp.refl _, .d (.int _ _)⟩
end Go.Proofs.YtpdjgamdnjfmkaaGreatDoor
namespace Go.Proofs.YtpdjgamdnjfmkaaGreatDoor
open Go.RowKit
set_option linter.unusedVariables false
set_option linter.unusedSimpArgs false
def has1 (s : List UInt8) : List UInt8 → Option Bool
 | [c] => some (decide (0 ≤ Lib.indexByte s c))
 | _ => none
def strings_Contains (a0 a1 : List UInt8) : Option Bool := has1 a0 a1
theorem strings_Contains_spec {a0 a1 : List UInt8} {y : Bool} (h : strings_Contains a0 a1 = some y) : Spec gP 35 [.d (.str a0), .d (.str a1)] (.d (.bool y)) := by
 unfold strings_Contains has1 at h
 split at h
 · rename_i c
   injection h with h; subst h
   refine ⟨by kernel_rfl, fun w F vs hF hg hr => ?_⟩
   obtain ⟨v, u, rfl, r1, r2⟩ := args2 hr
   have hv := inv_str r1; have hu := inv_str r2
   subst hv; subst hu
   refine (Any.strings_Contains_one lays144 ⟨a0.toArray⟩ c w).mono ?_
   rintro e w' ⟨rfl, rfl⟩
   exact ⟨_, rfl, Kp.refl _, .d (.bool _)⟩
 · cases h
section
open Go.Shelf Go.Lib
variable {P : Program} {ρ : Ren}
end
end Go.Proofs.YtpdjgamdnjfmkaaGreatDoor
namespace Go.Proofs.YtpdjgamdnjfmkaaGreatDoor
open Go.RowKit
set_option linter.unusedVariables false
set_option linter.unusedSimpArgs false
set_option maxRecDepth 100000
theorem err_at {w : World} (h : Tabs w) {b : Nat} (hb : errT b = true) : ∃ ev, w.cell? ⟨b, 0, none⟩ = some ev ∧ (ev = .nilIface ∨ ∃ te pe, ev = .iface te pe) := h.2 b hb
def strconv_ParseIntE (a0 : List UInt8) (a1 a2 : Int) : Option (Int × Bool) := guardO (a1 == 10 && (a2 == 64 && decide (a0.length ≤ 281474976710656))) (match Lib.parseIntB 64 a0 with | .ok v => some (v, true) | .range => some (Lib.intSat 64 a0, false) | _ => some (0, false))
theorem strconv_ParseIntE_spec {a0 : List UInt8} {a1 a2 : Int} {y : Int × Bool} (h : strconv_ParseIntE a0 a1 a2 = some y) : SpecE gP 36 [.d (.str a0), .d (.int .i64 a1), .d (.int .i64 a2)] (fun te pe => .tuple [.d (.int .i64 y.1), .d (.other (ifE y.2 te pe))]) := by
 obtain ⟨hl, h2⟩ := guardO_some h
 clear h
 simp only [Bool.and_eq_true, beq_iff_eq, decide_eq_true_eq] at hl
 obtain ⟨rfl, rfl, hl⟩ := hl
 refine ⟨by kernel_rfl, fun w F vs hF hg hr => ?_⟩
 obtain ⟨x, u, t, rfl, r1, r2, r3⟩ := args3 hr
 have hv := inv_str r1; have hu := inv_int r2; have ht := inv_int r3
 subst hv; subst hu; subst ht
 have fin : ∀ (n : Int) (v : Value) (hv : v.oneCell' = true) (w' : World), rel (bareG fun b o u => F b o u ∨ fresh w w' b o u) (.tuple [.d (.int .i64 n), .d (.other v)]) (.tuple #[.int .i64 n, v]) := by
   intro n v hv w'
   have hx := rels_cons (G := bareG fun b o u => F b o u ∨ fresh w w' b o u) (x := .d (.int .i64 n)) (.d (.int _ _)) (rels_cons (x := .d (.other v)) (.d (.other _ hv)) (rels_nil _))
   exact .tuple _ _ hx.1 hx.2
 split at h2
 · rename_i v hp
   injection h2 with h2; subst h2
   refine (Any.strconv_ParseInt_10_at64_ok laysC174 ⟨a0.toArray⟩ (Nat.le_trans hl (by decide)) v hp w).mono ?_
   rintro e w' ⟨rfl, hw⟩
   have hk : Kp w w' := by
     rcases hw with rfl | ⟨t, rfl⟩
     · exact Kp.refl _
     · exact Lib.bytesWorld_below _ _ _
   exact ⟨0, .nilIface, _, rfl, hk, fin v .nilIface rfl w'⟩
 · rename_i hp
   injection h2 with h2; subst h2
   obtain ⟨ev, e1, e2⟩ := err_at hg.2 (b := 2) rfl
   refine (Any.strconv_ParseInt_10_at64_range laysC174 ⟨a0.toArray⟩ hl hp ev w e1 e2).mono ?_
   rintro e w' ⟨N, rfl, _, _, hk⟩
   exact ⟨_, _, _, rfl, hk, fin _ (.iface _ (.pointer (some ⟨N, 0, none⟩))) rfl w'⟩
 · rename_i hp1 hp2
   injection h2 with h2; subst h2
   obtain ⟨ev, e1, e2⟩ := err_at hg.2 (b := 1) rfl
   refine (Any.strconv_ParseInt_10_at64_syntax laysC174 ⟨a0.toArray⟩ hl (by
     show Lib.parseIntB 64 a0 = _
     cases hq : Lib.parseIntB 64 a0 with
     | ok v => exact absurd hq (hp1 v)
     | range => exact absurd hq hp2
     | _ => rfl) ev w e1 e2).mono ?_
   rintro e w' ⟨N, rfl, _, _, hk⟩
   exact ⟨_, _, _, rfl, hk, fin _ (.iface _ (.pointer (some ⟨N, 0, none⟩))) rfl w'⟩
end Go.Proofs.YtpdjgamdnjfmkaaGreatDoor
