import Derived.Test.YtpdjgamdnjfmkaaDoorLz
import Derived.Test.YtpdjgamdnjfmkaaDoorGx
import Derived.Test.YtpdjgamdnjfmkaaDoorTy
import Derived.Lib.AppendIntMem
import Derived.Shelf.Strings.SlTrimAscii
namespace Go.Proofs.YtpdjgamdnjfmkaaDoor
open Go.RowKit
set_option linter.unusedVariables false
set_option linter.unusedSimpArgs false
set_option maxRecDepth 100000
theorem spec_str {f : FuncId} {args : List V} {y : List UInt8} (he : enterable Tryd.prog f = true) (h : ∀ (w : World) (F : Nat → Nat → Value → Prop) (vs : List Value), GlobOk w F → rels (bareG F) args vs → Calls Tryd.prog f ⟨vs⟩ w fun e w' => e = .returned (.string ⟨y.toArray⟩) ∧ Kp w w') : Spec gP f args (.d (.str y)) :=
 ⟨he, fun w F vs hF hg hr => (h w F vs hg hr).mono (by rintro e w' ⟨rfl, hk⟩; exact ⟨_, rfl, hk, .d (.str _)⟩)⟩
theorem args2 {G : Cx} {x y : V} {vs : List Value} (h : rels G [x, y] vs) : ∃ v u, vs = [v, u] ∧ rel G x v ∧ rel G y u := by
 match vs, h with
 | [v, u], h => exact ⟨v, u, rfl, (rels_cons_inv h).1, (rels_cons_inv (rels_cons_inv h).2).1⟩
 | [], h => have := h.1; simp at this
 | [_], h => have := h.1; simp at this
 | _ :: _ :: _ :: _, h => have := h.1; simp at this
def trimL1 (s : List UInt8) : List UInt8 → Option (List UInt8)
 | [c] => guardO (decide (c.toNat < 128) && decide (s.length ≤ 9223372036854775807)) (some (Lib.trimLeftB s c))
 | _ => none
def strings_TrimLeft (a0 a1 : List UInt8) : Option (List UInt8) := trimL1 a0 a1
theorem strings_TrimLeft_spec {a0 a1 : List UInt8} {y : List UInt8} (h : strings_TrimLeft a0 a1 = some y) : Spec gP 52 [.d (.str a0), .d (.str a1)] (.d (.str y)) := by
 unfold strings_TrimLeft trimL1 at h
 split at h
 · rename_i c
   obtain ⟨hl, h⟩ := guardO_some h
   injection h with h; subst h
   simp only [Bool.and_eq_true, decide_eq_true_eq] at hl
   refine spec_str (by kernel_rfl) fun w F vs hg hr => ?_
   obtain ⟨v, u, rfl, r1, r2⟩ := args2 hr
   have hv := inv_str r1; have hu := inv_str r2
   subst hv; subst hu
   refine (Any.strings_TrimLeft_one lays161 ⟨a0.toArray⟩ c hl.1 w).mono ?_
   rintro e w' ⟨rfl, rfl⟩
   exact ⟨rfl, Kp.refl _⟩
 · cases h
def strings_Trim (a0 a1 : List UInt8) : Option (List UInt8) := guardO (a1.all (fun c => decide (c.toNat < 128)) && (decide (a0.length ≤ 9223372036854775807) && decide (a1.length < 4294967281))) (some (Lib.trimS a0 a1))
theorem zero_set (w : World) : (zeroValue 96).run Tryd.prog w = .ok (.agg (Array.replicate 256 (.bool false))) w := by
 obtain ⟨i, hi, hz⟩ : ∃ i, Tryd.prog.info? 96 = some i ∧ i.zero = some (.agg (Array.replicate 256 (.bool false))) := ⟨_, rfl, by kernel_rfl⟩
 simp [zeroValue, typeInfo, hi, hz, program, Sem.run]
theorem strings_Trim_spec {a0 a1 : List UInt8} {y : List UInt8} (h : strings_Trim a0 a1 = some y) : Spec gP 67 [.d (.str a0), .d (.str a1)] (.d (.str y)) := by
 obtain ⟨hl, h⟩ := guardO_some h
 injection h with h; subst h
 simp only [Bool.and_eq_true, decide_eq_true_eq, List.all_eq_true] at hl
 refine spec_str (by kernel_rfl) fun w F vs hg hr => ?_
 obtain ⟨v, u, rfl, r1, r2⟩ := args2 hr
 have hv := inv_str r1; have hu := inv_str r2
 subst hv; subst hu
 exact Any.strings_Trim_ascii lays160 zero_set (by kernel_rfl) ⟨a0.toArray⟩ ⟨a1.toArray⟩ w hl.2.1 hl.2.2 (fun j b hb => hl.1 b (List.mem_of_getElem? hb))
def stringslite_IndexByte (a0 : List UInt8) (a1 : Int) : Option Int := some (Lib.indexByte a0 a1.toNat.toUInt8)
theorem stringslite_IndexByte_spec {a0 : List UInt8} {a1 y : Int} (h : stringslite_IndexByte a0 a1 = some y) : Spec gP 39 [.d (.str a0), .d (.int .u8 a1)] (.d (.int .i64 y)) := by
 injection h with h; subst h
 refine ⟨by kernel_rfl, fun w F vs hF hg hr => ?_⟩
 obtain ⟨v, u, rfl, r1, r2⟩ := args2 hr
 have hv := inv_str r1; have hu := inv_int r2
 subst hv; subst hu
 refine (Any.stringslite_IndexByte lays217 ⟨a0.toArray⟩ a1 w).mono ?_
 rintro e w' ⟨rfl, rfl⟩
 exact ⟨_, rfl, Kp.refl _, .d (.int _ _)⟩
end Go.Proofs.YtpdjgamdnjfmkaaDoor
