/-
  Lb, Le in one text.
-/
import Derived.Test.YtipefnighcdgnaaGreatDoorLz
import Derived.Test.YtipefnighcdgnaaGreatDoorGx
import Derived.Test.YtipefnighcdgnaaGreatDoorTy
import Derived.Lib.AppendIntMem
import Derived.Shelf.Strings.SlTrimAscii
import Derived.Test.YtipefnighcdgnaaGreatDoorSzz
namespace Go.Proofs.YtipefnighcdgnaaGreatDoor
open Go.RowKit
set_option linter.unusedVariables false
set_option linter.unusedSimpArgs false
set_option maxRecDepth 100000
theorem kp_grow (w : World) (k : Nat) (os : Array Obj) : Kp w (Go.Sort.grow (w.drewN k) os) := Lib.below_grow _ w (Nat.le_refl _) k os
theorem spec_str {f : FuncId} {args : List V} {y : List UInt8} (he : enterable Tryz.prog f = true) (h : ∀ (w : World) (F : Nat → Nat → Value → Prop) (vs : List Value), GlobOk w F → rels (bareG F) args vs → Calls Tryz.prog f ⟨vs⟩ w fun e w' => e = .returned (.string ⟨y.toArray⟩) ∧ Kp w w') : Spec gP f args (.d (.str y)) :=
 ⟨he, fun w F vs hF hg hr => (h w F vs hg hr).mono (by rintro e w' ⟨rfl, hk⟩; exact ⟨_, rfl, hk, .d (.str _)⟩)⟩
theorem args2 {G : Cx} {x y : V} {vs : List Value} (h : rels G [x, y] vs) : ∃ v u, vs = [v, u] ∧ rel G x v ∧ rel G y u := by
 match vs, h with
 | [v, u], h => exact ⟨v, u, rfl, (rels_cons_inv h).1, (rels_cons_inv (rels_cons_inv h).2).1⟩
 | [], h => have := h.1; simp at this
 | [_], h => have := h.1; simp at this
 | _ :: _ :: _ :: _, h => have := h.1; simp at this
theorem tab_pow {w : World} (h : Tabs w) : Lib.TabIs Tryz.prog w "internal/strconv.uint64pow10" .u64 Lib.pow10Tab := by
 obtain ⟨t, f, q⟩ := h.1 0 _ _ rfl
 have e0 : Tryz.prog.globalNamed "internal/strconv.uint64pow10" = some 0 := by kernel_rfl
 unfold Lib.TabIs World.var?
 rw [e0, Option.bind_some, q]
 exact congrArg some (by kernel_rfl)
def trim1 (s : List UInt8) : List UInt8 → Option (List UInt8)
 | [c] => guardO (decide (c.toNat < 128) && decide (s.length ≤ 9223372036854775807)) (some (Lib.trimRightB s c))
 | _ => none
def strings_TrimRight (a0 a1 : List UInt8) : Option (List UInt8) := trim1 a0 a1
theorem strings_TrimRight_spec {a0 a1 : List UInt8} {y : List UInt8} (h : strings_TrimRight a0 a1 = some y) : Spec gP 87 [.d (.str a0), .d (.str a1)] (.d (.str y)) := by
 unfold strings_TrimRight trim1 at h
 split at h
 · rename_i c
   obtain ⟨hl, h⟩ := guardO_some h
   injection h with h; subst h
   simp only [Bool.and_eq_true, decide_eq_true_eq] at hl
   refine spec_str (by kernel_rfl) fun w F vs hg hr => ?_
   obtain ⟨v, u, rfl, r1, r2⟩ := args2 hr
   have hv := inv_str r1; have hu := inv_str r2
   subst hv; subst hu
   refine (Any.strings_TrimRight_one lays162 ⟨a0.toArray⟩ c hl.1 w hl.2).mono ?_
   rintro e w' ⟨rfl, rfl⟩
   exact ⟨rfl, Kp.refl _⟩
 · cases h
def trimL1 (s : List UInt8) : List UInt8 → Option (List UInt8)
 | [c] => guardO (decide (c.toNat < 128) && decide (s.length ≤ 9223372036854775807)) (some (Lib.trimLeftB s c))
 | _ => none
def strings_TrimLeft (a0 a1 : List UInt8) : Option (List UInt8) := trimL1 a0 a1
theorem strings_TrimLeft_spec {a0 a1 : List UInt8} {y : List UInt8} (h : strings_TrimLeft a0 a1 = some y) : Spec gP 114 [.d (.str a0), .d (.str a1)] (.d (.str y)) := by
 unfold strings_TrimLeft trimL1 at h
 split at h
 · rename_i c
   obtain ⟨hl, h⟩ := guardO_some h
   injection h with h; subst h
   simp only [Bool.and_eq_true, decide_eq_true_eq] at hl
   refine spec_str (by kernel_rfl) fun w F vs hg hr => ?_
   obtain ⟨v, u, rfl, r1, r2⟩ := args2 hr
   have hv := inv_str r1; have hu := inv_str r2
   subst hv; subst hu
   refine (Any.strings_TrimLeft_one lays161 ⟨a0.toArray⟩ c hl.1 w).mono ?_
   rintro e w' ⟨rfl, rfl⟩
   exact ⟨rfl, Kp.refl _⟩
 · cases h
def strconv_FormatUint (a0 a1 : Int) : Option (List UInt8) := guardO (decide (0 ≤ a0 ∧ a0 < 18446744073709551616) && a1 == 10) (some (Lib.decDigits a0.toNat))
theorem zero24 (w : World) (T : TypeId) (nd : Nat) (hs : nd ≤ 24) : Go.Sort.Holds (fun (b : UInt8) => Value.int .u8 (b.toNat : Int)) (w.alloc (.cells Lib.zeros24 T)) w.heap.size 0 (Array.replicate nd (0 : UInt8)) := fun j hj => by
 have hj' : j < nd := by simpa using hj
 refine ⟨?_, World.frozen?_alloc_new _ _ _ _⟩
 rw [World.cell?_alloc_new, Lib.zeros24_at _ (by omega), getElem!_pos _ j hj]
 simp
theorem fmtU_small (u : Nat) (hu : u < 100) (w : World) : Calls Tryz.prog 125 #[.int .u64 u, .int .i64 10] w fun e w' => e = .returned (.string ⟨(Lib.decDigits u).toArray⟩) ∧ Kp w w' := by
 have hcv : (convert 79 3 (.int .u64 (u : Int))).run Tryz.prog w = .ok (.int .i64 (u : Int)) w := by
   simp [convert, run_underlying Tryz.underlying79, run_underlying Tryz.underlying3, Conv.intToInt]
   rw [IntKind.wrap_i64]; omega
 go_enter Tryz.func125, Tryz.ntmps125
 go_wp2_with (go_at_call 161; refine (Any.internal_strconv_small lays283 u hu _).mono ?_; rintro e w' ⟨rfl, rfl⟩)
 go_ret
 exact ⟨rfl, Kp.refl _⟩
theorem fmtU_big (u : Nat) (hu : 100 ≤ u) (hu64 : u < 18446744073709551616) (w : World) (htab : Lib.TabIs Tryz.prog w "internal/strconv.uint64pow10" .u64 Lib.pow10Tab) : Calls Tryz.prog 125 #[.int .u64 u, .int .i64 10] w fun e w' => e = .returned (.string ⟨(Lib.decDigits u).toArray⟩) ∧ Kp w w' := by
 have hu1 : 1 ≤ u := by omega
 have hnd20 : Lib.nDigits u ≤ 20 := by have := Lib.numDigits_eq u hu1 hu64; split at this <;> omega
 have hal : Tryz.prog.arrayLen 148 = 24 := by kernel_rfl
 have hsl : ∀ W, (Instr.sliceAt 148 (.pointer (some ⟨w.heap.size, 0, none⟩)) none (some (.int .i64 (Lib.nDigits u : Int))) none).run Tryz.prog W = .ok (.slice (some ⟨w.heap.size, 0, none⟩) (Lib.nDigits u) 24) W := fun W => by
   rw [run_sliceAt_array_h W 148 ⟨w.heap.size, 0, none⟩ (by simp [Program.arrayLen, Program.elem, Tryz.underlying148]) .i64 (Lib.nDigits u : Int) (by omega) (by rw [hal]; omega)]
   rw [hal, show Tryz.prog.elem 148 = 5 from by kernel_rfl]
   simp [Tryz.sizeOf5, slicedAt, Addr.add_lit]
 have hH0 := zero24 w 148 (Lib.nDigits u) (by omega)
 have hfmt := Any.internal_strconv_formatBase10 lays285 w.heap.size 0 24 u (Array.replicate (Lib.nDigits u) 0) (w.alloc (.cells Lib.zeros24 148)) hH0 (by rw [Array.size_replicate]; exact Lib.lt_pow_nDigits u) hu64 (by rw [Array.size_replicate]; omega)
 rw [Array.size_replicate] at hfmt
 have HH0 := hid hH0
 clear hH0 hal
 go_enter Tryz.func125, Tryz.ntmps125
 go_wp2_with (first
   | (go_at_call 162; refine (Any.internal_strconv_numDigits laysM284 u hu1 hu64 _ (Lib.tabIs_alloc htab _)).mono ?_; rintro e w' ⟨rfl, rfl⟩))
 go_at_call 163
 refine hfmt.mono ?_
 rintro e w' ⟨rfl, k, v', dk, rfl, hF⟩
 have hcv : (convert 115 9 (.slice (some ⟨w.heap.size, 0, none⟩) (Lib.nDigits u) 24)).run Tryz.prog ((Go.Sort.putRow (fun (b : UInt8) => Value.int .u8 (b.toNat : Int)) (w.alloc (.cells Lib.zeros24 148)) w.heap.size 0 dk).drewN k) = .ok (.string ⟨(Lib.decDigits u).toArray⟩) ((Go.Sort.putRow (fun (b : UInt8) => Value.int .u8 (b.toNat : Int)) (w.alloc (.cells Lib.zeros24 148)) w.heap.size 0 dk).drewN k) := by
   have h := run_convert_bytes_back (P := Tryz.prog) ((Go.Sort.putRow (fun (b : UInt8) => Value.int .u8 (b.toNat : Int)) (w.alloc (.cells Lib.zeros24 148)) w.heap.size 0 dk).drewN k) 115 9 5 ⟨w.heap.size, 0, none⟩ 24 (Lib.decDigits u) Tryz.underlying115 Tryz.underlying5 Tryz.underlying9 (fun j hj => by
     rw [Lib.row_is_numeral hF j hj, Lib.add_plain, World.cell?_drewN]
     exact Go.Sort.cell?_putRow (fun (b : UInt8) => Value.int .u8 (b.toNat : Int)) _ w.heap.size 0 _ dk HH0.out (by rw [hF.size, Array.size_replicate]) j (by rw [hF.size]; rw [Lib.decDigits_length] at hj; exact hj))
   rw [Lib.decDigits_length] at h
   exact h
 go_wp2
 go_ret
 refine ⟨rfl, ?_⟩
 rw [Go.Sort.alloc_eq_grow]
 obtain ⟨os', _, e⟩ := Go.Sort.putRow_grow_new (fun (b : UInt8) => Value.int .u8 (b.toNat : Int)) w #[.cells Lib.zeros24 148] w.heap.size 0 dk (Nat.le_refl _)
 rw [e]
 exact kp_grow w k os'
theorem strconv_FormatUint_spec {a0 a1 : Int} {y : List UInt8} (h : strconv_FormatUint a0 a1 = some y) : Spec gP 86 [.d (.int .u64 a0), .d (.int .i64 a1)] (.d (.str y)) := by
 obtain ⟨hl, h⟩ := guardO_some h
 injection h with h; subst h
 simp only [Bool.and_eq_true, beq_iff_eq] at hl
 obtain ⟨hl, rfl⟩ := hl
 have hl := of_decide_eq_true hl
 refine spec_str (by kernel_rfl) fun w F vs hg hr => ?_
 obtain ⟨v, u, rfl, r1, r2⟩ := args2 hr
 have hv := inv_int r1; have hu := inv_int r2
 subst hv; subst hu
 obtain ⟨n, rfl⟩ : ∃ n : Nat, a0 = n := ⟨a0.toNat, by omega⟩
 have key : Calls Tryz.prog 125 #[.int .u64 n, .int .i64 10] w fun e w' => e = .returned (.string ⟨(Lib.decDigits n).toArray⟩) ∧ Kp w w' := by
   by_cases hs : n < 100
   · exact fmtU_small n hs w
   · exact fmtU_big n (by omega) (by omega) w (tab_pow hg.2)
 rw [Int.toNat_natCast]
 go_enter Tryz.func86, Tryz.ntmps86
 go_wp2_with (go_at_call 125; refine key.mono ?_; rintro e w' ⟨rfl, hk⟩)
 go_ret
 exact ⟨rfl, hk⟩
theorem args3 {G : Cx} {x y z : V} {vs : List Value} (h : rels G [x, y, z] vs) : ∃ v u t, vs = [v, u, t] ∧ rel G x v ∧ rel G y u ∧ rel G z t := by
 match vs, h with
 | [v, u, t], h => exact ⟨v, u, t, rfl, (rels_cons_inv h).1, (rels_cons_inv (rels_cons_inv h).2).1, (rels_cons_inv (rels_cons_inv (rels_cons_inv h).2).2).1⟩
 | [], h => have := h.1; simp at this
 | [_], h => have := h.1; simp at this
 | [_, _], h => have := h.1; simp at this
 | _ :: _ :: _ :: _ :: _, h => have := h.1; simp at this
def strings_Trim (a0 a1 : List UInt8) : Option (List UInt8) := guardO (a1.all (fun c => decide (c.toNat < 128)) && (decide (a0.length ≤ 9223372036854775807) && decide (a1.length < 4294967281))) (some (Lib.trimS a0 a1))
theorem zero_set (w : World) : (zeroValue 122).run Tryz.prog w = .ok (.agg (Array.replicate 256 (.bool false))) w := by
 obtain ⟨i, hi, hz⟩ : ∃ i, Tryz.prog.info? 122 = some i ∧ i.zero = some (.agg (Array.replicate 256 (.bool false))) := ⟨_, rfl, by kernel_rfl⟩
 simp [zeroValue, typeInfo, hi, hz, program, Sem.run]
theorem strings_Trim_spec {a0 a1 : List UInt8} {y : List UInt8} (h : strings_Trim a0 a1 = some y) : Spec gP 150 [.d (.str a0), .d (.str a1)] (.d (.str y)) := by
 obtain ⟨hl, h⟩ := guardO_some h
 injection h with h; subst h
 simp only [Bool.and_eq_true, decide_eq_true_eq, List.all_eq_true] at hl
 refine spec_str (by kernel_rfl) fun w F vs hg hr => ?_
 obtain ⟨v, u, rfl, r1, r2⟩ := args2 hr
 have hv := inv_str r1; have hu := inv_str r2
 subst hv; subst hu
 exact Any.strings_Trim_ascii lays160 zero_set (by kernel_rfl) ⟨a0.toArray⟩ ⟨a1.toArray⟩ w hl.2.1 hl.2.2 (fun j b hb => hl.1 b (List.mem_of_getElem? hb))
def stringslite_IndexByte (a0 : List UInt8) (a1 : Int) : Option Int := some (Lib.indexByte a0 a1.toNat.toUInt8)
theorem stringslite_IndexByte_spec {a0 : List UInt8} {a1 y : Int} (h : stringslite_IndexByte a0 a1 = some y) : Spec gP 196 [.d (.str a0), .d (.int .u8 a1)] (.d (.int .i64 y)) := by
 injection h with h; subst h
 refine ⟨by kernel_rfl, fun w F vs hF hg hr => ?_⟩
 obtain ⟨v, u, rfl, r1, r2⟩ := args2 hr
 have hv := inv_str r1; have hu := inv_int r2
 subst hv; subst hu
 refine (Any.stringslite_IndexByte lays217 ⟨a0.toArray⟩ a1 w).mono ?_
 rintro e w' ⟨rfl, rfl⟩
 exact ⟨_, rfl, Kp.refl _, .d (.int _ _)⟩
end Go.Proofs.YtipefnighcdgnaaGreatDoor
namespace Go.Proofs.YtipefnighcdgnaaGreatDoor
open Go.RowKit
set_option linter.unusedVariables false
set_option linter.unusedSimpArgs false
set_option maxRecDepth 100000
theorem err_at {w : World} (h : Tabs w) {b : Nat} (hb : errT b = true) : ∃ ev, w.cell? ⟨b, 0, none⟩ = some ev ∧ (ev = .nilIface ∨ ∃ te pe, ev = .iface te pe) := h.2 b hb
def strconv_ParseIntE (a0 : List UInt8) (a1 a2 : Int) : Option (Int × Bool) := guardO (a1 == 10 && (a2 == 64 && decide (a0.length ≤ 281474976710656))) (match Lib.parseIntB 64 a0 with | .ok v => some (v, true) | .range => some (Lib.intSat 64 a0, false) | _ => some (0, false))
theorem strconv_ParseIntE_spec {a0 : List UInt8} {a1 a2 : Int} {y : Int × Bool} (h : strconv_ParseIntE a0 a1 a2 = some y) : SpecE gP 88 [.d (.str a0), .d (.int .i64 a1), .d (.int .i64 a2)] (fun te pe => .tuple [.d (.int .i64 y.1), .d (.other (ifE y.2 te pe))]) := by
 obtain ⟨hl, h2⟩ := guardO_some h
 clear h
 simp only [Bool.and_eq_true, beq_iff_eq, decide_eq_true_eq] at hl
 obtain ⟨rfl, rfl, hl⟩ := hl
 refine ⟨by kernel_rfl, fun w F vs hF hg hr => ?_⟩
 obtain ⟨x, u, t, rfl, r1, r2, r3⟩ := args3 hr
 have hv := inv_str r1; have hu := inv_int r2; have ht := inv_int r3
 subst hv; subst hu; subst ht
 have fin : ∀ (n : Int) (v : Value) (hv : v.oneCell' = true) (w' : World), rel (bareG fun b o u => F b o u ∨ fresh w w' b o u) (.tuple [.d (.int .i64 n), .d (.other v)]) (.tuple #[.int .i64 n, v]) := by
   intro n v hv w'
   have hx := rels_cons (G := bareG fun b o u => F b o u ∨ fresh w w' b o u) (x := .d (.int .i64 n)) (.d (.int _ _)) (rels_cons (x := .d (.other v)) (.d (.other _ hv)) (rels_nil _))
   exact .tuple _ _ hx.1 hx.2
 split at h2
 · rename_i v hp
   injection h2 with h2; subst h2
   refine (Any.strconv_ParseInt_10_at64_ok laysC174 ⟨a0.toArray⟩ (Nat.le_trans hl (by decide)) v hp w).mono ?_
   rintro e w' ⟨rfl, hw⟩
   have hk : Kp w w' := by
     rcases hw with rfl | ⟨t, rfl⟩
     · exact Kp.refl _
     · exact Lib.bytesWorld_below _ _ _
   exact ⟨0, .nilIface, _, rfl, hk, fin v .nilIface rfl w'⟩
 · rename_i hp
   injection h2 with h2; subst h2
   obtain ⟨ev, e1, e2⟩ := err_at hg.2 (b := 2) rfl
   refine (Any.strconv_ParseInt_10_at64_range laysC174 ⟨a0.toArray⟩ hl hp ev w e1 e2).mono ?_
   rintro e w' ⟨N, rfl, _, _, hk⟩
   exact ⟨_, _, _, rfl, hk, fin _ (.iface _ (.pointer (some ⟨N, 0, none⟩))) rfl w'⟩
 · rename_i hp1 hp2
   injection h2 with h2; subst h2
   obtain ⟨ev, e1, e2⟩ := err_at hg.2 (b := 1) rfl
   refine (Any.strconv_ParseInt_10_at64_syntax laysC174 ⟨a0.toArray⟩ hl (by
     show Lib.parseIntB 64 a0 = _
     cases hq : Lib.parseIntB 64 a0 with
     | ok v => exact absurd hq (hp1 v)
     | range => exact absurd hq hp2
     | _ => rfl) ev w e1 e2).mono ?_
   rintro e w' ⟨N, rfl, _, _, hk⟩
   exact ⟨_, _, _, rfl, hk, fin _ (.iface _ (.pointer (some ⟨N, 0, none⟩))) rfl w'⟩
end Go.Proofs.YtipefnighcdgnaaGreatDoor
