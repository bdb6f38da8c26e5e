/-
  Lb, Ls, Le in one text.
-/
import Derived.Test.YthljcnchaopncaaGreatDoorLz
import Derived.Test.YthljcnchaopncaaGreatDoorGx
import Derived.Test.YthljcnchaopncaaGreatDoorTy
import Derived.Lib.AppendIntMem
import Derived.Shelf.Strings.SlTrimAscii
import Derived.Shelf.Strings.OnBuilder
import Derived.Shelf.Small.Strs
import Derived.Shelf.Strings.Search3
import Derived.Shelf.Strings.SplitCore
import Derived.Shelf.Strings.Count
import Derived.Lib.SplitLaws
import Derived.Lib.IndexBytes
import Derived.Test.YthljcnchaopncaaGreatDoorSzz
namespace Go.Proofs.YthljcnchaopncaaGreatDoor
open Go.RowKit
set_option linter.unusedVariables false
set_option linter.unusedSimpArgs false
set_option maxRecDepth 100000
theorem kp_grow (w : World) (k : Nat) (os : Array Obj) : Kp w (Go.Sort.grow (w.drewN k) os) := Lib.below_grow _ w (Nat.le_refl _) k os
theorem spec_str {f : FuncId} {args : List V} {y : List UInt8} (he : enterable Tryz.prog f = true) (h : ∀ (w : World) (F : Nat → Nat → Value → Prop) (vs : List Value),GlobOk w F → rels (bareG F) args vs → Calls Tryz.prog f ⟨vs⟩ w fun e w'=>e = .returned (.string ⟨y.toArray⟩) ∧ Kp w w') : Spec gP f args (.d (.str y)) :=
 ⟨he,fun w F vs hF hg hr=>(h w F vs hg hr).mono (by rintro e w' ⟨rfl,hk⟩; exact ⟨_,rfl,hk,.d (.str _)⟩)⟩
theorem args1 {G : Cx} {x : V} {vs : List Value} (h : rels G [x] vs) : ∃ v,vs = [v] ∧ rel G x v := by
 match vs,h with
 | [v],h=>exact ⟨v,rfl,(rels_cons_inv h).1⟩
 | [],h=>have := h.1; simp at this
 | _ :: _ :: _,h=>have := h.1; simp at this
theorem args2 {G : Cx} {x y : V} {vs : List Value} (h : rels G [x,y] vs) : ∃ v u,vs = [v,u] ∧ rel G x v ∧ rel G y u := by
 match vs,h with
 | [v,u],h=>exact ⟨v,u,rfl,(rels_cons_inv h).1,(rels_cons_inv (rels_cons_inv h).2).1⟩
 | [],h=>have := h.1; simp at this
 | [_],h=>have := h.1; simp at this
 | _ :: _ :: _ :: _,h=>have := h.1; simp at this
def inI64 (n : Int) : Bool := decide (-9223372036854775808 ≤ n ∧ n ≤ 9223372036854775807)
theorem tab_pow {w : World} (h : Tabs w) : Lib.TabIs Tryz.prog w "internal/strconv.uint64pow10" .u64 Lib.pow10Tab := by
 obtain ⟨t,f,q⟩ := h.1 6 _ _ rfl
 have e0 : Tryz.prog.globalNamed "internal/strconv.uint64pow10" = some 6 := by kernel_rfl
 unfold Lib.TabIs World.var?
 rw [e0,Option.bind_some,q]
 exact congrArg some (by kernel_rfl)
def strconv_Itoa (a0 : Int) : Option (List UInt8) := guardO (inI64 a0) (some (Lib.itoa a0))
theorem strconv_Itoa_spec {a0 : Int} {y : List UInt8} (h : strconv_Itoa a0 = some y) : Spec gP 56 [.d (.int .i64 a0)] (.d (.str y)) := by
 obtain ⟨hl,h⟩ := guardO_some h
 injection h with h; subst h
 have hl := of_decide_eq_true hl
 refine spec_str (by kernel_rfl) fun w F vs hg hr=>?_
 obtain ⟨v,rfl,r⟩ := args1 hr
 have hv := inv_int r
 subst hv
 refine (Any.strconv_Itoa laysM171 a0 hl.1 hl.2 w (tab_pow hg.2)).mono ?_
 rintro e w' ⟨rfl,k,os,rfl⟩
 exact ⟨rfl,kp_grow w k os⟩
def trim1 (s : List UInt8) : List UInt8 → Option (List UInt8)
 | [c]=>guardO (decide (c.toNat < 128) && decide (s.length ≤ 9223372036854775807)) (some (Lib.trimRightB s c))
 | _=>none
def strings_TrimRight (a0 a1 : List UInt8) : Option (List UInt8) := trim1 a0 a1
theorem strings_TrimRight_spec {a0 a1 : List UInt8} {y : List UInt8} (h : strings_TrimRight a0 a1 = some y) : Spec gP 82 [.d (.str a0),.d (.str a1)] (.d (.str y)) := by
 unfold strings_TrimRight trim1 at h
 split at h
 · rename_i c
   obtain ⟨hl,h⟩ := guardO_some h
   injection h with h; subst h
   simp only [Bool.and_eq_true,decide_eq_true_eq] at hl
   refine spec_str (by kernel_rfl) fun w F vs hg hr=>?_
   obtain ⟨v,u,rfl,r1,r2⟩ := args2 hr
   have hv := inv_str r1; have hu := inv_str r2
   subst hv; subst hu
   refine (Any.strings_TrimRight_one lays162 ⟨a0.toArray⟩ c hl.1 w hl.2).mono ?_
   rintro e w' ⟨rfl,rfl⟩
   exact ⟨rfl,Kp.refl _⟩
 · cases h
def trimL1 (s : List UInt8) : List UInt8 → Option (List UInt8)
 | [c]=>guardO (decide (c.toNat < 128) && decide (s.length ≤ 9223372036854775807)) (some (Lib.trimLeftB s c))
 | _=>none
def strings_TrimLeft (a0 a1 : List UInt8) : Option (List UInt8) := trimL1 a0 a1
theorem strings_TrimLeft_spec {a0 a1 : List UInt8} {y : List UInt8} (h : strings_TrimLeft a0 a1 = some y) : Spec gP 98 [.d (.str a0),.d (.str a1)] (.d (.str y)) := by
 unfold strings_TrimLeft trimL1 at h
 split at h
 · rename_i c
   obtain ⟨hl,h⟩ := guardO_some h
   injection h with h; subst h
   simp only [Bool.and_eq_true,decide_eq_true_eq] at hl
   refine spec_str (by kernel_rfl) fun w F vs hg hr=>?_
   obtain ⟨v,u,rfl,r1,r2⟩ := args2 hr
   have hv := inv_str r1; have hu := inv_str r2
   subst hv; subst hu
   refine (Any.strings_TrimLeft_one lays161 ⟨a0.toArray⟩ c hl.1 w).mono ?_
   rintro e w' ⟨rfl,rfl⟩
   exact ⟨rfl,Kp.refl _⟩
 · cases h
def strconv_FormatUint (a0 a1 : Int) : Option (List UInt8) := guardO (decide (0 ≤ a0 ∧ a0 < 18446744073709551616) && a1 == 10) (some (Lib.decDigits a0.toNat))
theorem zero24 (w : World) (T : TypeId) (nd : Nat) (hs : nd ≤ 24) : Go.Sort.Holds (fun (b : UInt8)=>Value.int .u8 (b.toNat : Int)) (w.alloc (.cells Lib.zeros24 T)) w.heap.size 0 (Array.replicate nd (0 : UInt8)) := fun j hj=>by
 have hj' : j < nd := by simpa using hj
 refine ⟨?_,World.frozen?_alloc_new _ _ _ _⟩
 rw [World.cell?_alloc_new,Lib.zeros24_at _ (by omega),getElem!_pos _ j hj]
 simp
theorem fmtU_small (u : Nat) (hu : u < 100) (w : World) : Calls Tryz.prog 111 #[.int .u64 u,.int .i64 10] w fun e w'=>e = .returned (.string ⟨(Lib.decDigits u).toArray⟩) ∧ Kp w w' := by
 have hcv : (convert 104 3 (.int .u64 (u : Int))).run Tryz.prog w = .ok (.int .i64 (u : Int)) w := by
   simp [convert,run_underlying Tryz.underlying104,run_underlying Tryz.underlying3,Conv.intToInt]
   rw [IntKind.wrap_i64]; omega
 go_enter Tryz.func111,Tryz.ntmps111
 go_wp2_with (go_at_call 144; refine (Any.internal_strconv_small lays283 u hu _).mono ?_; rintro e w' ⟨rfl,rfl⟩)
 go_ret
 exact ⟨rfl,Kp.refl _⟩
theorem fmtU_big (u : Nat) (hu : 100 ≤ u) (hu64 : u < 18446744073709551616) (w : World) (htab : Lib.TabIs Tryz.prog w "internal/strconv.uint64pow10" .u64 Lib.pow10Tab) : Calls Tryz.prog 111 #[.int .u64 u, .int .i64 10] w fun e w' => e = .returned (.string ⟨(Lib.decDigits u).toArray⟩) ∧ Kp w w' := by
 have hu1 : 1 ≤ u := by omega
 have hnd20 : Lib.nDigits u ≤ 20 := by have := Lib.numDigits_eq u hu1 hu64; split at this <;> omega
 have hal : Tryz.prog.arrayLen 168 = 24 := by kernel_rfl
 have hsl : ∀ W,(Instr.sliceAt 168 (.pointer (some ⟨w.heap.size,0,none⟩)) none (some (.int .i64 (Lib.nDigits u : Int))) none).run Tryz.prog W = .ok (.slice (some ⟨w.heap.size,0,none⟩) (Lib.nDigits u) 24) W := fun W=>by
   rw [run_sliceAt_array_h W 168 ⟨w.heap.size,0,none⟩ (by simp [Program.arrayLen,Program.elem,Tryz.underlying168]) .i64 (Lib.nDigits u : Int) (by omega) (by rw [hal]; omega)]
   rw [hal,show Tryz.prog.elem 168 = 5 from by kernel_rfl]
   simp [Tryz.sizeOf5,slicedAt,Addr.add_lit]
 have hH0 := zero24 w 168 (Lib.nDigits u) (by omega)
 have hfmt := Any.internal_strconv_formatBase10 lays285 w.heap.size 0 24 u (Array.replicate (Lib.nDigits u) 0) (w.alloc (.cells Lib.zeros24 168)) hH0 (by rw [Array.size_replicate]; exact Lib.lt_pow_nDigits u) hu64 (by rw [Array.size_replicate]; omega)
 rw [Array.size_replicate] at hfmt
 have HH0 := hid hH0
 clear hH0 hal
 go_enter Tryz.func111,Tryz.ntmps111
 go_wp2_with (first
   | (go_at_call 145; refine (Any.internal_strconv_numDigits laysM284 u hu1 hu64 _ (Lib.tabIs_alloc htab _)).mono ?_; rintro e w' ⟨rfl,rfl⟩))
 go_at_call 146
 refine hfmt.mono ?_
 rintro e w' ⟨rfl,k,v',dk,rfl,hF⟩
 have hcv : (convert 55 9 (.slice (some ⟨w.heap.size,0,none⟩) (Lib.nDigits u) 24)).run Tryz.prog ((Go.Sort.putRow (fun (b : UInt8)=>Value.int .u8 (b.toNat : Int)) (w.alloc (.cells Lib.zeros24 168)) w.heap.size 0 dk).drewN k) = .ok (.string ⟨(Lib.decDigits u).toArray⟩) ((Go.Sort.putRow (fun (b : UInt8)=>Value.int .u8 (b.toNat : Int)) (w.alloc (.cells Lib.zeros24 168)) w.heap.size 0 dk).drewN k) := by
   have h := run_convert_bytes_back (P := Tryz.prog) ((Go.Sort.putRow (fun (b : UInt8)=>Value.int .u8 (b.toNat : Int)) (w.alloc (.cells Lib.zeros24 168)) w.heap.size 0 dk).drewN k) 55 9 5 ⟨w.heap.size,0,none⟩ 24 (Lib.decDigits u) Tryz.underlying55 Tryz.underlying5 Tryz.underlying9 (fun j hj=>by
     rw [Lib.row_is_numeral hF j hj,Lib.add_plain,World.cell?_drewN]
     exact Go.Sort.cell?_putRow (fun (b : UInt8)=>Value.int .u8 (b.toNat : Int)) _ w.heap.size 0 _ dk HH0.out (by rw [hF.size,Array.size_replicate]) j (by rw [hF.size]; rw [Lib.decDigits_length] at hj; exact hj))
   rw [Lib.decDigits_length] at h
   exact h
 go_wp2
 go_ret
 refine ⟨rfl,?_⟩
 rw [Go.Sort.alloc_eq_grow]
 obtain ⟨os',_,e⟩ := Go.Sort.putRow_grow_new (fun (b : UInt8)=>Value.int .u8 (b.toNat : Int)) w #[.cells Lib.zeros24 168] w.heap.size 0 dk (Nat.le_refl _)
 rw [e]
 exact kp_grow w k os'
theorem strconv_FormatUint_spec {a0 a1 : Int} {y : List UInt8} (h : strconv_FormatUint a0 a1 = some y) : Spec gP 81 [.d (.int .u64 a0),.d (.int .i64 a1)] (.d (.str y)) := by
 obtain ⟨hl,h⟩ := guardO_some h
 injection h with h; subst h
 simp only [Bool.and_eq_true,beq_iff_eq] at hl
 obtain ⟨hl,rfl⟩ := hl
 have hl := of_decide_eq_true hl
 refine spec_str (by kernel_rfl) fun w F vs hg hr=>?_
 obtain ⟨v,u,rfl,r1,r2⟩ := args2 hr
 have hv := inv_int r1; have hu := inv_int r2
 subst hv; subst hu
 obtain ⟨n,rfl⟩ : ∃ n : Nat,a0 = n := ⟨a0.toNat,by omega⟩
 have key : Calls Tryz.prog 111 #[.int .u64 n,.int .i64 10] w fun e w'=>e = .returned (.string ⟨(Lib.decDigits n).toArray⟩) ∧ Kp w w' := by
   by_cases hs : n < 100
   · exact fmtU_small n hs w
   · exact fmtU_big n (by omega) (by omega) w (tab_pow hg.2)
 rw [Int.toNat_natCast]
 go_enter Tryz.func81,Tryz.ntmps81
 go_wp2_with (go_at_call 111; refine key.mono ?_; rintro e w' ⟨rfl,hk⟩)
 go_ret
 exact ⟨rfl,hk⟩
theorem args3 {G : Cx} {x y z : V} {vs : List Value} (h : rels G [x,y,z] vs) : ∃ v u t,vs = [v,u,t] ∧ rel G x v ∧ rel G y u ∧ rel G z t := by
 match vs,h with
 | [v,u,t],h=>exact ⟨v,u,t,rfl,(rels_cons_inv h).1,(rels_cons_inv (rels_cons_inv h).2).1,(rels_cons_inv (rels_cons_inv (rels_cons_inv h).2).2).1⟩
 | [],h=>have := h.1; simp at this
 | [_],h=>have := h.1; simp at this
 | [_,_],h=>have := h.1; simp at this
 | _ :: _ :: _ :: _ :: _,h=>have := h.1; simp at this
def strings_Trim (a0 a1 : List UInt8) : Option (List UInt8) := guardO (a1.all (fun c=>decide (c.toNat < 128)) && (decide (a0.length ≤ 9223372036854775807) && decide (a1.length < 4294967281))) (some (Lib.trimS a0 a1))
theorem zero_set (w : World) : (zeroValue 138).run Tryz.prog w = .ok (.agg (Array.replicate 256 (.bool false))) w := by
 obtain ⟨i,hi,hz⟩ : ∃ i,Tryz.prog.info? 138 = some i ∧ i.zero = some (.agg (Array.replicate 256 (.bool false))) := ⟨_,rfl,by kernel_rfl⟩
 simp [zeroValue,typeInfo,hi,hz,program,Sem.run]
theorem strings_Trim_spec {a0 a1 : List UInt8} {y : List UInt8} (h : strings_Trim a0 a1 = some y) : Spec gP 125 [.d (.str a0),.d (.str a1)] (.d (.str y)) := by
 obtain ⟨hl,h⟩ := guardO_some h
 injection h with h; subst h
 simp only [Bool.and_eq_true,decide_eq_true_eq,List.all_eq_true] at hl
 refine spec_str (by kernel_rfl) fun w F vs hg hr=>?_
 obtain ⟨v,u,rfl,r1,r2⟩ := args2 hr
 have hv := inv_str r1; have hu := inv_str r2
 subst hv; subst hu
 exact Any.strings_Trim_ascii lays160 zero_set (by kernel_rfl) ⟨a0.toArray⟩ ⟨a1.toArray⟩ w hl.2.1 hl.2.2 (fun j b hb=>hl.1 b (List.mem_of_getElem? hb))
def stringslite_IndexByte (a0 : List UInt8) (a1 : Int) : Option Int := some (Lib.indexByte a0 a1.toNat.toUInt8)
theorem stringslite_IndexByte_spec {a0 : List UInt8} {a1 y : Int} (h : stringslite_IndexByte a0 a1 = some y) : Spec gP 86 [.d (.str a0),.d (.int .u8 a1)] (.d (.int .i64 y)) := by
 injection h with h; subst h
 refine ⟨by kernel_rfl,fun w F vs hF hg hr=>?_⟩
 obtain ⟨v,u,rfl,r1,r2⟩ := args2 hr
 have hv := inv_str r1; have hu := inv_int r2
 subst hv; subst hu
 refine (Any.stringslite_IndexByte lays217 ⟨a0.toArray⟩ a1 w).mono ?_
 rintro e w' ⟨rfl,rfl⟩
 exact ⟨_,rfl,Kp.refl _,.d (.int _ _)⟩
def strings_Join (a0 : List (List UInt8)) (a1 : List UInt8) : Option (List UInt8) := guardO (decide ((Lib.join a0 a1).length ≤ 16777216) && decide (a0.length ≤ 16777216)) (some (Lib.join a0 a1))
set_option maxHeartbeats 4000000 in
theorem strings_Join_spec {a0 : List (List UInt8)} {a1 : List UInt8} {y : List UInt8} (h : strings_Join a0 a1 = some y) : Spec gP 59 [.d (.list (List.map eStr a0)),.d (.str a1)] (.d (.str y)) := by
 obtain ⟨hl,h⟩ := guardO_some h
 injection h with h; subst h
 simp only [Bool.and_eq_true,decide_eq_true_eq] at hl
 refine ⟨by kernel_rfl,fun w F vs hF hg hr=>?_⟩
 obtain ⟨v,u,rfl,r1,r2⟩ := args2 hr
 have hu := inv_str r2
 subst hu
 have hmap : (a0.map fun s=>(⟨s.toArray⟩ : ByteArray)).map (·.data.toList) = a0 := by
   rw [List.map_map]
   exact (List.map_congr_left (g := id) fun x _=>rfl).trans (List.map_id _)
 cases r1 with
 | d q =>
   generalize hes : List.map eStr a0 = es at q
   cases q with
   | nil A c =>
     have ha : a0 = [] := by simpa using hes
     subst ha
     refine (Any.strings_Join_none lays156 Builder_Extra_156 A c ⟨a1.toArray⟩ w).mono ?_
     rintro e w' ⟨rfl,rfl⟩
     exact ⟨_,rfl,Kp.refl _,.d (.str _)⟩
   | list _ b off c sz u hne hcap hs hFc hr' =>
     subst hes
     have hcell : ∀ (j : Nat) s,a0[j]? = some s → F b (off + j) (.string ⟨s.toArray⟩) := by
       intro j s hj
       have he : (List.map eStr a0)[j]? = some (eStr s) := by rw [List.getElem?_map,hj]; rfl
       have h1 := hs j _ he
       have h2 := hFc j 0 _ (.str s) he rfl
       have h3 := hr' j 0 _ (.str s) he rfl
       have hsz : sz = 1 := h1.symm
       subst hsz
       generalize u j 0 = q at h2 h3
       cases h3
       simpa [bareG] using h2
     obtain ⟨s0,hs0⟩ : ∃ s,a0[0]? = some s := ⟨_,List.getElem?_eq_getElem (by simpa using hne)⟩
     have hb : b < w.heap.size := (hF _ _ _ (hcell 0 s0 hs0)).1
     obtain ⟨xs,hxs⟩ : ∃ xs : List ByteArray,xs = a0.map fun s=>(⟨s.toArray⟩ : ByteArray) := ⟨_,rfl⟩
     have hlen : xs.length = (List.map eStr a0).length := by rw [hxs]; simp
     have hla : xs.length = a0.length := by rw [hxs]; simp
     rw [← hxs] at hmap
     have h1 : ∀ (j : Nat) x,xs[j]? = some x → w.cell? ⟨b,off + j,none⟩ = some (.string x) := by
       intro j x hj
       rw [hxs,List.getElem?_map] at hj
       cases hq : a0[j]? with
       | none=>rw [hq] at hj; cases hj
       | some s =>
         rw [hq] at hj; injection hj with hj; subst hj
         exact (hF _ _ _ (hcell j s hq)).2
     have h2 : xs.length ≤ 140737488355328 := by omega
     have h3 : xs.length ≤ c := by rw [hlen]; exact hcap
     have h4 : (Lib.join (xs.map (·.data.toList)) (⟨a1.toArray⟩ : ByteArray).data.toList).length ≤ 140737488355328 := by
       rw [hmap]
       have := hl.1
       show (Lib.join a0 a1).length ≤ 140737488355328
       omega
     have hJ := Any.strings_Join lays156 Builder_Extra_156 b off c xs ⟨a1.toArray⟩ w h1 hb h2 h3 h4
     rw [hmap,hlen] at hJ
     clear h1 h2 h3 h4 hs hFc hr' hcell
     refine Calls.mono hJ ?_
     rintro e w' ⟨rfl,hk⟩
     exact ⟨_,rfl,hk,.d (.str _)⟩
end Go.Proofs.YthljcnchaopncaaGreatDoor
namespace Go.Proofs.YthljcnchaopncaaGreatDoor
open Go.RowKit
set_option linter.unusedVariables false
set_option linter.unusedSimpArgs false
theorem rel_strs {F : Nat → Nat → Value → Prop} {w : World} {t : TypeId} (xs : List ByteArray) (N : Nat) (hx : xs.length = N) (h0 : 0 < N) :
  rel (bareG fun b o u=>F b o u ∨ fresh w (w.alloc (.cells (Lib.cellsOf xs N) t)) b o u) (.d (.list (List.map eStr (xs.map (·.data.toList))))) (.slice (some ⟨w.heap.size,0,none⟩) xs.length N) := by
 subst hx
 have hl : (List.map eStr (xs.map (·.data.toList))).length = xs.length := by simp
 have key : ∀ (i j : Nat) (e : List D) (x : D),(List.map eStr (xs.map (·.data.toList)))[i]? = some e → e[j]? = some x → ∃ s,xs[i]? = some s ∧ j = 0 ∧ x = .str s.data.toList := by
  intro i j e x h1 h2
  rw [List.getElem?_map,List.getElem?_map] at h1
  cases hs : xs[i]? with
  | none=>rw [hs] at h1; cases h1
  | some s =>
   rw [hs] at h1
   injection h1 with h1
   subst h1
   cases j with
   | zero=>injection h2 with h2; exact ⟨s,rfl,rfl,h2.symm⟩
   | succ j=>cases h2
 rw [show (Value.slice (some ⟨w.heap.size,0,none⟩) xs.length xs.length) = .slice (some ⟨w.heap.size,0,none⟩) (List.map eStr (xs.map (·.data.toList))).length xs.length by rw [hl]]
 refine .d (.list _ w.heap.size 0 xs.length 1 (fun i _=>match xs[i]? with | some s=>.string s | none=>Go.undef) (by rw [hl]; exact h0) (by rw [hl]; exact Nat.le_refl _) ?_ ?_ ?_)
 ·intro i e h1
  rw [List.getElem?_map] at h1
  cases hs : (xs.map (·.data.toList))[i]? with
  | none=>rw [hs] at h1; cases h1
  | some s=>rw [hs] at h1; injection h1 with h1; subst h1; rfl
 ·intro i j e x h1 h2
  obtain ⟨s,hs,rfl,rfl⟩ := key i j e x h1 h2
  refine .inr ⟨Nat.le_refl _,?_⟩
  rw [World.cell?_alloc_new]
  simp only [Nat.zero_add,Nat.mul_one,Nat.add_zero,hs]
  unfold Lib.cellsOf
  rw [List.getElem?_toArray,List.getElem?_append_left (by rw [List.length_map]; exact (List.getElem?_eq_some_iff.1 hs).1),List.getElem?_map,hs]
  rfl
 ·intro i j e x h1 h2
  obtain ⟨s,hs,rfl,rfl⟩ := key i j e x h1 h2
  simp only [hs]
  exact .str _
section
open Go.Shelf Go.Lib
variable {P : Program} {ρ : Ren}
theorem countB_one (s : ByteArray) (c : UInt8) : Lib.countB s ⟨#[c]⟩ = Lib.countByte s.data.toList c := by
 show Lib.count s.data.toList [c] = _
 rw [Lib.count_one]; rfl
set_option maxHeartbeats 4000000 in
theorem split_one (L : Lays.n146 P ρ) (hi9 : (P.info? (ρ.t 9)).map (fun i => (i.zero, i.size, i.bytes)) = some (some (.string ByteArray.empty), 1, 16)) (s : ByteArray) (b : UInt8) (w : World) (hs : s.size < 4294967281) :
   Calls P (ρ.f 146) #[.string s,.string ⟨#[b]⟩] w fun e w' =>
     e = .returned (.slice (some ⟨w.heap.size,0,none⟩) (Lib.splitB ⟨#[b]⟩ 0 (Lib.countB s ⟨#[b]⟩) s).length (Lib.countB s ⟨#[b]⟩ + 1)) ∧ w' = w.alloc (.cells (Lib.cellsOf (Lib.splitB ⟨#[b]⟩ 0 (Lib.countB s ⟨#[b]⟩) s) (Lib.countB s ⟨#[b]⟩ + 1)) (ρ.t 9)) := by
 have hle := Lib.countB_le ⟨#[b]⟩ (Nat.le_refl 1) s.size s (Nat.le_refl _)
 have c := Any.strings_genSplit_core { L with } hi9 s ⟨#[b]⟩ 0 (-1) (Lib.countB s ⟨#[b]⟩ + 1) w hs (Nat.le_refl 1) (Nat.zero_le _)
   (fun x cc hx=>(Any.strings_Index_one { L with } x b _).mono fun e w' ⟨he,hw⟩=>⟨by rw [he,← Lib.index_one],hw⟩)
   ((Any.strings_Count_one { L with } s b w).mono fun e w' ⟨he,hw⟩=>⟨by rw [he,countB_one],hw⟩) (by decide) (by decide) (by rw [if_pos (by decide)]; omega)
 rw [Nat.add_sub_cancel] at c
 have t3 := L.t3; have t9 := L.t9; have t31 := L.t31
 have a3 := L.a3; have a9 := L.a9; have a31 := L.a31
 have z3 := L.z3; have v3 := L.v3; have z9 := L.z9; have v9 := L.v9; have z31 := L.z31; have v31 := L.v31
 have e221 : ∀ args w,(callFunc (ρ.f 221) args).run P w = .ok (.enter (ρ.f 221) args) w := enters_of L.f221 (by kernel_rfl) rfl
 go_enter L.f146,Body.n146_ntmps ρ
 go_wp2_with (go_at_fn (ρ.f 221); refine c.mono ?_; rintro e w' ⟨rfl,hw⟩; rw [hw])
 go_ret
 exact ⟨rfl,rfl⟩
end
def split1 (s : List UInt8) : List UInt8 → Option (List (List UInt8))
 | [c]=>guardO (decide (s.length ≤ 16777216)) (some (Lib.split s [c]))
 | _=>none
def strings_Split (a0 a1 : List UInt8) : Option (List (List UInt8)) := split1 a0 a1
theorem strings_Split_spec {a0 a1 : List UInt8} {y : List (List UInt8)} (h : strings_Split a0 a1 = some y) : Spec gP 49 [.d (.str a0),.d (.str a1)] (.d (.list (List.map eStr y))) := by
 unfold strings_Split split1 at h
 split at h
 · rename_i c
   obtain ⟨hl,h⟩ := guardO_some h
   injection h with h; subst h
   simp only [decide_eq_true_eq] at hl
   refine ⟨by kernel_rfl,fun w F vs hF hg hr=>?_⟩
   obtain ⟨v,u,rfl,r1,r2⟩ := args2 hr
   have hv := inv_str r1; have hu := inv_str r2
   subst hv; subst hu
   have hsz : (⟨a0.toArray⟩ : ByteArray).size = a0.length := by show a0.toArray.size = _; simp
   refine (split_one lays146 (by kernel_rfl) ⟨a0.toArray⟩ c w (by rw [hsz]; omega)).mono ?_
   rintro e w' ⟨rfl,rfl⟩
   have hll := Lib.splitB_all ⟨#[c]⟩ (Nat.le_refl 1) 0 _ (⟨a0.toArray⟩ : ByteArray) rfl
   have hd := Lib.splitB_data ⟨#[c]⟩ 0 (Lib.countB ⟨a0.toArray⟩ ⟨#[c]⟩) (⟨a0.toArray⟩ : ByteArray)
   have hr := rel_strs (F := F) (w := w) (t := 9) _ _ hll (Nat.succ_pos _)
   rw [hd] at hr
   exact ⟨_,rfl,(Kp.refl _).alloc _,hr⟩
 · cases h
end Go.Proofs.YthljcnchaopncaaGreatDoor
namespace Go.Proofs.YthljcnchaopncaaGreatDoor
open Go.RowKit
set_option linter.unusedVariables false
set_option linter.unusedSimpArgs false
set_option maxRecDepth 100000
theorem err_at {w : World} (h : Tabs w) {b : Nat} (hb : errT b = true) : ∃ ev,w.cell? ⟨b,0,none⟩ = some ev ∧ (ev = .nilIface ∨ ∃ te pe,ev = .iface te pe) := h.2.1 b hb
def strconv_ParseIntE (a0 : List UInt8) (a1 a2 : Int) : Option (Int × Bool) := guardO (a1 == 10 && (a2 == 64 && decide (a0.length ≤ 281474976710656))) (match Lib.parseIntB 64 a0 with | .ok v=>some (v,true) | .range=>some (Lib.intSat 64 a0,false) | _=>some (0,false))
theorem strconv_ParseIntE_spec {a0 : List UInt8} {a1 a2 : Int} {y : Int × Bool} (h : strconv_ParseIntE a0 a1 a2 = some y) : SpecE gP 71 [.d (.str a0),.d (.int .i64 a1),.d (.int .i64 a2)] (fun te pe=>.tuple [.d (.int .i64 y.1),.d (.other (ifE y.2 te pe))]) := by
 obtain ⟨hl,h2⟩ := guardO_some h
 clear h
 simp only [Bool.and_eq_true,beq_iff_eq,decide_eq_true_eq] at hl
 obtain ⟨rfl,rfl,hl⟩ := hl
 refine ⟨by kernel_rfl,fun w F vs hF hg hr=>?_⟩
 obtain ⟨x,u,t,rfl,r1,r2,r3⟩ := args3 hr
 have hv := inv_str r1; have hu := inv_int r2; have ht := inv_int r3
 subst hv; subst hu; subst ht
 have fin : ∀ (n : Int) (v : Value) (hv : v.oneCell' = true) (w' : World),rel (bareG fun b o u=>F b o u ∨ fresh w w' b o u) (.tuple [.d (.int .i64 n),.d (.other v)]) (.tuple #[.int .i64 n,v]) := by
   intro n v hv w'
   have hx := rels_cons (G := bareG fun b o u=>F b o u ∨ fresh w w' b o u) (x := .d (.int .i64 n)) (.d (.int _ _)) (rels_cons (x := .d (.other v)) (.d (.other _ hv)) (rels_nil _))
   exact .tuple _ _ hx.1 hx.2
 split at h2
 · rename_i v hp
   injection h2 with h2; subst h2
   refine (Any.strconv_ParseInt_10_at64_ok laysC174 ⟨a0.toArray⟩ (Nat.le_trans hl (by decide)) v hp w).mono ?_
   rintro e w' ⟨rfl,hw⟩
   have hk : Kp w w' := by
     rcases hw with rfl | ⟨t,rfl⟩
     · exact Kp.refl _
     · exact Lib.bytesWorld_below _ _ _
   exact ⟨0,.nilIface,_,rfl,hk,fin v .nilIface rfl w'⟩
 · rename_i hp
   injection h2 with h2; subst h2
   obtain ⟨ev,e1,e2⟩ := err_at hg.2 (b := 5) rfl
   refine (Any.strconv_ParseInt_10_at64_range laysC174 ⟨a0.toArray⟩ hl hp ev w e1 e2).mono ?_
   rintro e w' ⟨N,rfl,_,_,hk⟩
   exact ⟨_,_,_,rfl,hk,fin _ (.iface _ (.pointer (some ⟨N,0,none⟩))) rfl w'⟩
 · rename_i hp1 hp2
   injection h2 with h2; subst h2
   obtain ⟨ev,e1,e2⟩ := err_at hg.2 (b := 4) rfl
   refine (Any.strconv_ParseInt_10_at64_syntax laysC174 ⟨a0.toArray⟩ hl (by
     show Lib.parseIntB 64 a0 = _
     cases hq : Lib.parseIntB 64 a0 with
     | ok v=>exact absurd hq (hp1 v)
     | range=>exact absurd hq hp2
     | _=>rfl) ev w e1 e2).mono ?_
   rintro e w' ⟨N,rfl,_,_,hk⟩
   exact ⟨_,_,_,rfl,hk,fin _ (.iface _ (.pointer (some ⟨N,0,none⟩))) rfl w'⟩
end Go.Proofs.YthljcnchaopncaaGreatDoor
