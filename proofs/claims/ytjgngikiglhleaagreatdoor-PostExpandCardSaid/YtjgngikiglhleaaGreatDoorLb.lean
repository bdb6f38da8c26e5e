import Derived.Test.YtjgngikiglhleaaGreatDoorLz
import Derived.Test.YtjgngikiglhleaaGreatDoorGx
import Derived.Test.YtjgngikiglhleaaGreatDoorTy
import Derived.Lib.AppendIntMem
import Derived.Shelf.Strings.OnBuilder
namespace Go.Proofs.YtjgngikiglhleaaGreatDoor
open Go.RowKit
set_option linter.unusedVariables false
set_option linter.unusedSimpArgs false
set_option maxRecDepth 100000
theorem kp_grow (w : World) (k : Nat) (os : Array Obj) : Kp w (Go.Sort.grow (w.drewN k) os) := Lib.below_grow _ w (Nat.le_refl _) k os
theorem spec_str {f : FuncId} {args : List V} {y : List UInt8} (he : enterable Tryz.prog f = true) (h : ∀ (w : World) (F : Nat → Nat → Value → Prop) (vs : List Value),GlobOk w F → rels (bareG F) args vs → Calls Tryz.prog f ⟨vs⟩ w fun e w'=>e = .returned (.string ⟨y.toArray⟩) ∧ Kp w w') : Spec gP f args (.d (.str y)) :=
 ⟨he,fun w F vs hF hg hr=>(h w F vs hg hr).mono (by rintro e w' ⟨rfl,hk⟩; exact ⟨_,rfl,hk,.d (.str _)⟩)⟩
theorem args1 {G : Cx} {x : V} {vs : List Value} (h : rels G [x] vs) : ∃ v,vs = [v] ∧ rel G x v := by
 match vs,h with
 | [v],h=>exact ⟨v,rfl,(rels_cons_inv h).1⟩
 | [],h=>have := h.1; simp at this
 | _ :: _ :: _,h=>have := h.1; simp at this
theorem args2 {G : Cx} {x y : V} {vs : List Value} (h : rels G [x,y] vs) : ∃ v u,vs = [v,u] ∧ rel G x v ∧ rel G y u := by
 match vs,h with
 | [v,u],h=>exact ⟨v,u,rfl,(rels_cons_inv h).1,(rels_cons_inv (rels_cons_inv h).2).1⟩
 | [],h=>have := h.1; simp at this
 | [_],h=>have := h.1; simp at this
 | _ :: _ :: _ :: _,h=>have := h.1; simp at this
def inI64 (n : Int) : Bool := decide (-9223372036854775808 ≤ n ∧ n ≤ 9223372036854775807)
theorem tab_pow {w : World} (h : Tabs w) : Lib.TabIs Tryz.prog w "internal/strconv.uint64pow10" .u64 Lib.pow10Tab := by
 obtain ⟨t,f,q⟩ := h.1 1 _ _ rfl
 have e0 : Tryz.prog.globalNamed "internal/strconv.uint64pow10" = some 1 := by kernel_rfl
 unfold Lib.TabIs World.var?
 rw [e0,Option.bind_some,q]
 exact congrArg some (by kernel_rfl)
def strconv_Itoa (a0 : Int) : Option (List UInt8) := guardO (inI64 a0) (some (Lib.itoa a0))
theorem strconv_Itoa_spec {a0 : Int} {y : List UInt8} (h : strconv_Itoa a0 = some y) : Spec gP 62 [.d (.int .i64 a0)] (.d (.str y)) := by
 obtain ⟨hl,h⟩ := guardO_some h
 injection h with h; subst h
 have hl := of_decide_eq_true hl
 refine spec_str (by kernel_rfl) fun w F vs hg hr=>?_
 obtain ⟨v,rfl,r⟩ := args1 hr
 have hv := inv_int r
 subst hv
 refine (Any.strconv_Itoa laysM171 a0 hl.1 hl.2 w (tab_pow hg.2)).mono ?_
 rintro e w' ⟨rfl,k,os,rfl⟩
 exact ⟨rfl,kp_grow w k os⟩
def trim1 (s : List UInt8) : List UInt8 → Option (List UInt8)
 | [c]=>guardO (decide (c.toNat < 128) && decide (s.length ≤ 9223372036854775807)) (some (Lib.trimRightB s c))
 | _=>none
def strings_TrimRight (a0 a1 : List UInt8) : Option (List UInt8) := trim1 a0 a1
theorem strings_TrimRight_spec {a0 a1 : List UInt8} {y : List UInt8} (h : strings_TrimRight a0 a1 = some y) : Spec gP 96 [.d (.str a0),.d (.str a1)] (.d (.str y)) := by
 unfold strings_TrimRight trim1 at h
 split at h
 · rename_i c
   obtain ⟨hl,h⟩ := guardO_some h
   injection h with h; subst h
   simp only [Bool.and_eq_true,decide_eq_true_eq] at hl
   refine spec_str (by kernel_rfl) fun w F vs hg hr=>?_
   obtain ⟨v,u,rfl,r1,r2⟩ := args2 hr
   have hv := inv_str r1; have hu := inv_str r2
   subst hv; subst hu
   refine (Any.strings_TrimRight_one lays162 ⟨a0.toArray⟩ c hl.1 w hl.2).mono ?_
   rintro e w' ⟨rfl,rfl⟩
   exact ⟨rfl,Kp.refl _⟩
 · cases h
def strconv_FormatUint (a0 a1 : Int) : Option (List UInt8) := guardO (decide (0 ≤ a0 ∧ a0 < 18446744073709551616) && a1 == 10) (some (Lib.decDigits a0.toNat))
theorem zero24 (w : World) (T : TypeId) (nd : Nat) (hs : nd ≤ 24) : Go.Sort.Holds (fun (b : UInt8)=>Value.int .u8 (b.toNat : Int)) (w.alloc (.cells Lib.zeros24 T)) w.heap.size 0 (Array.replicate nd (0 : UInt8)) := fun j hj=>by
 have hj' : j < nd := by simpa using hj
 refine ⟨?_,World.frozen?_alloc_new _ _ _ _⟩
 rw [World.cell?_alloc_new,Lib.zeros24_at _ (by omega),getElem!_pos _ j hj]
 simp
theorem fmtU_small (u : Nat) (hu : u < 100) (w : World) : Calls Tryz.prog 103 #[.int .u64 u,.int .i64 10] w fun e w'=>e = .returned (.string ⟨(Lib.decDigits u).toArray⟩) ∧ Kp w w' := by
 have hcv : (convert 125 3 (.int .u64 (u : Int))).run Tryz.prog w = .ok (.int .i64 (u : Int)) w := by
   simp [convert,run_underlying Tryz.underlying125,run_underlying Tryz.underlying3,Conv.intToInt]
   rw [IntKind.wrap_i64]; omega
 go_enter Tryz.func103,Tryz.ntmps103
 go_wp2_with (go_at_call 99; refine (Any.internal_strconv_small lays283 u hu _).mono ?_; rintro e w' ⟨rfl,rfl⟩)
 go_ret
 exact ⟨rfl,Kp.refl _⟩
theorem fmtU_big (u : Nat) (hu : 100 ≤ u) (hu64 : u < 18446744073709551616) (w : World) (htab : Lib.TabIs Tryz.prog w "internal/strconv.uint64pow10" .u64 Lib.pow10Tab) : Calls Tryz.prog 103 #[.int .u64 u, .int .i64 10] w fun e w' => e = .returned (.string ⟨(Lib.decDigits u).toArray⟩) ∧ Kp w w' := by
 have hu1 : 1 ≤ u := by omega
 have hnd20 : Lib.nDigits u ≤ 20 := by have := Lib.numDigits_eq u hu1 hu64; split at this <;> omega
 have hal : Tryz.prog.arrayLen 164 = 24 := by kernel_rfl
 have hsl : ∀ W,(Instr.sliceAt 164 (.pointer (some ⟨w.heap.size,0,none⟩)) none (some (.int .i64 (Lib.nDigits u : Int))) none).run Tryz.prog W = .ok (.slice (some ⟨w.heap.size,0,none⟩) (Lib.nDigits u) 24) W := fun W=>by
   rw [run_sliceAt_array_h W 164 ⟨w.heap.size,0,none⟩ (by simp [Program.arrayLen,Program.elem,Tryz.underlying164]) .i64 (Lib.nDigits u : Int) (by omega) (by rw [hal]; omega)]
   rw [hal,show Tryz.prog.elem 164 = 5 from by kernel_rfl]
   simp [Tryz.sizeOf5,slicedAt,Addr.add_lit]
 have hH0 := zero24 w 164 (Lib.nDigits u) (by omega)
 have hfmt := Any.internal_strconv_formatBase10 lays285 w.heap.size 0 24 u (Array.replicate (Lib.nDigits u) 0) (w.alloc (.cells Lib.zeros24 164)) hH0 (by rw [Array.size_replicate]; exact Lib.lt_pow_nDigits u) hu64 (by rw [Array.size_replicate]; omega)
 rw [Array.size_replicate] at hfmt
 have HH0 := hid hH0
 clear hH0 hal
 go_enter Tryz.func103,Tryz.ntmps103
 go_wp2_with (first
   | (go_at_call 100; refine (Any.internal_strconv_numDigits laysM284 u hu1 hu64 _ (Lib.tabIs_alloc htab _)).mono ?_; rintro e w' ⟨rfl,rfl⟩))
 go_at_call 101
 refine hfmt.mono ?_
 rintro e w' ⟨rfl,k,v',dk,rfl,hF⟩
 have hcv : (convert 130 9 (.slice (some ⟨w.heap.size,0,none⟩) (Lib.nDigits u) 24)).run Tryz.prog ((Go.Sort.putRow (fun (b : UInt8)=>Value.int .u8 (b.toNat : Int)) (w.alloc (.cells Lib.zeros24 164)) w.heap.size 0 dk).drewN k) = .ok (.string ⟨(Lib.decDigits u).toArray⟩) ((Go.Sort.putRow (fun (b : UInt8)=>Value.int .u8 (b.toNat : Int)) (w.alloc (.cells Lib.zeros24 164)) w.heap.size 0 dk).drewN k) := by
   have h := run_convert_bytes_back (P := Tryz.prog) ((Go.Sort.putRow (fun (b : UInt8)=>Value.int .u8 (b.toNat : Int)) (w.alloc (.cells Lib.zeros24 164)) w.heap.size 0 dk).drewN k) 130 9 5 ⟨w.heap.size,0,none⟩ 24 (Lib.decDigits u) Tryz.underlying130 Tryz.underlying5 Tryz.underlying9 (fun j hj=>by
     rw [Lib.row_is_numeral hF j hj,Lib.add_plain,World.cell?_drewN]
     exact Go.Sort.cell?_putRow (fun (b : UInt8)=>Value.int .u8 (b.toNat : Int)) _ w.heap.size 0 _ dk HH0.out (by rw [hF.size,Array.size_replicate]) j (by rw [hF.size]; rw [Lib.decDigits_length] at hj; exact hj))
   rw [Lib.decDigits_length] at h
   exact h
 go_wp2
 go_ret
 refine ⟨rfl,?_⟩
 rw [Go.Sort.alloc_eq_grow]
 obtain ⟨os',_,e⟩ := Go.Sort.putRow_grow_new (fun (b : UInt8)=>Value.int .u8 (b.toNat : Int)) w #[.cells Lib.zeros24 164] w.heap.size 0 dk (Nat.le_refl _)
 rw [e]
 exact kp_grow w k os'
theorem strconv_FormatUint_spec {a0 a1 : Int} {y : List UInt8} (h : strconv_FormatUint a0 a1 = some y) : Spec gP 95 [.d (.int .u64 a0),.d (.int .i64 a1)] (.d (.str y)) := by
 obtain ⟨hl,h⟩ := guardO_some h
 injection h with h; subst h
 simp only [Bool.and_eq_true,beq_iff_eq] at hl
 obtain ⟨hl,rfl⟩ := hl
 have hl := of_decide_eq_true hl
 refine spec_str (by kernel_rfl) fun w F vs hg hr=>?_
 obtain ⟨v,u,rfl,r1,r2⟩ := args2 hr
 have hv := inv_int r1; have hu := inv_int r2
 subst hv; subst hu
 obtain ⟨n,rfl⟩ : ∃ n : Nat,a0 = n := ⟨a0.toNat,by omega⟩
 have key : Calls Tryz.prog 103 #[.int .u64 n,.int .i64 10] w fun e w'=>e = .returned (.string ⟨(Lib.decDigits n).toArray⟩) ∧ Kp w w' := by
   by_cases hs : n < 100
   · exact fmtU_small n hs w
   · exact fmtU_big n (by omega) (by omega) w (tab_pow hg.2)
 rw [Int.toNat_natCast]
 go_enter Tryz.func95,Tryz.ntmps95
 go_wp2_with (go_at_call 103; refine key.mono ?_; rintro e w' ⟨rfl,hk⟩)
 go_ret
 exact ⟨rfl,hk⟩
def strings_Join (a0 : List (List UInt8)) (a1 : List UInt8) : Option (List UInt8) := guardO (decide ((Lib.join a0 a1).length ≤ 16777216) && decide (a0.length ≤ 16777216)) (some (Lib.join a0 a1))
set_option maxHeartbeats 4000000 in
theorem strings_Join_spec {a0 : List (List UInt8)} {a1 : List UInt8} {y : List UInt8} (h : strings_Join a0 a1 = some y) : Spec gP 88 [.d (.list (List.map eStr a0)),.d (.str a1)] (.d (.str y)) := by
 obtain ⟨hl,h⟩ := guardO_some h
 injection h with h; subst h
 simp only [Bool.and_eq_true,decide_eq_true_eq] at hl
 refine ⟨by kernel_rfl,fun w F vs hF hg hr=>?_⟩
 obtain ⟨v,u,rfl,r1,r2⟩ := args2 hr
 have hu := inv_str r2
 subst hu
 have hmap : (a0.map fun s=>(⟨s.toArray⟩ : ByteArray)).map (·.data.toList) = a0 := by
   rw [List.map_map]
   exact (List.map_congr_left (g := id) fun x _=>rfl).trans (List.map_id _)
 cases r1 with
 | d q =>
   generalize hes : List.map eStr a0 = es at q
   cases q with
   | nil A c =>
     have ha : a0 = [] := by simpa using hes
     subst ha
     refine (Any.strings_Join_none lays156 Builder_Extra_156 A c ⟨a1.toArray⟩ w).mono ?_
     rintro e w' ⟨rfl,rfl⟩
     exact ⟨_,rfl,Kp.refl _,.d (.str _)⟩
   | list _ b off c sz u hne hcap hs hFc hr' =>
     subst hes
     have hcell : ∀ (j : Nat) s,a0[j]? = some s → F b (off + j) (.string ⟨s.toArray⟩) := by
       intro j s hj
       have he : (List.map eStr a0)[j]? = some (eStr s) := by rw [List.getElem?_map,hj]; rfl
       have h1 := hs j _ he
       have h2 := hFc j 0 _ (.str s) he rfl
       have h3 := hr' j 0 _ (.str s) he rfl
       have hsz : sz = 1 := h1.symm
       subst hsz
       generalize u j 0 = q at h2 h3
       cases h3
       simpa [bareG] using h2
     obtain ⟨s0,hs0⟩ : ∃ s,a0[0]? = some s := ⟨_,List.getElem?_eq_getElem (by simpa using hne)⟩
     have hb : b < w.heap.size := (hF _ _ _ (hcell 0 s0 hs0)).1
     obtain ⟨xs,hxs⟩ : ∃ xs : List ByteArray,xs = a0.map fun s=>(⟨s.toArray⟩ : ByteArray) := ⟨_,rfl⟩
     have hlen : xs.length = (List.map eStr a0).length := by rw [hxs]; simp
     have hla : xs.length = a0.length := by rw [hxs]; simp
     rw [← hxs] at hmap
     have h1 : ∀ (j : Nat) x,xs[j]? = some x → w.cell? ⟨b,off + j,none⟩ = some (.string x) := by
       intro j x hj
       rw [hxs,List.getElem?_map] at hj
       cases hq : a0[j]? with
       | none=>rw [hq] at hj; cases hj
       | some s =>
         rw [hq] at hj; injection hj with hj; subst hj
         exact (hF _ _ _ (hcell j s hq)).2
     have h2 : xs.length ≤ 140737488355328 := by omega
     have h3 : xs.length ≤ c := by rw [hlen]; exact hcap
     have h4 : (Lib.join (xs.map (·.data.toList)) (⟨a1.toArray⟩ : ByteArray).data.toList).length ≤ 140737488355328 := by
       rw [hmap]
       have := hl.1
       show (Lib.join a0 a1).length ≤ 140737488355328
       omega
     have hJ := Any.strings_Join lays156 Builder_Extra_156 b off c xs ⟨a1.toArray⟩ w h1 hb h2 h3 h4
     rw [hmap,hlen] at hJ
     clear h1 h2 h3 h4 hs hFc hr' hcell
     refine Calls.mono hJ ?_
     rintro e w' ⟨rfl,hk⟩
     exact ⟨_,rfl,hk,.d (.str _)⟩
end Go.Proofs.YtjgngikiglhleaaGreatDoor
