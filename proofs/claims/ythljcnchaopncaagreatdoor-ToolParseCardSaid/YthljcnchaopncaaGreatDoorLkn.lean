/-
  Lk, Nm in one text.
-/
import Derived.Test.YthljcnchaopncaaGreatDoorLbe
import Derived.Test.YthljcnchaopncaaGreatDoorGx
import Derived.Shelf.Strconv.AtoiAll
import Derived.Shelf.Strings.Replace
import Derived.Lib.SplitLaws
import Derived.Maps.RangeRun
namespace Go.Proofs.YthljcnchaopncaaGreatDoor
open Go.RowKit
set_option linter.unusedVariables false
set_option linter.unusedSimpArgs false
set_option maxRecDepth 100000
def strconv_AtoiE (a0 : List UInt8) : Option (Int × Bool) := guardO (decide (a0.length ≤ 281474976710656)) (match Lib.atoiAll a0 with | .ok v=>some (v,true) | .range=>some (Lib.atoiSat a0,false) | _=>some (0,false))
theorem strconv_AtoiE_spec {a0 : List UInt8} {y : Int × Bool} (h : strconv_AtoiE a0 = some y) : SpecE gP 50 [.d (.str a0)] (fun te pe=>.tuple [.d (.int .i64 y.1),.d (.other (ifE y.2 te pe))]) := by
 obtain ⟨hl,h2⟩ := guardO_some h
 clear h
 simp only [decide_eq_true_eq] at hl
 refine ⟨by kernel_rfl,fun w F vs hF hg hr=>?_⟩
 obtain ⟨x,rfl,r1⟩ := args1 hr
 have hv := inv_str r1
 subst hv
 have fin : ∀ (n : Int) (v : Value) (hv : v.oneCell' = true) (w' : World),rel (bareG fun b o u=>F b o u ∨ fresh w w' b o u) (.tuple [.d (.int .i64 n),.d (.other v)]) (.tuple #[.int .i64 n,v]) := by
  intro n v hv w'
  have hx := rels_cons (G := bareG fun b o u=>F b o u ∨ fresh w w' b o u) (x := .d (.int .i64 n)) (.d (.int _ _)) (rels_cons (x := .d (.other v)) (.d (.other _ hv)) (rels_nil _))
  exact .tuple _ _ hx.1 hx.2
 split at h2
 ·rename_i v hp
  injection h2 with h2; subst h2
  refine (Any.strconv_Atoi_ok laysC172 ⟨a0.toArray⟩ (Nat.le_trans hl (by decide)) v hp w).mono ?_
  rintro e w' ⟨rfl,hw⟩
  have hk : Kp w w' := by
   rcases hw with rfl | ⟨t,rfl⟩
   ·exact Kp.refl _
   ·exact Lib.bytesWorld_below _ _ _
  exact ⟨0,.nilIface,_,rfl,hk,fin v .nilIface rfl w'⟩
 ·rename_i hp
  injection h2 with h2; subst h2
  obtain ⟨ev,e1,e2⟩ := err_at hg.2 (b := 5) rfl
  refine (Any.strconv_Atoi_range laysC172 ⟨a0.toArray⟩ hl hp ev w e1 e2).mono ?_
  rintro e w' ⟨N,rfl,_,_,hk⟩
  exact ⟨_,_,_,rfl,hk,fin _ (.iface _ (.pointer (some ⟨N,0,none⟩))) rfl w'⟩
 ·rename_i hp1 hp2
  injection h2 with h2; subst h2
  obtain ⟨ev,e1,e2⟩ := err_at hg.2 (b := 4) rfl
  refine (Any.strconv_Atoi_syntax laysC172 ⟨a0.toArray⟩ hl (by
   show Lib.atoiAll a0 = _
   cases hq : Lib.atoiAll a0 with
   | ok v=>exact absurd hq (hp1 v)
   | range=>exact absurd hq hp2
   | _=>rfl) ev w e1 e2).mono ?_
  rintro e w' ⟨N,rfl,_,_,hk⟩
  exact ⟨_,_,_,rfl,hk,fin _ (.iface _ (.pointer (some ⟨N,0,none⟩))) rfl w'⟩
def strings_Replace (a0 a1 a2 : List UInt8) (a3 : Int) : Option (List UInt8) := guardO (decide (a0.length < 4294967281) && (decide (1 ≤ a1.length) && decide (a0.length + a0.length * a2.length ≤ 140737488355328))) (some (Lib.replace a0 a1 a2 a3))
theorem strings_Replace_spec {a0 a1 a2 : List UInt8} {a3 : Int} {y : List UInt8} (h : strings_Replace a0 a1 a2 a3 = some y) : Spec gP 30 [.d (.str a0),.d (.str a1),.d (.str a2),.d (.int .i64 a3)] (.d (.str y)) := by
 obtain ⟨hl,h⟩ := guardO_some h
 injection h with h; subst h
 simp only [Bool.and_eq_true,decide_eq_true_eq] at hl
 obtain ⟨l1,l2,l3⟩ := hl
 refine spec_str (by kernel_rfl) fun w F vs hg hr=>?_
 match vs,hr with
 | [v,u,t,s],hr =>
  obtain ⟨r1,hr⟩ := rels_cons_inv hr
  obtain ⟨r2,hr⟩ := rels_cons_inv hr
  obtain ⟨r3,hr⟩ := rels_cons_inv hr
  obtain ⟨r4,hr⟩ := rels_cons_inv hr
  have h1 := inv_str r1; have h2 := inv_str r2; have h3 := inv_str r3; have h4 := inv_int r4
  subst h1; subst h2; subst h3; subst h4
  obtain ⟨m,hm⟩ := hg.2.2.2.1 1 rfl
  have hc : Lib.countB (⟨a0.toArray⟩ : ByteArray) ⟨a1.toArray⟩ ≤ a0.length := Lib.countB_le ⟨a1.toArray⟩ l2 a0.length ⟨a0.toArray⟩ (Nat.le_refl _)
  refine (Any.strings_Replace lays154 Builder_Extra_154 ⟨a0.toArray⟩ ⟨a1.toArray⟩ ⟨a2.toArray⟩ a3 m w l1 hm l2 (Nat.le_trans (Nat.add_le_add_left (Nat.mul_le_mul_right _ hc) _) l3)).mono ?_
  rintro e w' ⟨rfl,hk⟩
  exact ⟨rfl,hk⟩
 | [],hr=>have := hr.1; simp at this
 | [_],hr=>have := hr.1; simp at this
 | [_,_],hr=>have := hr.1; simp at this
 | [_,_,_],hr=>have := hr.1; simp at this
 | _ :: _ :: _ :: _ :: _ :: _,hr=>have := hr.1; simp at this
def toolKinds : List (Int × List UInt8) := [(1,[109,105,108,108]),(2,[100,114,105,108,108]),(3,[99,104,97,109,102,101,114]),(4,[112,114,111,98,101])]
def to_KindName (a0 : Int) : Option (List UInt8) := some ((mget toolKinds a0).getD [])
def KindsIn (es : List MapEntry) : Prop := ∀ x ∈ es,∃ p ∈ toolKinds,x.key = .int .i64 p.1 ∧ x.val = .string ⟨p.2.toArray⟩
theorem find_kinds {ik' : IntKind} (n : Int) : ∀ (es : List MapEntry) (i : Nat),KindsIn es →
  ((∀ x ∈ es,x.key ≠ .int .i64 n) ∧ Instr.findNow (.int ik') (.int .i64 n) es i = some none) ∨ ∃ j p,p ∈ toolKinds ∧ p.1 = n ∧ Instr.findNow (.int ik') (.int .i64 n) es i = some (some (j,.string ⟨p.2.toArray⟩))
 | [],i,h=>.inl ⟨fun x hx=>(by cases hx),rfl⟩
 | e :: r,i,h=>by
  obtain ⟨p,hp,e1,e2⟩ := h e (by simp)
  by_cases hk : n = p.1
  ·subst hk
   exact .inr ⟨i,p,hp,rfl,by simp [Instr.findNow,Instr.sameNow,e1,e2]⟩
  ·have hne : (n == p.1) = false := by simp [hk]
   rcases find_kinds (ik' := ik') n r (i + 1) (fun x hx=>h x (by simp [hx])) with ⟨a1,a2⟩ | ⟨j,q,a1,a2,a3⟩
   ·refine .inl ⟨fun x hx=>?_,by simp [Instr.findNow,Instr.sameNow,e1,hne,a2]⟩
    rcases List.mem_cons.1 hx with rfl | hx
    ·rw [e1]; intro hh; injection hh with _ hh; exact hk hh.symm
    ·exact a1 x hx
   ·exact .inr ⟨j,q,a1,a2,by simp [Instr.findNow,Instr.sameNow,e1,hne,a3]⟩
theorem kinds_at {p : Int × List UInt8} (h : p ∈ toolKinds) : (mget toolKinds p.1).getD [] = p.2 := by
 simp only [toolKinds,List.mem_cons,List.not_mem_nil,or_false] at h
 rcases h with rfl | rfl | rfl | rfl <;> rfl
theorem kinds_no {n : Int} (h : ∀ p ∈ toolKinds,p.1 ≠ n) : (mget toolKinds n).getD [] = [] := by
 have h1 := h (1,[109,105,108,108]) (by simp [toolKinds])
 have h2 := h (2,[100,114,105,108,108]) (by simp [toolKinds])
 have h3 := h (3,[99,104,97,109,102,101,114]) (by simp [toolKinds])
 have h4 := h (4,[112,114,111,98,101]) (by simp [toolKinds])
 have e1 : (n == 1) = false := beq_eq_false_iff_ne.2 (Ne.symm h1)
 have e2 : (n == 2) = false := beq_eq_false_iff_ne.2 (Ne.symm h2)
 have e3 : (n == 3) = false := beq_eq_false_iff_ne.2 (Ne.symm h3)
 have e4 : (n == 4) = false := beq_eq_false_iff_ne.2 (Ne.symm h4)
 simp only [toolKinds,mget,e1,e2,e3,e4]
 rfl
theorem to_KindName_spec {a0 : Int} {y : List UInt8} (h : to_KindName a0 = some y) : Spec gP 27 [.d (.int .i64 a0)] (.d (.str y)) := by
 injection h with h
 refine spec_str (by kernel_rfl) fun w F vs hg hr=>?_
 obtain ⟨v,rfl,r1⟩ := args1 hr
 have hv := inv_int r1
 subst hv
 obtain ⟨bm,es,clock,c1,c2,c3,c4,c5,c6⟩ := hg.2.2.2.2 0 _ rfl
 have hkey : MapKept.IsKey (.int .i64) (.int .i64 a0) := by simp [MapKept.IsKey]
 have hlook : (Instr.lookup 65 (.map (some bm)) (.int .i64 a0) false).run Tryz.prog w = .ok (.string ⟨y.toArray⟩) w := by
  rcases find_kinds (ik' := .i64) a0 es.toList 0 c5 with ⟨a1,a2⟩ | ⟨j,p,a1,a2,a3⟩
  ·have hn : y = [] := by
    rw [← h]
    refine kinds_no fun p hp hh=>?_
    obtain ⟨x,x1,x2,_⟩ := c6 p hp
    exact a1 x x1 (by rw [x2,hh])
   subst hn
   simp [Instr.lookup,run_underlying Tryz.underlying65,MapKept.run_getObj_map c2,MapKept.run_checkKey Tryz.underlying3 hkey,MapKept.run_findKey Tryz.underlying3 a2]
  ·have hn : y = p.2 := by rw [← h,← a2]; exact kinds_at a1
   subst hn
   simp [Instr.lookup,run_underlying Tryz.underlying65,MapKept.run_getObj_map c2,MapKept.run_checkKey Tryz.underlying3 hkey,MapKept.run_findKey Tryz.underlying3 a3]
 clear c2 c3 c4 c5 c6 h hg hr r1
 go_enter Tryz.func27,Tryz.ntmps27
 go_wp2
 go_ret
 exact ⟨rfl,Kp.refl _⟩
end Go.Proofs.YthljcnchaopncaaGreatDoor
namespace Go.Proofs.YthljcnchaopncaaGreatDoor
open Go.RowKit
set_option linter.unusedVariables false
set_option linter.unusedSimpArgs false
set_option maxRecDepth 100000
def kindSel (x : List UInt8) (acc : Int) : Int := match toolKinds.find? (fun p=>p.2 == x) with | some p=>p.1 | none=>acc
theorem kinds_inj {p q : Int × List UInt8} (hp : p ∈ toolKinds) (hq : q ∈ toolKinds) (h : p.2 = q.2) : p.1 = q.1 := by
 simp only [toolKinds,List.mem_cons,List.not_mem_nil,or_false] at hp hq
 rcases hp with rfl | rfl | rfl | rfl <;> rcases hq with rfl | rfl | rfl | rfl <;> first | rfl | (exact absurd h (by decide))
theorem kindSel_hit {p : Int × List UInt8} (hp : p ∈ toolKinds) (acc : Int) : kindSel p.2 acc = p.1 := by
 simp only [toolKinds,List.mem_cons,List.not_mem_nil,or_false] at hp
 rcases hp with rfl | rfl | rfl | rfl <;> rfl
theorem kindSel_miss {x : List UInt8} (h : ∀ p ∈ toolKinds,p.2 ≠ x) (acc : Int) : kindSel x acc = acc := by
 unfold kindSel
 rw [List.find?_eq_none.2 (fun p hp=>by simpa using h p hp)]
def KI (es : List MapEntry) (x : List UInt8) (acc K : Int) (seen : Array Nat) : Prop :=
 (∀ e ∈ es,seen.contains e.born = true → ∀ p ∈ toolKinds,e.val = .string ⟨p.2.toArray⟩ → p.2 = x → K = p.1) ∧ ((∀ e ∈ es,seen.contains e.born = true → ∀ p ∈ toolKinds,e.val = .string ⟨p.2.toArray⟩ → p.2 ≠ x) → K = acc)
theorem str_inj {a b : List UInt8} (h : Value.string ⟨a.toArray⟩ = .string ⟨b.toArray⟩) : a = b := by
 injection h with h; injection h with h; injection h
theorem KI.start (es : List MapEntry) (x : List UInt8) (acc : Int) : KI es x acc acc #[] := ⟨fun e _ h=>by simp at h,fun _=>rfl⟩
theorem KI.hit {es : List MapEntry} {x : List UInt8} {acc K : Int} {seen : Array Nat} (h : KI es x acc K seen) {e : MapEntry} (he : e ∈ es) {p : Int × List UInt8} (hp : p ∈ toolKinds) (hv : e.val = .string ⟨p.2.toArray⟩) (hx : p.2 = x) : KI es x acc p.1 (seen.push e.born) :=
 ⟨fun e' _ _ q hq _ hqx=>kinds_inj hp hq (hx.trans hqx.symm),fun hno=>absurd hx (hno e he (by rw [contains_push]; simp) p hp hv)⟩
theorem born_inj {es : List MapEntry} (hn : (es.map fun z : MapEntry=>z.born).Nodup) {a b : MapEntry} (ha : a ∈ es) (hb : b ∈ es) (h : a.born = b.born) : a = b := by
 obtain ⟨i,hi,rfl⟩ := List.getElem_of_mem ha
 obtain ⟨j,hj,rfl⟩ := List.getElem_of_mem hb
 have hij : i = j := by
  have := (List.getElem_inj (xs := es.map fun z : MapEntry=>z.born) (i := i) (j := j) (h₀ := by simpa using hi) (h₁ := by simpa using hj) hn).1 (by simpa using h)
  exact this
 subst hij; rfl
theorem KI.miss {es : List MapEntry} {x : List UInt8} {acc K : Int} {seen : Array Nat} (h : KI es x acc K seen) (hn : (es.map fun z : MapEntry=>z.born).Nodup) {e : MapEntry} (he : e ∈ es) {p : Int × List UInt8} (hp : p ∈ toolKinds) (hv : e.val = .string ⟨p.2.toArray⟩) (hx : p.2 ≠ x) : KI es x acc K (seen.push e.born) := by
 refine ⟨fun e' he' hs q hq hqv hqx=>?_,fun hno=>h.2 fun e' he' hs=>hno e' he' (by rw [contains_push,hs]; rfl)⟩
 rw [contains_push] at hs
 cases hc : seen.contains e'.born with
 | true=>exact h.1 e' he' hc q hq hqv hqx
 | false =>
  rw [hc] at hs
  have hb : e'.born = e.born := by simpa using hs
  have := born_inj hn he' he hb
  subst this
  have h2 := str_inj (hv.symm.trans hqv)
  exact absurd (h2.trans hqx) hx
theorem KI.done {es : List MapEntry} {x : List UInt8} {acc K : Int} {seen : Array Nat} (h : KI es x acc K seen) (ha : ∀ e ∈ es,seen.contains e.born = true) (h1 : KindsIn es) (h2 : ∀ p ∈ toolKinds,∃ e ∈ es,e.key = .int .i64 p.1 ∧ e.val = .string ⟨p.2.toArray⟩) : K = kindSel x acc := by
 by_cases hx : ∃ p ∈ toolKinds,p.2 = x
 ·obtain ⟨p,hp,rfl⟩ := hx
  obtain ⟨e,he,_,hv⟩ := h2 p hp
  rw [kindSel_hit hp]
  exact h.1 e he (ha e he) p hp hv rfl
 ·have hx : ∀ p ∈ toolKinds,p.2 ≠ x := fun p hp h=>hx ⟨p,hp,h⟩
  rw [kindSel_miss hx]
  exact h.2 fun e _ _ p hp _=>hx p hp
section
variable {P : Program} {ops : Array Oper} {Q : Exit → Act → World → Prop} {G : Cx} {fr : Fr} {a : Act} {w : World} {rest : List Oper}
theorem wpl_of {o : Oper} (hg : o.guard = none) {v : Value} {w' : World} (hr : (execOp a.eval o).run P w = .ok (.value v) w') (h : wpList P ops Q rest (a.put o.dst v) w') : wpList P ops Q (o :: rest) a w := by
 unfold wpList
 have hw : Region.wanted o (yielded ops a.tmps) = true := by unfold Region.wanted; rw [hg]
 rw [hw,if_pos rfl]
 left
 unfold Oper.wp
 rw [hr]
 exact h
theorem wpl_skip {o : Oper} (hg : o.guard = none) {w' : World} (hr : (execOp a.eval o).run P w = .ok .skip w') (h : wpList P ops Q rest (a.put o.dst Go.undef) w') : wpList P ops Q (o :: rest) a w := by
 unfold wpList
 have hw : Region.wanted o (yielded ops a.tmps) = true := by unfold Region.wanted; rw [hg]
 rw [hw,if_pos rfl]
 left
 unfold Oper.wp
 rw [hr]
 exact h
theorem wpl_pure {g : Pg P} {o : Oper} {y : V} (hg : o.guard = none) (hF : ∀ b o v,G.F b o v → w.cell? ⟨b,o,none⟩ = some v) (hfr : FR G fr a) (hd : a.defers = []) (hs : pureS g o (evalO fr) = some y) (h : ∀ a' : Act,FR G (putF fr o.dst y) a' → a'.defers = [] → wpList P ops Q rest a' w) : wpList P ops Q (o :: rest) a w := by
 obtain ⟨v,r1,r2⟩ := pureS_ok (g := g) hF hfr hs
 exact wpl_of hg r1 (h _ (FR_put hfr r2 o.dst) (by rw [put_defers]; exact hd))
theorem wpl_nil (h : Q .normal a w) : wpList P ops Q [] a w := h
theorem inv_oth {u v : Value} (r : rel G (.d (.other u)) v) : v = u := by cases r with | d q=>cases q; rfl
end
def nmF (x0 x2 x4 x5 it : V) : Fr := [x0,.undef,x2,.undef,x4,x5] ++ List.replicate 27 .undef ++ [it] ++ List.replicate 52 .undef
def nmF2 (x0 x2 x4 x5 v8 v9 it : V) : Fr := [x0,.undef,x2,.undef,x4,x5,.undef,.undef,v8,v9] ++ List.replicate 23 .undef ++ [it] ++ List.replicate 52 .undef
set_option maxHeartbeats 8000000 in
theorem SWs.toolNames {Q : SQ} {fr F' : Fr} {s S' : Sg} {x0 x2 : V} {ws : List (List UInt8)} {x : List UInt8} {k : Nat} {cs : List V} {acc : Int}
  (hF : maskF [0,2,4,5] fr = nmF x0 x2 (.d (.list (List.map eStr ws))) (.ptr k 0) .undef) (hx : gt ws 2 = some x) (ho : s.obs[k]? = some cs) (hc : cs[1]? = some (.d (.int .i64 acc)))
  (hF' : nmF x0 x2 (.d (.list (List.map eStr ws))) (.ptr k 0) .undef = F') (hS : (⟨s.obs.set k (cs.set 1 (.d (.int .i64 (kindSel x acc)))), s.lns⟩ : Sg) = S') (h : Q .normal F' S') : SWs gP (Code.seq (Code.region 9 #[(Oper.mk (some 32) (Op.load 65 (Operand.global 0)) 65 "tool.go:107" #[] none), (Oper.mk (some 33) (Op.range 65 (Operand.tmp 32)) 0 "tool.go:107" #[(Edge.mk 0 Ground.data)] none)] false) (Code.block 0 (Code.loop (Code.seq (Code.region 10 #[(Oper.mk (some 34) (Op.next (Operand.tmp 33) false) 0 "tool.go:107" #[] none), (Oper.mk (some 35) (Op.extract (Operand.tmp 34) 0) 4 "tool.go:107" #[(Edge.mk 0 Ground.data)] none)] false) (Code.seq (Code.cond (Operand.tmp 35) Code.skip (Code.exit 0)) (Code.block 1 (Code.seq (Code.region 11 #[(Oper.mk (some 36) (Op.entry (Operand.tmp 33)) 0 "tool.go:107" #[] none), (Oper.mk (some 37) (Op.extract (Operand.tmp 36) 0) 3 "tool.go:107" #[(Edge.mk 0 Ground.data)] none), (Oper.mk (some 38) (Op.extract (Operand.tmp 36) 1) 9 "tool.go:107" #[(Edge.mk 0 Ground.data), (Edge.mk 3 (Ground.gcOnly Departure.lateStores))] none), (Oper.mk (some 8) (Op.assign (Operand.tmp 37)) 3 "tool.go:107" #[(Edge.mk 1 Ground.data), (Edge.mk 0 Ground.phase), (Edge.mk 1 Ground.phase), (Edge.mk 2 (Ground.textOnly Departure.lateStores))] none), (Oper.mk (some 9) (Op.assign (Operand.tmp 38)) 9 "tool.go:107" #[(Edge.mk 2 Ground.data), (Edge.mk 3 Ground.chain), (Edge.mk 0 Ground.phase), (Edge.mk 1 Ground.phase), (Edge.mk 2 Ground.phase), (Edge.mk 3 Ground.phase)] none)] false) (Code.seq (Code.region 12 #[(Oper.mk (some 39) (Op.move (Operand.tmp 9)) 9 "tool.go:108" #[] none), (Oper.mk (some 40) (Op.move (Operand.tmp 4)) 70 "tool.go:108" #[] none), (Oper.mk (some 41) (Op.indexAddr 70 (Operand.tmp 40) (Operand.const (Value.int IntKind.i64 2))) 0 "tool.go:108" #[(Edge.mk 1 Ground.data)] none), (Oper.mk (some 42) (Op.load 9 (Operand.tmp 41)) 9 "tool.go:108" #[(Edge.mk 2 Ground.data)] none), (Oper.mk (some 43) (Op.binOp BinOp.eql 9 (Operand.tmp 39) (Operand.tmp 42) 9) 4 "tool.go:108" #[(Edge.mk 0 Ground.data), (Edge.mk 3 Ground.data)] none)] false) (Code.cond (Operand.tmp 43) (Code.region 13 #[(Oper.mk (some 44) (Op.move (Operand.tmp 8)) 3 "tool.go:109" #[] none), (Oper.mk (some 45) (Op.fieldAddr 23 (Operand.tmp 5) 1) 0 "tool.go:109" #[(Edge.mk 0 Ground.phase)] none), (Oper.mk none (Op.store 3 (Operand.tmp 45) (Operand.tmp 44)) 0 "tool.go:109" #[(Edge.mk 1 Ground.data), (Edge.mk 0 Ground.data), (Edge.mk 0 Ground.phase)] none)] false) Code.skip))))))))) Q fr s := by
 subst hF'; subst hS
 intro _ w0 G0 G a w h0 hH hfr hd
 have hfr0 := FR_mask hfr [0,2,4,5]
 rw [hF] at hfr0
 clear hfr hF
 have hx2 : ws[2]? = some x := gt_at hx
 obtain ⟨b5,q5,hv5⟩ := inv_ptr (hfr0.2 5 : rel G (.ptr k 0) _)
 obtain ⟨b',vs,tt,h1,h2,h3,h4,h5⟩ := hH.obl k cs ho (hH.obm k b5 q5) (hH.obr k b5 q5)
 rw [q5] at h1; injection h1 with h1; subst h1
 have hgl := hH.gb.kp hH.kp
 obtain ⟨bm,es,clock,c1,c2,c3,c4,c5,c6⟩ := hgl.2.2.2.2 0 _ rfl
 have hb5 : b5 < w.heap.size := heap_lt' h3
 have hbm : bm < w.heap.size := heap_lt' c2
 have hne : bm ≠ b5 := fun e=>by subst e; rw [h3] at c2; cases c2
 have hkl : k < s.obs.length := getElem_lt ho
 -- where the fixed cells lie
 have hFs : ∀ (w' : World),w.grownBy w' (some b5) → ∀ b o v,G.F b o v → w'.cell? ⟨b,o,none⟩ = some v := by
  intro w' hg b o v q
  have q1 := hH.fs b o v q
  have hn : b ≠ b5 := fun e=>by subst e; exact h5 o v q
  exact (World.cell?_of_block (a := ⟨b,o,none⟩) (hg.block b q1.1 (fun e=>hn (by injection e)))).trans q1.2
 refine wp_seq (wp_region_list ?_)
 -- the map, and an iterator over it
 obtain ⟨mv,l1,l2⟩ := loadF_ok (P := Tryz.prog) (G := G) (t := 65) (cs := [.d (.other (.map (some bm)))]) (off := 0) (x := .d (.other (.map (some bm)))) (vs := [.map (some bm)]) (b := 0) (o := 0) (w := w) (by kernel_rfl) (rels_cons (.d (.other _ rfl)) (rels_nil _)) (fun j v hj=>by
  cases j with
  | zero=>simp at hj; subst hj; exact c1
  | succ j=>simp at hj)
 have hmv : mv = .map (some bm) := by cases l2 with | d q=>cases q; rfl
 subst hmv
 refine wpl_of rfl (v := .map (some bm)) (w' := w) (by
  simp only [execOp,Instr.loadAt,Instr.sureAddr,Act.eval,Sem.run_bind,Sem.run_pure,Result.andThen_ok]
  rw [show (⟨0,0,none⟩ : Addr) = ⟨0,0 + 0,none⟩ from rfl,l1]
  rfl) ?_
 have f1 := FR_put (x := .d (.other (.map (some bm)))) hfr0 (.d (.other _ rfl)) (some 32)
 have hd1 : (a.put (some 32) (.map (some bm))).defers = [] := by rw [put_defers]; exact hd
 generalize a.put (some 32) (.map (some bm)) = a1 at f1 hd1
 have e32 : a1.eval (.tmp 32) = .map (some bm) := inv_oth (evalO_rel f1 (.tmp 32))
 refine wpl_of rfl (v := .pointer (some ⟨w.heap.size,0,none⟩)) (w' := w.alloc (.mapIter (some bm) clock #[] clock)) (by
  simp only [execOp,e32,run_range_map w 65 _ _ bm es clock Tryz.underlying65 c2,Sem.run_bind,Sem.run_pure,Result.andThen_ok]) ?_
 have f2 := FR_mask (FR_put (x := .d (.other (.pointer (some ⟨w.heap.size,0,none⟩)))) f1 (.d (.other _ rfl)) (some 33)) [0,2,4,5,33]
 have hd2 : (a1.put (some 33) (.pointer (some ⟨w.heap.size,0,none⟩))).defers = [] := by rw [put_defers]; exact hd1
 generalize a1.put (some 33) (.pointer (some ⟨w.heap.size,0,none⟩)) = a2 at f2 hd2
 have f2 : FR G (nmF x0 x2 (.d (.list (List.map eStr ws))) (.ptr k 0) (.d (.other (.pointer (some ⟨w.heap.size,0,none⟩))))) a2 := f2
 refine wpl_nil ?_
 refine wp_block (wp_loop_idx (fun m a' w'=>∃ K seen c0,FR G (nmF x0 x2 (.d (.list (List.map eStr ws))) (.ptr k 0) (.d (.other (.pointer (some ⟨w.heap.size,0,none⟩))))) a' ∧ a'.defers = [] ∧ w'.heap[w.heap.size]? = some (.mapIter (some bm) clock seen c0) ∧ clock ≤ c0 ∧ w.grownBy w' (some b5) ∧
  (∃ vs',w'.heap[b5]? = some (.cells ⟨vs'⟩ tt (0,0)) ∧ rels G (cs.set 1 (.d (.int .i64 K))) vs') ∧ m = (leftOf es seen).size ∧ KI es.toList x acc K seen) (n := (leftOf es #[]).size) ?_ ?_)
 ·refine ⟨acc,#[],clock,f2,hd2,Go.heap_alloc_new _ _,Nat.le_refl _,⟨rfl,rfl,rfl,by show _ ≤ (w.heap.push _).size; simp,fun j hj _=>Go.heap_alloc_old w _ hj⟩,⟨vs,(Go.heap_alloc_old w _ hb5).trans h3,?_⟩,rfl,KI.start _ _ _⟩
  have : cs.set 1 (.d (.int .i64 acc)) = cs := by
   apply List.ext_getElem?
   intro i
   rw [List.getElem?_set]
   split
   ·rename_i e; subst e
    split
    ·exact hc.symm
    ·rename_i e; exact absurd (getElem_lt hc) e
   ·rfl
  rw [this]; exact h4
 ·rintro m a' w' ⟨K,seen,c0,g1,g2,g3,g4,g5,⟨vs',g6,g7⟩,rfl,g8⟩
  have hbm' : w'.heap[bm]? = some (.map es clock) := (g5.block bm hbm (fun e=>hne (by injection e))).trans c2
  have e33 : a'.eval (.tmp 33) = .pointer (some ⟨w.heap.size,0,none⟩) := inv_oth (evalO_rel g1 (.tmp 33))
  refine wp_seq (wp_region_list ?_)
  rcases run_next_at (P := Tryz.prog) w' 0 w.heap.size bm clock c0 seen es clock g3 hbm' c3 g4 with ⟨n0,hn⟩ | ⟨e,he,w1,hw1,hn⟩
  ·refine wpl_of rfl (v := .tuple #[.bool false]) (w' := w') (by
    simp only [execOp,e33,hn,Sem.run_bind,Sem.run_pure,Result.andThen_ok]) ?_
   have t1 : rel G (.tuple [.d (.bool false)]) (.tuple #[.bool false]) := by
    have hx := rels_cons (G := G) (x := .d (.bool false)) (.d (.bool _)) (rels_nil _)
    exact .tuple _ _ hx.1 hx.2
   refine wpl_pure (g := gP) (y := .d (.bool false)) rfl (hFs w' g5) (FR_put g1 t1 (some 34)) (by rw [put_defers]; exact g2) (by kernel_rfl) fun a3 f3 d3=>wpl_nil ?_
   refine wp_seq (wp_cond_false (inv_bool (evalO_rel f3 (.tmp 35))) (wp_exit ?_))
   have hK := KI.done g8 (all_seen es seen n0) c5 c6
   subst hK
   have hHf := HRp.put hH q5 g5 (tk_grown g5 fun t' q'=>by unfold tagOf at q' ⊢; rw [h3] at q'; rw [g6]; exact q') g6 g7
   refine (?_ : Post gP w0 G0 (Q .normal) a3 w')
   refine ⟨G,_,_,h0,?_,FR_mask f3 [0,2,4,5],d3,h⟩
   have hH2 : HRp Tryz.prog w0 w' G (upd (fun k=>s.obs[k]?) k (cs.set 1 (.d (.int .i64 (kindSel x acc))))) (fun t=>s.lns[t]?) := hHf
   rw [sg_set ho] at hH2
   exact hH2
  ·obtain ⟨hem,hes⟩ := mem_left he
   obtain ⟨p,hp,ek,ev⟩ := c5 e hem
   refine wpl_of rfl (v := .tuple #[.bool true,e.key,e.val]) (w' := Go.ChangeMaps.setBlock w1 w.heap.size (.mapIter (some bm) clock (seen.push e.born) clock)) (by
    simp only [execOp,e33,hn,Sem.run_bind,Sem.run_pure,Result.andThen_ok]) ?_
   have hw1h : w1.heap = w'.heap := by rcases hw1 with rfl | rfl <;> rfl
   have hrs : w.heap.size < w'.heap.size := heap_lt' g3
   have q3 : (Go.ChangeMaps.setBlock w1 w.heap.size (.mapIter (some bm) clock (seen.push e.born) clock)).heap[w.heap.size]? = some (.mapIter (some bm) clock (seen.push e.born) clock) := by
    show (w1.heap.setIfInBounds _ _)[_]? = _
    rw [hw1h]
    simp [hrs]
   have qo : ∀ j,j ≠ w.heap.size → (Go.ChangeMaps.setBlock w1 w.heap.size (.mapIter (some bm) clock (seen.push e.born) clock)).heap[j]? = w'.heap[j]? := fun j hj=>by
    show (w1.heap.setIfInBounds _ _)[_]? = _
    rw [hw1h]
    simp [Array.getElem?_setIfInBounds,Ne.symm hj]
   have q5' : w.grownBy (Go.ChangeMaps.setBlock w1 w.heap.size (.mapIter (some bm) clock (seen.push e.born) clock)) (some b5) := by
    refine ⟨?_,?_,?_,?_,fun j hj hn=>(qo j (by omega)).trans (g5.block j hj hn)⟩
    ·rcases hw1 with rfl | rfl <;> exact g5.os
    ·rcases hw1 with rfl | rfl <;> exact g5.tape
    ·rcases hw1 with rfl | rfl <;> exact g5.output
    ·show _ ≤ (w1.heap.setIfInBounds _ _).size
     rw [hw1h]; simpa using g5.size
   have q6 : (Go.ChangeMaps.setBlock w1 w.heap.size (.mapIter (some bm) clock (seen.push e.born) clock)).heap[b5]? = some (.cells ⟨vs'⟩ tt (0,0)) := (qo b5 (by omega)).trans g6
   have qbm : (Go.ChangeMaps.setBlock w1 w.heap.size (.mapIter (some bm) clock (seen.push e.born) clock)).heap[bm]? = some (.map es clock) := (qo bm (by omega)).trans hbm'
   generalize Go.ChangeMaps.setBlock w1 w.heap.size (.mapIter (some bm) clock (seen.push e.born) clock) = w2 at q3 qo q5' q6 qbm
   rw [ek,ev]
   have t1 : rel G (.tuple [.d (.bool true),.d (.int .i64 p.1),.d (.str p.2)]) (.tuple #[.bool true,.int .i64 p.1,.string ⟨p.2.toArray⟩]) := by
    have hx := rels_cons (G := G) (x := .d (.bool true)) (.d (.bool _)) (rels_cons (x := .d (.int .i64 p.1)) (.d (.int _ _)) (rels_cons (x := .d (.str p.2)) (.d (.str _)) (rels_nil _)))
    exact .tuple _ _ hx.1 hx.2
   refine wpl_pure (g := gP) (y := .d (.bool true)) rfl (hFs w2 q5') (FR_put g1 t1 (some 34)) (by rw [put_defers]; exact g2) (by kernel_rfl) fun a3 f3 d3=>wpl_nil ?_
   refine wp_seq (wp_cond_true (inv_bool (evalO_rel f3 (.tmp 35))) (wp_skip ?_))
   refine (wp_block (wp_seq (wp_region_list ?_)) : Code.wp Tryz.prog _ _ a3 w2)
   have e33' : a3.eval (.tmp 33) = .pointer (some ⟨w.heap.size,0,none⟩) := inv_oth (evalO_rel f3 (.tmp 33))
   refine wpl_of rfl (v := .tuple #[e.key,e.val]) (w' := w2) (by
    simp only [execOp,e33',run_entry_at w2 w.heap.size bm clock seen es clock e q3 qbm hem c4,Sem.run_bind,Sem.run_pure,Result.andThen_ok]) ?_
   rw [ek,ev]
   have t2 : rel G (.tuple [.d (.int .i64 p.1),.d (.str p.2)]) (.tuple #[.int .i64 p.1,.string ⟨p.2.toArray⟩]) := by
    have hx := rels_cons (G := G) (x := .d (.int .i64 p.1)) (.d (.int _ _)) (rels_cons (x := .d (.str p.2)) (.d (.str _)) (rels_nil _))
    exact .tuple _ _ hx.1 hx.2
   have hFw := hFs w2 q5'
   refine wpl_pure (g := gP) (y := .d (.int .i64 p.1)) rfl hFw (FR_put f3 t2 (some 36)) (by rw [put_defers]; exact d3) (by kernel_rfl) fun a4 f4 d4=>?_
   refine wpl_pure (g := gP) (y := .d (.str p.2)) rfl hFw f4 d4 (by kernel_rfl) fun a5 f5 d5=>?_
   refine wpl_pure (g := gP) (y := .d (.int .i64 p.1)) rfl hFw f5 d5 (by kernel_rfl) fun a6 f6 d6=>?_
   refine wpl_pure (g := gP) (y := .d (.str p.2)) rfl hFw f6 d6 (by kernel_rfl) fun a7 f7 d7=>wpl_nil ?_
   have f7 : FR G (nmF2 x0 x2 (.d (.list (List.map eStr ws))) (.ptr k 0) (.d (.int .i64 p.1)) (.d (.str p.2)) (.d (.other (.pointer (some ⟨w.heap.size,0,none⟩))))) a7 := FR_mask f7 [0,2,4,5,8,9,33]
   refine wp_seq (wp_region_list ?_)
   have hia : indexAddrV Tryz.prog 70 (.d (.list (List.map eStr ws))) (.d (.int .i64 2)) = some (.iptr [.str x] 0) := by
    simp [indexAddrV,Tryz.underlying70,show sizeT Tryz.prog 9 = some 1 by kernel_rfl,V.list?,V.data?,hx2,eStr]
   refine wpl_pure (g := gP) (y := .d (.str p.2)) rfl hFw f7 d7 (by kernel_rfl) fun a8 f8 d8=>?_
   refine wpl_pure (g := gP) (y := .d (.list (List.map eStr ws))) rfl hFw f8 d8 (by kernel_rfl) fun a9 f9 d9=>?_
   refine wpl_pure (g := gP) (y := .iptr [.str x] 0) rfl hFw f9 d9 hia fun a10 f10 d10=>?_
   refine wpl_pure (g := gP) (y := .d (.str x)) rfl hFw f10 d10 (by kernel_rfl) fun a11 f11 d11=>?_
   refine wpl_pure (g := gP) (y := .d (.bool (p.2 == x))) rfl hFw f11 d11 (by kernel_rfl) fun a12 f12 d12=>wpl_nil ?_
   have ec := inv_bool (evalO_rel f12 (.tmp 43) : rel G (.d (.bool (p.2 == x))) _)
   have f12 : FR G (nmF2 x0 x2 (.d (.list (List.map eStr ws))) (.ptr k 0) (.d (.int .i64 p.1)) (.d (.str p.2)) (.d (.other (.pointer (some ⟨w.heap.size,0,none⟩))))) a12 := FR_mask f12 [0,2,4,5,8,9,33]
   by_cases hpx : p.2 = x
   ·refine wp_cond_true (ec.trans (by simp [hpx])) (wp_region_list ?_)
    refine wpl_pure (g := gP) (y := .d (.int .i64 p.1)) rfl hFw f12 d12 (by kernel_rfl) fun a13 f13 d13=>?_
    refine wpl_pure (g := gP) (y := .ptr k 1) rfl hFw f13 d13 (by kernel_rfl) fun a14 f14 d14=>?_
    obtain ⟨bb,qq,e45⟩ := inv_ptr (evalO_rel f14 (.tmp 45) : rel G (.ptr k 1) _)
    rw [q5] at qq; injection qq with qq; subst qq
    have e44 : a14.eval (.tmp 44) = .int .i64 p.1 := inv_int (evalO_rel f14 (.tmp 44))
    have hlen : 1 < vs'.length := by rw [← g7.1,List.length_set]; exact getElem_lt hc
    have hst := run_storeCells_at (P := Tryz.prog) b5 1 tt [.int .i64 p.1] 0 ⟨vs'⟩ w2 q6 (by simp only [Nat.add_zero,List.length_singleton,List.size_toArray]; omega) (by simp [Value.oneCell'])
    refine wpl_skip rfl (w' := w2.setRow b5 (((⟨vs'⟩ : Array Value).toList.take (1 + 0) ++ [Value.int .i64 p.1] ++ (⟨vs'⟩ : Array Value).toList.drop (1 + 0 + [Value.int .i64 p.1].length)).toArray)) (by
     simp only [execOp,e45,e44,Instr.storeAt,Instr.sureAddr,Sem.run_bind,Sem.run_pure,Result.andThen_ok,storeVar,run_size (show sizeT Tryz.prog 3 = some 1 by kernel_rfl),Value.cells,ne_eq,not_true_eq_false,Sem.run_ite,if_false,hst,List.size_toArray,List.length_singleton]) (wpl_nil ?_)
    have hr2 : rels G (cs.set 1 (.d (.int .i64 p.1))) (vs'.take 1 ++ [Value.int .i64 p.1] ++ vs'.drop 2) := by
     have := splice_rels (off := 1) g7 (rels_cons (G := G) (x := .d (.int .i64 p.1)) (v := .int .i64 p.1) (.d (.int _ _)) (rels_nil _)) (by rw [List.length_set]; have := getElem_lt hc; simp; omega)
     have e2 : splice (cs.set 1 (.d (.int .i64 K))) 1 [.d (.int .i64 p.1)] = cs.set 1 (.d (.int .i64 p.1)) := by
      match cs,hc with
      | [],hc=>simp at hc
      | [_],hc=>simp at hc
      | _ :: _ :: _,hc=>simp [splice]
     rw [e2] at this
     simpa using this
    refine ⟨(leftOf es (seen.push e.born)).size,left_shrinks es seen e he,p.1,seen.push e.born,clock,FR_mask (FR_put f14 (.undef _) none) [0,2,4,5,33],by rw [put_defers]; exact d14,?_,Nat.le_refl _,?_,⟨_,setRow_heap w2 b5 ⟨vs'⟩ _ tt (0,0) q6,by simpa using hr2⟩,rfl,KI.hit g8 hem hp ev hpx⟩
    ·rw [setRow_other _ _ _ _ (by omega)]; exact q3
    ·exact ⟨q5'.os,q5'.tape,q5'.output,Nat.le_trans q5'.size (by simp [World.setRow]),fun j hj hn=>(setRow_other w2 b5 j _ (fun e=>hn (by rw [e]))).trans (q5'.block j hj hn)⟩
   ·refine wp_cond_false (ec.trans (by simp [hpx])) (wp_skip ?_)
    exact ⟨(leftOf es (seen.push e.born)).size,left_shrinks es seen e he,K,seen.push e.born,clock,FR_mask f12 [0,2,4,5,33],d12,q3,Nat.le_refl _,q5',⟨vs',q6,g7⟩,rfl,KI.miss g8 c4 hem hp ev hpx⟩
theorem Mir.toolNames {ε : Type} {m : Option ε} {Φ : ε → SQ} {fr F' : Fr} {s S' : Sg} {x0 x2 : V} {ws : List (List UInt8)} {x : List UInt8} {k : Nat} {cs : List V} {acc : Int}
  (hF : maskF [0,2,4,5] fr = nmF x0 x2 (.d (.list (List.map eStr ws))) (.ptr k 0) .undef) (hx : gt ws 2 = some x) (ho : s.obs[k]? = some cs) (hc : cs[1]? = some (.d (.int .i64 acc)))
  (hF' : nmF x0 x2 (.d (.list (List.map eStr ws))) (.ptr k 0) .undef = F') (hS : (⟨s.obs.set k (cs.set 1 (.d (.int .i64 (kindSel x acc)))), s.lns⟩ : Sg) = S') (h : ∀ e, m = some e → Φ e .normal F' S') : Mir gP (Code.seq (Code.region 9 #[(Oper.mk (some 32) (Op.load 65 (Operand.global 0)) 65 "tool.go:107" #[] none), (Oper.mk (some 33) (Op.range 65 (Operand.tmp 32)) 0 "tool.go:107" #[(Edge.mk 0 Ground.data)] none)] false) (Code.block 0 (Code.loop (Code.seq (Code.region 10 #[(Oper.mk (some 34) (Op.next (Operand.tmp 33) false) 0 "tool.go:107" #[] none), (Oper.mk (some 35) (Op.extract (Operand.tmp 34) 0) 4 "tool.go:107" #[(Edge.mk 0 Ground.data)] none)] false) (Code.seq (Code.cond (Operand.tmp 35) Code.skip (Code.exit 0)) (Code.block 1 (Code.seq (Code.region 11 #[(Oper.mk (some 36) (Op.entry (Operand.tmp 33)) 0 "tool.go:107" #[] none), (Oper.mk (some 37) (Op.extract (Operand.tmp 36) 0) 3 "tool.go:107" #[(Edge.mk 0 Ground.data)] none), (Oper.mk (some 38) (Op.extract (Operand.tmp 36) 1) 9 "tool.go:107" #[(Edge.mk 0 Ground.data), (Edge.mk 3 (Ground.gcOnly Departure.lateStores))] none), (Oper.mk (some 8) (Op.assign (Operand.tmp 37)) 3 "tool.go:107" #[(Edge.mk 1 Ground.data), (Edge.mk 0 Ground.phase), (Edge.mk 1 Ground.phase), (Edge.mk 2 (Ground.textOnly Departure.lateStores))] none), (Oper.mk (some 9) (Op.assign (Operand.tmp 38)) 9 "tool.go:107" #[(Edge.mk 2 Ground.data), (Edge.mk 3 Ground.chain), (Edge.mk 0 Ground.phase), (Edge.mk 1 Ground.phase), (Edge.mk 2 Ground.phase), (Edge.mk 3 Ground.phase)] none)] false) (Code.seq (Code.region 12 #[(Oper.mk (some 39) (Op.move (Operand.tmp 9)) 9 "tool.go:108" #[] none), (Oper.mk (some 40) (Op.move (Operand.tmp 4)) 70 "tool.go:108" #[] none), (Oper.mk (some 41) (Op.indexAddr 70 (Operand.tmp 40) (Operand.const (Value.int IntKind.i64 2))) 0 "tool.go:108" #[(Edge.mk 1 Ground.data)] none), (Oper.mk (some 42) (Op.load 9 (Operand.tmp 41)) 9 "tool.go:108" #[(Edge.mk 2 Ground.data)] none), (Oper.mk (some 43) (Op.binOp BinOp.eql 9 (Operand.tmp 39) (Operand.tmp 42) 9) 4 "tool.go:108" #[(Edge.mk 0 Ground.data), (Edge.mk 3 Ground.data)] none)] false) (Code.cond (Operand.tmp 43) (Code.region 13 #[(Oper.mk (some 44) (Op.move (Operand.tmp 8)) 3 "tool.go:109" #[] none), (Oper.mk (some 45) (Op.fieldAddr 23 (Operand.tmp 5) 1) 0 "tool.go:109" #[(Edge.mk 0 Ground.phase)] none), (Oper.mk none (Op.store 3 (Operand.tmp 45) (Operand.tmp 44)) 0 "tool.go:109" #[(Edge.mk 1 Ground.data), (Edge.mk 0 Ground.data), (Edge.mk 0 Ground.phase)] none)] false) Code.skip))))))))) fr s m Φ :=
 fun e he=>SWs.toolNames hF hx ho hc hF' hS (h e he)
end Go.Proofs.YthljcnchaopncaaGreatDoor
