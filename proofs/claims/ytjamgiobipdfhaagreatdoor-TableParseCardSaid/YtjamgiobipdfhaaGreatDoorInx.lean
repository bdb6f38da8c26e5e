/-
  In, Im, Io, Ioe in one text.
-/
import Derived.Test.YtjamgiobipdfhaaGreatDoorGx
import Derived.Lib.AppendZerosOnto
import Derived.Laws.CopyRow
import Derived.Lib.Hide
import Derived.Laws.NewBlocks
import Derived.Laws.Externs
import Derived.Shelf.Spec.SlicesInsert
import Derived.Deep.WholeRow
import Derived.Test.YtjamgiobipdfhaaGreatDoorTy
open List renaming append_assoc → zC
open Nat renaming mul_le_mul_right → zD
namespace Go.Proofs.YtjamgiobipdfhaaGreatDoor
open Go.RowKit Go.Lib
set_option linter.unusedVariables false
set_option linter.unusedSimpArgs false
end Go.Proofs.YtjamgiobipdfhaaGreatDoor
namespace Go.Proofs.YtjamgiobipdfhaaGreatDoor
open Go.RowKit Go.Lib
set_option linter.unusedVariables false
set_option linter.unusedSimpArgs false
set_option maxHeartbeats 4000000 in
set_option maxRecDepth 100000 in
theorem ins_end (w : World) (B n vb voff vc : Nat) (v : Value) (xs ys : List Value) (hown : w.ownsRow B 65 2 v n xs)
  (hyl : ys.length = 2) (hys : ∀ j u,ys[j]? = some u → w.cell? ((⟨vb,voff,none⟩ : Addr).add j) = some u) (h1y : ∀ u ∈ ys,u.oneCell' = true) (hn : n + 1 ≤ 16777216) (hB : B ≤ w.heap.size) :
  Calls Tryz.prog 34 #[v,.int .i64 n,.slice (some ⟨vb,voff,none⟩) 1 vc] w λe w' =>
   ∃ gg cap,e = .returned (.slice (some ⟨gg,0,none⟩) (n + 1) cap) ∧ w'.ownsRow B 65 2 (.slice (some ⟨gg,0,none⟩) (n + 1) cap) (n + 1) (xs ++ ys) ∧ ((v.ownBlock = some gg ∧ w.grownBy w' (some gg)) ∨ (gg = w.heap.size ∧ Kp w w')) := by
 obtain ⟨i0,hi0,hz0⟩ : ∃ i0,Tryz.prog.info? 65 = some i0 ∧ (i0.size = 2 ∧ i0.zero = some (.agg #[.int .i64 0,.int .i64 0]) ∧ i0.bytes = 16) := ⟨_,rfl,by kernel_rfl,by kernel_rfl,by kernel_rfl⟩
 obtain ⟨gg,cap,w',r1,r2,r3⟩ := run_append_any (P := Tryz.prog) w 32 32 65 i0 (.agg #[.int .i64 0,.int .i64 0]) B Tryz.underlying32 hi0 hz0.2.1 (by rw [hz0.1]; rfl) v n xs (by rw [hz0.1]; exact hown) ⟨vb,voff,none⟩ 1 vc ys (by rw [hz0.1,hyl]) hys h1y (by omega) (by unfold maxLen; omega) (by rw [hz0.2.2]; omega) hB
 rw [hz0.1] at r2
 rcases hown.2 with ⟨rfl,rfl⟩ | ⟨g,c,cur,rfl,-,-,hnc,-⟩
 ·go_enter Tryz.func34,Tryz.ntmps34
  go_wp2_with (at_builtin; refine Lib.wpList_append_run _ rfl _ _ _ _ rfl _ _ rfl rfl _ _ r1 ?_)
  all_goals (go_ret; exact ⟨gg,cap,rfl,r2,r3⟩)
 ·go_enter Tryz.func34,Tryz.ntmps34
  go_wp2_with (at_builtin; refine Lib.wpList_append_run _ rfl _ _ _ _ rfl _ _ rfl rfl _ _ r1 ?_)
  all_goals (go_ret; exact ⟨gg,cap,rfl,r2,r3⟩)
end Go.Proofs.YtjamgiobipdfhaaGreatDoor
namespace Go.Proofs.YtjamgiobipdfhaaGreatDoor
open Go.RowKit Go.Lib
set_option linter.unusedVariables false
set_option linter.unusedSimpArgs false
theorem ins_at {α : Type} {es : List α} {y c : α} {i q : Nat} (hi : i ≤ es.length) (h : (es.take i ++ [y] ++ es.drop i)[q]? = some c) : (q < i ∧ es[q]? = some c) ∨ (q = i ∧ c = y) ∨ (i < q ∧ es[q - 1]? = some c) := by
 have hl : (es.take i).length = i := by simp; omega
 rcases Nat.lt_trichotomy q i with z | z | z
 ·rw [zC,List.getElem?_append_left (by omega),List.getElem?_take,if_pos z] at h
  exact .inl ⟨z,h⟩
 ·subst z
  rw [zC,List.getElem?_append_right (by omega),hl,Nat.sub_self] at h
  simp at h
  exact .inr (.inl ⟨rfl,h.symm⟩)
 ·rw [List.getElem?_append_right (by simp; omega)] at h
  rw [List.getElem?_drop] at h
  refine .inr (.inr ⟨z,?_⟩)
  rw [← h]
  congr 1
  simp; omega
theorem relRow_ins {F : Nat → Nat → Value → Prop} {sz i : Nat} {es : List (List D)} {xs news : List Value} {y : List D} (h : relRow F sz es xs) (hxl : xs.length = es.length * sz) (hi : i ≤ es.length) (hy : y.length = sz) (hn : news.length = sz) (hr : ∀ (j : Nat) (x : D),y[j]? = some x → ∃ u,news[j]? = some u ∧ relD F x u) :
  relRow F sz (es.take i ++ [y] ++ es.drop i) (xs.take (i * sz) ++ news ++ xs.drop (i * sz)) := by
 have him : i * sz ≤ xs.length := by rw [hxl]; exact zD _ hi
 have hl : (xs.take (i * sz)).length = i * sz := by simp; omega
 refine ⟨λq c hq=>?_,λq j c x hq hx=>?_⟩
 ·rcases ins_at hi hq with ⟨_,z⟩ | ⟨_,rfl⟩ | ⟨_,z⟩
  ·exact h.1 _ _ z
  ·exact hy
  ·exact h.1 _ _ z
 ·rcases ins_at hi hq with ⟨z,hz⟩ | ⟨rfl,rfl⟩ | ⟨z,hz⟩
  ·obtain ⟨u,u1,u2⟩ := h.2 q j c x hz hx
   have hj := getElem_lt hx
   rw [h.1 _ _ hz] at hj
   have hlt : q * sz + j < i * sz := by
    have := zD sz (show q + 1 ≤ i from z)
    rw [Nat.add_mul] at this; omega
   exact ⟨u,by rw [zC,List.getElem?_append_left (by omega),List.getElem?_take,if_pos hlt]; exact u1,u2⟩
  ·obtain ⟨u,u1,u2⟩ := hr j x hx
   have hj := getElem_lt u1
   exact ⟨u,by rw [zC,List.getElem?_append_right (by omega),hl,List.getElem?_append_left (by omega),show q * sz + j - q * sz = j by omega]; exact u1,u2⟩
  ·obtain ⟨u,u1,u2⟩ := h.2 (q - 1) j c x hz hx
   have e1 : q * sz = (q - 1) * sz + sz := by rw [← Nat.succ_mul]; congr 1; omega
   have e2 : i * sz ≤ (q - 1) * sz := zD _ (by omega)
   refine ⟨u,?_,u2⟩
   rw [List.getElem?_append_right (by simp; omega),List.getElem?_drop,← u1]
   congr 1
   simp; omega
theorem cell_row {w : World} {b o : Nat} {u : Value} (h : w.cell? ⟨b,o,none⟩ = some u) : ∃ c t z,w.heap[b]? = some (.cells c t z) ∧ c.size ≠ 0 := by
 unfold World.cell? at h
 split at h
 ·rename_i c t z hq
  refine ⟨c,t,z,hq,λq=>?_⟩
  have : c = #[] := Array.eq_empty_of_size_eq_zero q
  subst this
  simp at h
 all_goals simp at h
end Go.Proofs.YtjamgiobipdfhaaGreatDoor
namespace Go.Proofs.YtjamgiobipdfhaaGreatDoor
open Go.RowKit Go.Lib
set_option linter.unusedVariables false
set_option linter.unusedSimpArgs false
theorem specS_insE {s : Sg} {k n : Nat} {i : Int} {es : List (List D)} {y : List D} {R : V → Sg → Prop} (ho : s.obs[k]? = some [.rowc 65 n es]) (hi : i = (es.length : Int)) (hb : okLen (es.length + 1) = true) (hy : y.length = 2)
    (h : R (.gr k (n + 1)) ⟨s.obs.set k [.rowc 65 (n + 1) (es.take i.toNat ++ [y] ++ es.drop i.toNat)],s.lns⟩) : SpecS gP 34 [.gr k n,.d (.int .i64 i),.full [y]] s R := by
  refine ⟨by kernel_rfl,λw0 w G vs hH hr=>?_⟩
  match vs,hr with
  | [v,iv,x],hr =>
    obtain ⟨r1,hr⟩ := rels_cons_inv hr
    obtain ⟨r2,hr⟩ := rels_cons_inv hr
    obtain ⟨r3,_⟩ := rels_cons_inv hr
    have e0 := inv_int r2
    subst e0
    obtain ⟨m,rfl⟩ : ∃ m : Nat,i = (m : Int) := ⟨es.length,hi⟩
    rw [Int.toNat_natCast] at h
    have hm : m = es.length := by omega
    obtain ⟨L,xs,a1,a2,a3,a4,a5,a6⟩ := inv_gr hH r1 ho
    have hLs : L.sz = 2 := a4.trans (by kernel_rfl)
    have hb' := okLen_le hb
    have hzr := list_rel r3 (show (V.full [y]).list? = some [y] from rfl)
    obtain ⟨b,off,c,news,q1,n1,n2,n3,n4⟩ := list_news (sz := 2) (λb o v q=>(hH.fs b o v q).2) hzr (by simp) (by simp [hy])
    have n1' : news.length = 2 := by simpa using n1
    obtain ⟨y0,hy0⟩ : ∃ u,news[0]? = some u := ⟨_,List.getElem?_eq_getElem (by omega)⟩
    have hc0 := n2 0 y0 hy0
    rw [Addr.add_lit] at hc0
    obtain ⟨cA,tA,zA,hA,hA0⟩ := cell_row hc0
    have hbF : ∃ u,G.F b off u := by
      rw [q1] at hzr
      cases hzr with
      | list _ _ _ _ sz' u hne hcap hs hFc hr' =>
        have := hFc 0 0 y y[0] rfl (List.getElem?_eq_getElem (by omega))
        exact ⟨_,by simpa using this⟩
    subst a2
    rw [hLs] at a5 a6
    have hone : ∀ u ∈ xs,u.oneCell' = true := by
      intro u hu
      obtain ⟨q,hq,rfl⟩ := List.mem_iff_getElem.1 hu
      rw [a5.1] at hq
      have hi2 : q / 2 < es.length := by omega
      have he := List.getElem?_eq_getElem hi2
      have hel := a6.1 _ _ he
      have hj : q % 2 < (es[q / 2]).length := by omega
      obtain ⟨u',u1,u2⟩ := a6.2 _ _ _ _ he (List.getElem?_eq_getElem hj)
      rw [show q / 2 * 2 + q % 2 = q by omega,List.getElem?_eq_getElem (by rw [a5.1]; exact hq)] at u1
      injection u1 with u1
      rw [u1]
      exact relD_one u2
    have key : Calls Tryz.prog 34 ⟨[L.v,.int .i64 (m : Int),x]⟩ w λe w'=>∃ gg cap,e = .returned (.slice (some ⟨gg,0,none⟩) (es.length + 1) cap) ∧ w'.ownsRow w0.heap.size 65 2 (.slice (some ⟨gg,0,none⟩) (es.length + 1) cap) (es.length + 1) (xs.take (m * 2) ++ news ++ xs.drop (m * 2)) ∧ ((L.v.ownBlock = some gg ∧ w.grownBy w' (some gg)) ∨ (gg = w.heap.size ∧ Kp w w')) := by
      rw [q1]
      have hlen : (xs.take (m * 2) ++ news ++ xs.drop (m * 2)).length = (es.length + 1) * 2 := by
        have := a5.1
        simp [n1']; omega
      subst hm
      refine (ins_end w w0.heap.size es.length b off c L.v xs news a5 n1' n2 n3 hb' hH.kp.size).mono ?_
      rintro e w' ⟨gg,cap,rfl,o1,o2⟩
      refine ⟨gg,cap,rfl,?_,o2⟩
      rw [show es.length * 2 = xs.length from a5.1.symm,List.take_length,List.drop_length,List.append_nil]
      exact o1
    refine key.mono ?_
    rintro e w' ⟨gg,cap,rfl,o1,o2⟩
    have hlen : (es.take m ++ [y] ++ es.drop m).length = es.length + 1 := by simp; omega
    have hrow : relRow G.F 2 (es.take m ++ [y] ++ es.drop m) (xs.take (m * 2) ++ news ++ xs.drop (m * 2)) := relRow_ins a6 a5.1 (Nat.le_of_eq hm) hy n1' (λj x hx=>by
      obtain ⟨u,u1,u2⟩ := n4 0 j y x rfl hx
      exact ⟨u,by simpa using u1,u2⟩)
    subst a3
    have hob : s.obs[k]? = some [.rowc 65 L.n es] := ho
    rw [← hLs] at o1 hrow
    rw [← hlen] at o1
    obtain ⟨hle,hN⟩ := hH.growRow a1 hob o2 o1 hrow
    rw [sg_set hob] at hN
    have hN' : HR Tryz.prog w0 w' _ ⟨s.obs.set k [.rowc 65 (L.n + 1) (es.take m ++ [y] ++ es.drop m)],s.lns⟩ := hN
    exact ⟨_,.gr k (L.n + 1),_,_,rfl,hle,hN',.gr k (L.n + 1) _ rfl _ (upd_same _ _ _) (.inl ⟨rfl,by rw [hlen]⟩),h⟩
  | [],hr=>have := hr.1; simp at this
  | [_],hr=>have := hr.1; simp at this
  | [_,_],hr=>have := hr.1; simp at this
  | _ :: _ :: _ :: _ :: _,hr=>have := hr.1; simp at this
theorem specS_insE_TableLength {X : Type} (enc : X → List D) (l : List X) (y : X) {s : Sg} {k n : Nat} {i : Int} {R : V → Sg → Prop} (ho : s.obs[k]? = some [.rowc 65 n (l.map enc)]) (hi : i = (l.length : Int)) (hb : okLen (l.length + 1) = true) (hy : (enc y).length = 2)
  (h : R (.gr k (n + 1)) ⟨s.obs.set k [.rowc 65 (n + 1) ((l.take (Int.toNat i) ++ [y] ++ l.drop (Int.toNat i)).map enc)],s.lns⟩) : SpecS gP 34 [.gr k n,.d (.int .i64 i),.full [enc y]] s R :=
 specS_insE ho (by simpa using hi) (by simpa using hb) hy (by simpa only [List.map_append,List.map_take,List.map_drop,List.map_cons,List.map_nil] using h)
end Go.Proofs.YtjamgiobipdfhaaGreatDoor
