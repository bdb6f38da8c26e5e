import Derived.Test.YtnnelopkjdgbgaaDoorImb
import Derived.Test.YtnnelopkjdgbgaaDoorTy
import Derived.Lib.AppendZerosOnto
import Derived.Laws.CopyRow
import Derived.Laws.NewBlocks
import Derived.Laws.Externs
import Derived.Shelf.Spec.SlicesInsert
namespace Go.Proofs.YtnnelopkjdgbgaaDoor
open Go.RowKit Go.Lib
set_option linter.unusedVariables false
set_option linter.unusedSimpArgs false
theorem ins_at {α : Type} {es : List α} {y c : α} {i q : Nat} (hi : i ≤ es.length) (h : (es.take i ++ [y] ++ es.drop i)[q]? = some c) : (q < i ∧ es[q]? = some c) ∨ (q = i ∧ c = y) ∨ (i < q ∧ es[q - 1]? = some c) := by
 have hl : (es.take i).length = i := by simp; omega
 rcases Nat.lt_trichotomy q i with z | z | z
 ·rw [List.append_assoc,List.getElem?_append_left (by omega),List.getElem?_take,if_pos z] at h
  exact .inl ⟨z,h⟩
 ·subst z
  rw [List.append_assoc,List.getElem?_append_right (by omega),hl,Nat.sub_self] at h
  simp at h
  exact .inr (.inl ⟨rfl,h.symm⟩)
 ·rw [List.getElem?_append_right (by simp; omega)] at h
  rw [List.getElem?_drop] at h
  refine .inr (.inr ⟨z,?_⟩)
  rw [← h]
  congr 1
  simp; omega
theorem relRow_ins {F : Nat → Nat → Value → Prop} {sz i : Nat} {es : List (List D)} {xs news : List Value} {y : List D} (h : relRow F sz es xs) (hxl : xs.length = es.length * sz) (hi : i ≤ es.length) (hy : y.length = sz) (hn : news.length = sz) (hr : ∀ (j : Nat) (x : D),y[j]? = some x → ∃ u,news[j]? = some u ∧ relD F x u) :
  relRow F sz (es.take i ++ [y] ++ es.drop i) (xs.take (i * sz) ++ news ++ xs.drop (i * sz)) := by
 have him : i * sz ≤ xs.length := by rw [hxl]; exact Nat.mul_le_mul_right _ hi
 have hl : (xs.take (i * sz)).length = i * sz := by simp; omega
 refine ⟨fun q c hq=>?_,fun q j c x hq hx=>?_⟩
 ·rcases ins_at hi hq with ⟨_,z⟩ | ⟨_,rfl⟩ | ⟨_,z⟩
  ·exact h.1 _ _ z
  ·exact hy
  ·exact h.1 _ _ z
 ·rcases ins_at hi hq with ⟨z,hz⟩ | ⟨rfl,rfl⟩ | ⟨z,hz⟩
  ·obtain ⟨u,u1,u2⟩ := h.2 q j c x hz hx
   have hj := getElem_lt hx
   rw [h.1 _ _ hz] at hj
   have hlt : q * sz + j < i * sz := by
    have := Nat.mul_le_mul_right sz (show q + 1 ≤ i from z)
    rw [Nat.add_mul] at this; omega
   exact ⟨u,by rw [List.append_assoc,List.getElem?_append_left (by omega),List.getElem?_take,if_pos hlt]; exact u1,u2⟩
  ·obtain ⟨u,u1,u2⟩ := hr j x hx
   have hj := getElem_lt u1
   exact ⟨u,by rw [List.append_assoc,List.getElem?_append_right (by omega),hl,List.getElem?_append_left (by omega),show q * sz + j - q * sz = j by omega]; exact u1,u2⟩
  ·obtain ⟨u,u1,u2⟩ := h.2 (q - 1) j c x hz hx
   have e1 : q * sz = (q - 1) * sz + sz := by rw [← Nat.succ_mul]; congr 1; omega
   have e2 : i * sz ≤ (q - 1) * sz := Nat.mul_le_mul_right _ (by omega)
   refine ⟨u,?_,u2⟩
   rw [List.getElem?_append_right (by simp; omega),List.getElem?_drop,← u1]
   congr 1
   simp; omega
theorem cell_row {w : World} {b o : Nat} {u : Value} (h : w.cell? ⟨b,o,none⟩ = some u) : ∃ c t z,w.heap[b]? = some (.cells c t z) ∧ c.size ≠ 0 := by
 unfold World.cell? at h
 split at h
 ·rename_i c t z hq
  refine ⟨c,t,z,hq,fun q=>?_⟩
  have : c = #[] := Array.eq_empty_of_size_eq_zero q
  subst this
  simp at h
 all_goals simp at h
theorem specS_ins {s : Sg} {k n : Nat} {i : Int} {es : List (List D)} {y : List D} {R : V → Sg → Prop} (ho : s.obs[k]? = some [.rowc 41 n es]) (h0 : 0 ≤ i) (hi : i ≤ (es.length : Int)) (hb : okLen (es.length + 1) = true) (hy : y.length = 3)
    (h : R (.gr k (n + 1)) ⟨s.obs.set k [.rowc 41 (n + 1) (es.take i.toNat ++ [y] ++ es.drop i.toNat)],s.lns⟩) : SpecS gP 10 [.gr k n,.d (.int .i64 i),.full [y]] s R := by
  refine ⟨by kernel_rfl,fun w0 w G vs hH hr=>?_⟩
  match vs,hr with
  | [v,iv,x],hr =>
    obtain ⟨r1,hr⟩ := rels_cons_inv hr
    obtain ⟨r2,hr⟩ := rels_cons_inv hr
    obtain ⟨r3,_⟩ := rels_cons_inv hr
    have e0 := inv_int r2
    subst e0
    obtain ⟨m,rfl⟩ : ∃ m : Nat,i = (m : Int) := ⟨i.toNat,by omega⟩
    rw [Int.toNat_natCast] at h
    have hm : m ≤ es.length := by omega
    obtain ⟨L,xs,a1,a2,a3,a4,a5,a6⟩ := inv_gr hH r1 ho
    have hLs : L.sz = 3 := a4.trans (by kernel_rfl)
    have hb' := okLen_le hb
    have hzr := list_rel r3 (show (V.full [y]).list? = some [y] from rfl)
    obtain ⟨b,off,c,news,q1,n1,n2,n3,n4⟩ := list_news (sz := 3) (fun b o v q=>(hH.fs b o v q).2) hzr (by simp) (by simp [hy])
    have n1' : news.length = 3 := by simpa using n1
    obtain ⟨y0,hy0⟩ : ∃ u,news[0]? = some u := ⟨_,List.getElem?_eq_getElem (by omega)⟩
    have hc0 := n2 0 y0 hy0
    rw [Addr.add_lit] at hc0
    obtain ⟨cA,tA,zA,hA,hA0⟩ := cell_row hc0
    have hbF : ∃ u,G.F b off u := by
      rw [q1] at hzr
      cases hzr with
      | list _ _ _ _ sz' u hne hcap hs hFc hr' =>
        have := hFc 0 0 y y[0] rfl (List.getElem?_eq_getElem (by omega))
        exact ⟨_,by simpa using this⟩
    subst a2
    rw [hLs] at a5 a6
    have hone : ∀ u ∈ xs,u.oneCell' = true := by
      intro u hu
      obtain ⟨q,hq,rfl⟩ := List.mem_iff_getElem.1 hu
      rw [a5.1] at hq
      have hi2 : q / 3 < es.length := by omega
      have he := List.getElem?_eq_getElem hi2
      have hel := a6.1 _ _ he
      have hj : q % 3 < (es[q / 3]).length := by omega
      obtain ⟨u',u1,u2⟩ := a6.2 _ _ _ _ he (List.getElem?_eq_getElem hj)
      rw [show q / 3 * 3 + q % 3 = q by omega,List.getElem?_eq_getElem (by rw [a5.1]; exact hq)] at u1
      injection u1 with u1
      rw [u1]
      exact relD_one u2
    have key : Calls Tryd.prog 10 ⟨[L.v,.int .i64 (m : Int),x]⟩ w fun e w'=>∃ gg cap,e = .returned (.slice (some ⟨gg,0,none⟩) (es.length + 1) cap) ∧ w'.ownsRow w0.heap.size 41 3 (.slice (some ⟨gg,0,none⟩) (es.length + 1) cap) (es.length + 1) (xs.take (m * 3) ++ news ++ xs.drop (m * 3)) ∧ ((L.v.ownBlock = some gg ∧ w.grownBy w' (some gg)) ∨ (gg = w.heap.size ∧ Kp w w')) := by
      rw [q1]
      have hlen : (xs.take (m * 3) ++ news ++ xs.drop (m * 3)).length = (es.length + 1) * 3 := by
        have := a5.1
        simp [n1']; omega
      rcases Nat.lt_or_ge m es.length with hlt | hge
      · rcases a5.2 with ⟨_,z⟩ | ⟨g,cap,cur,hv,hbg,hg,hnc,hcm,hcs,htake⟩
        · omega
        · have hvb : b ≠ g := by
            obtain ⟨e',es',xs',_,_,_,_,_,hz⟩ := hH.rvl k L a1
            obtain ⟨u,hu⟩ := hbF
            intro e
            subst e
            exact (hz b (by rw [hv]; rfl)).2.1 _ _ hu
          rw [hv]
          rcases Nat.lt_or_ge es.length cap with hroom | hroom
          · refine (ins_room w g es.length cap m b off c cur news hg hlt hroom hcm hcs n1' n2 n3 (by rw [htake]; exact hone) hvb hA hA0).mono ?_
            rintro e w' ⟨rfl,rfl⟩
            have hx1 : (cur.toList.take (es.length * 3)).drop (m * 3) = xs.drop (m * 3) := by rw [htake]
            have hx2 : cur.toList.take (m * 3) = xs.take (m * 3) := by rw [← htake,List.take_take]; congr 1; omega
            refine ⟨g,cap,rfl,⟨hlen,.inr ⟨g,cap,_,rfl,hbg,setRow_heap w.drew g cur _ _ (0,0) hg,hroom,hcm,?_,?_⟩⟩,.inl ⟨rfl,⟨rfl,rfl,rfl,(Nat.le_of_eq (setRow_size w.drew g _).symm),fun j _ hj=>setRow_other w.drew g j _ (fun e=>hj (by simp [e]))⟩⟩⟩
            · rw [hx1,hx2]
              simp only [List.size_toArray,List.length_append,List.length_drop,Array.length_toList,hcs]
              have := a5.1
              simp [n1']; omega
            · rw [hx1,hx2]
              simp only [List.toList_toArray]
              rw [← hlen,List.take_left]
          · obtain rfl : cap = es.length := by omega
            have hfull : cur.toList = xs := by rw [← htake,List.take_of_length_le (by simp [hcs])]
            refine (ins_grow w g es.length m b off c cur news hg hlt hcs hb' n1' n2 n3 (by rw [hfull]; exact hone)).mono ?_
            rintro e w' ⟨cap',R',rfl,c1,c2,c3,c4,rfl⟩
            rw [hfull] at c4
            refine ⟨_,cap',rfl,⟨hlen,.inr ⟨_,cap',R',rfl,hH.kp.size,heap_alloc_new w _,c1,c2,c3,c4⟩⟩,.inr ⟨rfl,((Kp.refl w).alloc _).drew.drew⟩⟩
      · obtain rfl : m = es.length := by omega
        refine (ins_end w w0.heap.size es.length b off c L.v xs news a5 n1' n2 n3 hb' hH.kp.size).mono ?_
        rintro e w' ⟨gg,cap,rfl,o1,o2⟩
        refine ⟨gg,cap,rfl,?_,o2⟩
        rw [show es.length * 3 = xs.length from a5.1.symm,List.take_length,List.drop_length,List.append_nil]
        exact o1
    refine key.mono ?_
    rintro e w' ⟨gg,cap,rfl,o1,o2⟩
    have hlen : (es.take m ++ [y] ++ es.drop m).length = es.length + 1 := by simp; omega
    have hrow : relRow G.F 3 (es.take m ++ [y] ++ es.drop m) (xs.take (m * 3) ++ news ++ xs.drop (m * 3)) := relRow_ins a6 a5.1 hm hy n1' (fun j x hx=>by
      obtain ⟨u,u1,u2⟩ := n4 0 j y x rfl hx
      exact ⟨u,by simpa using u1,u2⟩)
    subst a3
    have hob : s.obs[k]? = some [.rowc 41 L.n es] := ho
    rw [← hLs] at o1 hrow
    rw [← hlen] at o1
    obtain ⟨hle,hN⟩ := hH.growRow a1 hob o2 o1 hrow
    rw [sg_set hob] at hN
    have hN' : HR Tryd.prog w0 w' _ ⟨s.obs.set k [.rowc 41 (L.n + 1) (es.take m ++ [y] ++ es.drop m)],s.lns⟩ := hN
    exact ⟨_,.gr k (L.n + 1),_,_,rfl,hle,hN',.gr k (L.n + 1) _ rfl _ (upd_same _ _ _) (.inl ⟨rfl,by rw [hlen]⟩),h⟩
  | [],hr=>have := hr.1; simp at this
  | [_],hr=>have := hr.1; simp at this
  | [_,_],hr=>have := hr.1; simp at this
  | _ :: _ :: _ :: _ :: _,hr=>have := hr.1; simp at this
theorem specS_ins_ApiBlock {X : Type} (enc : X → List D) (l : List X) (y : X) {s : Sg} {k n : Nat} {i : Int} {R : V → Sg → Prop} (ho : s.obs[k]? = some [.rowc 41 n (l.map enc)]) (h0 : 0 ≤ i) (hi : i ≤ (l.length : Int)) (hb : okLen (l.length + 1) = true) (hy : (enc y).length = 3)
  (h : R (.gr k (n + 1)) ⟨s.obs.set k [.rowc 41 (n + 1) ((l.take (Int.toNat i) ++ [y] ++ l.drop (Int.toNat i)).map enc)],s.lns⟩) : SpecS gP 10 [.gr k n,.d (.int .i64 i),.full [enc y]] s R :=
 specS_ins ho h0 (by simpa using hi) (by simpa using hb) hy (by simpa only [List.map_append,List.map_take,List.map_drop,List.map_cons,List.map_nil] using h)
end Go.Proofs.YtnnelopkjdgbgaaDoor
