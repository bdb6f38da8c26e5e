/-
  Sv, Sw in one text.
-/
import Derived.Test.YtjgngikiglhleaaGreatDoorSu
import Derived.Laws.MakeOwn
import Derived.Laws.OwnMore
import Derived.Lib.AppendStr
import Derived.Lib.UnsafeStr
namespace Go.Proofs.YtjgngikiglhleaaGreatDoor
open Go.RowKit
set_option linter.unusedVariables false
set_option linter.unusedSimpArgs false
section
variable {P : Program} {g : Pg P} {d : Option Tmp} {t ty : TypeId} {p : String} {af : Array Edge} {gd : Option (Nat × Bool)} {fr : Fr} {s : Sg} {R : V → Sg → Prop}
theorem inv_gs {w0 w : World} {G : Cx} {k n off len : Nat} {v : Value} {e : TypeId} {es : List (List D)} (hH : HR P w0 w G s) (r : rel G (.gs k n off len) v) (ho : s.obs[k]? = some [.rowc e n es]) :
  ∃ L A c,G.rv k = some L ∧ L.n = n ∧ L.sz = P.cellsOf e ∧ v = .slice A len c ∧ len ≤ c ∧ (len ≠ 0 → ∃ b,L.v.ownBlock = some b ∧ A = some ⟨b,off * L.sz,none⟩) := by
 cases r with
 | gs _ _ _ _ _ h1 L hL hl =>
  obtain ⟨e',es',xs,a1,a2,a3,a4,a5,a6⟩ := hH.rvl k L hL
  have a1' : s.obs[k]? = some [.rowc e' L.n es'] := a1
  rw [ho] at a1'; injection a1' with a1'; injection a1' with a1' _; injection a1' with e1 e2 e3; subst e1; subst e3
  rcases hl with ⟨q1,q2⟩ | q
  ·rcases q2 with ⟨b,c,z1,z2,z3⟩ | ⟨z1,A,c,z2⟩
   ·exact ⟨L,_,c,hL,q1.symm,a2,z2,z3,fun _=>⟨b,z1,rfl⟩⟩
   ·subst z1; exact ⟨L,A,c,hL,q1.symm,a2,z2,Nat.zero_le _,fun q=>absurd rfl q⟩
  ·omega
theorem gs_of_gr {w0 w : World} {G : Cx} {k n : Nat} {v : Value} {e : TypeId} {es : List (List D)} (hH : HR P w0 w G s) (r : rel G (.gr k n) v) (ho : s.obs[k]? = some [.rowc e n es]) : rel G (.gs k n 0 es.length) v := by
 obtain ⟨L,xs,a1,a2,a3,a4,a5,a6⟩ := inv_gr hH r ho
 subst a2
 rcases a5.2 with ⟨h1,h2⟩ | ⟨b,cap,cur,h1,_,_,h2,_⟩
 ·exact .gs k n 0 _ _ (by rw [h1]; rfl) L a1 (.inl ⟨a3.symm,.inr ⟨h2,none,0,h1⟩⟩)
 ·exact .gs k n 0 _ _ (by rw [h1]; rfl) L a1 (.inl ⟨a3.symm,.inl ⟨b,cap,by rw [h1]; rfl,by rw [h1,Nat.zero_mul],h2⟩⟩)
theorem rel_gs {G : Cx} {k n off len : Nat} {A : Option Addr} {c : Nat} {L : Lv} (hL : G.rv k = some L) (hn : L.n = n) (hc : len ≤ c) (h : len ≠ 0 → ∃ b,L.v.ownBlock = some b ∧ A = some ⟨b,off * L.sz,none⟩) : rel G (.gs k n off len) (.slice A len c) := by
 by_cases h0 : len = 0
 ·subst h0; exact .gs k n off 0 _ rfl L hL (.inl ⟨hn.symm,.inr ⟨rfl,A,c,rfl⟩⟩)
 ·obtain ⟨b,h1,h2⟩ := h h0
  exact .gs k n off len _ rfl L hL (.inl ⟨hn.symm,.inl ⟨b,c,h1,by rw [h2],hc⟩⟩)
theorem size_of {e : TypeId} {sz : Nat} (hs : sizeT P e = some sz) : P.cellsOf e = sz := by
 simp only [sizeT,Option.map_eq_some_iff] at hs
 obtain ⟨i,h1,h2⟩ := hs
 simp [Program.cellsOf,h1,h2]
theorem slice_gs {x : Operand} {lo hi : Option Operand} {k n off len l h sz : Nat} {e : TypeId} {es : List (List D)} (hx : ∀ (w0 w : World) (G : Cx) (a : Act),HR P w0 w G s → FR G fr a → rel G (.gs k n off len) (a.eval x)) (ho : s.obs[k]? = some [.rowc e n es]) (ht : P.underlying t = some (.slice e)) (hs : sizeT P e = some sz)
  (hl : bnd 0 (lo.map (evalO fr)) = some l) (hh : bnd len (hi.map (evalO fr)) = some h) (h1 : l ≤ h) (h2 : h ≤ len) (K : R (.gs k n (off + l) (h - l)) s) : altR g ⟨d,.slice t x lo hi none,ty,p,af,gd⟩ fr s R := by
 intro w0 w G a hH hfr
 obtain ⟨L,A,c,a1,a2,a3,hv,hc,a4⟩ := inv_gs hH (hx w0 w G a hH hfr) ho
 have hsz : L.sz = sz := a3.trans (size_of hs)
 have hb := run_bounds (P := P) (len := len) (cap := c) (m := c) (mx := none) (vm := none) (relO_map hfr lo) (relO_map hfr hi) trivial rfl hh hl (Nat.le_refl _) (by omega) h1 (by simp) true w
 refine ⟨.value (.slice (if c = l then A else A.map (·.add (l * sz))) (h - l) (c - l)),w,_,s,G,?_,.inl ⟨_,rfl,rel_gs a1 a2 (by omega) fun q=>?_⟩,Cx.le.refl G,hH,K⟩
 ·simp only [execOp,hv,Instr.sliceAt,Instr.slice,Sem.run_bind,run_underlying ht,Result.andThen_ok,hb,run_size hs,Sem.run_pure,Option.map_none]
 ·obtain ⟨b,q1,q2⟩ := a4 (by omega)
  refine ⟨b,q1,?_⟩
  rw [if_neg (by omega),q2]
  simp [Addr.add_lit,Nat.add_mul,hsz]
theorem alt_sliceR {x : Operand} {lo hi : Option Operand} {k n l h sz : Nat} {e : TypeId} {es : List (List D)} (hx : evalO fr x = .gr k n) (ho : s.obs[k]? = some [.rowc e n es]) (ht : P.underlying t = some (.slice e)) (hs : sizeT P e = some sz)
  (hl : bnd 0 (lo.map (evalO fr)) = some l) (hh : bnd es.length (hi.map (evalO fr)) = some h) (h1 : l ≤ h) (h2 : h ≤ es.length) (K : R (.gs k n (0 + l) (h - l)) s) : altR g ⟨d,.slice t x lo hi none,ty,p,af,gd⟩ fr s R :=
 slice_gs (fun w0 w G a hH hfr=>gs_of_gr hH (hx ▸ evalO_rel hfr x) ho) ho ht hs hl hh h1 h2 K
theorem appT_parts {tt e : TypeId} {sz : Nat} (h : appT P tt = some (e,sz)) : ∃ i z,P.underlying tt = some (.slice e) ∧ P.info? e = some i ∧ i.zero = some z ∧ z.cells.size = sz ∧ i.size = sz ∧ 0 < sz ∧ i.bytes ≤ 8000000 := by
 unfold appT at h
 split at h
 ·rename_i e' hu
  split at h
  ·rename_i i hi
   split at h
   ·rename_i z hz
    split at h
    ·rename_i hc
     injection h with h; injection h with h1 h2; subst h1; subst h2
     exact ⟨i,z,hu,hi,hz,hc.1,rfl,hc.2.1,hc.2.2⟩
    ·cases h
   ·cases h
  ·cases h
 ·cases h
end
end Go.Proofs.YtjgngikiglhleaaGreatDoor
namespace Go.Proofs.YtjgngikiglhleaaGreatDoor
open Go.RowKit
set_option linter.unusedVariables false
set_option linter.unusedSimpArgs false
def byteE (b : UInt8) : List D := [.int .u8 (b.toNat : Int)]
theorem byte_len (l : List UInt8) : (Lib.byteCells l).length = l.length := by simp [Lib.byteCells]
section
variable {P : Program}
theorem run_append_str (w : World) (t u ty e : TypeId) (i : TypeInfo) (base : Nat) (ht : P.underlying t = some (.slice e)) (hu : P.underlying u = some .string) (hi : P.info? e = some i) (hz : i.zero = some (.int .u8 0)) (hsize : i.size = 1) (hby : i.bytes = 1)
  (v : Value) (n : Nat) (xs : List Value) (hown : w.ownsRow base e 1 v n xs) (s : List UInt8) (hm : 0 < s.length) (hb : n + s.length ≤ 16777216) (hbase : base ≤ w.heap.size) :
  ∃ gg cap w',(Builtin.append_ #[t,u] ty #[v,.string ⟨s.toArray⟩]).run P w = .ok (.slice (some ⟨gg,0,none⟩) (n + s.length) cap) w' ∧
   w'.ownsRow base e 1 (.slice (some ⟨gg,0,none⟩) (n + s.length) cap) (n + s.length) (xs ++ Lib.byteCells s) ∧ ((v.ownBlock = some gg ∧ w.grownBy w' (some gg)) ∨ (gg = w.heap.size ∧ Kp w w')) := by
 have h63 : n + s.length ≤ maxLen := by unfold maxLen; omega
 have hss : (⟨s.toArray⟩ : ByteArray).size = s.length := rfl
 have hsc : Lib.strCells ⟨s.toArray⟩ = Lib.byteCells s := rfl
 have hxl : xs.length = n := by simpa using hown.1
 have hlen : (xs ++ Lib.byteCells s).length = (n + s.length) * 1 := by rw [List.length_append,hxl,byte_len,Nat.mul_one]
 have grown : ∀ (old : Nat),old < n + s.length →
   (w.drew.alloc (.cells (xs.toArray ++ (Lib.byteCells s).toArray ++ Builtin.zeroCells (Value.int .u8 0).cells (grownCap w (n + s.length) old e - (n + s.length))) e)).ownsRow base e 1
    (.slice (some ⟨w.heap.size,0,none⟩) (n + s.length) (grownCap w (n + s.length) old e)) (n + s.length) (xs ++ Lib.byteCells s) := by
  intro old ho
  have hge := grownCap_ge w (n + s.length) old e
  have hcm : grownCap w (n + s.length) old e ≤ maxLen := grownCap_le_maxLen w (n + s.length) old e h63
  refine ⟨hlen,.inr ⟨w.heap.size,_,_,rfl,hbase,heap_alloc_new w.drew _,hge,hcm,?_,?_⟩⟩
  ·have hz1 : (Value.int IntKind.u8 0).cells.size = 1 := rfl
   simp only [Array.size_append,List.size_toArray,size_zeroCells,hz1,hxl,byte_len]
   omega
  ·simp only [Array.toList_append,List.append_assoc]
   rw [← List.append_assoc,← hlen]
   exact List.take_left
 rcases hown.2 with ⟨rfl,rfl⟩ | ⟨g,cap,cur,rfl,hbg,hg,hnc,hcm,hcs,htake⟩
 ·have hx : xs = [] := List.eq_nil_of_length_eq_zero hxl
  subst hx
  have hr := run_append_nil_string (P := P) w t u ty e i (.int .u8 0) ht hu hi hz ⟨s.toArray⟩ (by rw [hss]; omega) (by rw [hss]; omega) (by rw [hby,hss]; omega)
  have hgr := grown 0 (by omega)
  simp only [Nat.zero_add,List.nil_append,Array.empty_append] at hgr ⊢
  have e1 : ((⟨s.toArray⟩ : ByteArray).data.map fun b=>Value.int .u8 b.toNat) = (Lib.byteCells s).toArray := by
   apply Array.ext'
   simp [Lib.byteCells]
  rw [e1,hss] at hr
  exact ⟨_,_,_,hr,hgr,.inr ⟨rfl,((Kp.refl w).drew).alloc _⟩⟩
 ·by_cases hroom : n + s.length ≤ cap
  ·have hcs' : cur.size = cap := by simpa using hcs
   have hr := Lib.run_append_room_string (P := P) w t u ty e i ht hu hi hsize g n cap cur hg ⟨s.toArray⟩ hroom (by rw [hss]; omega)
   rw [hss,hsc] at hr
   refine ⟨_,_,_,hr,⟨hlen,.inr ⟨g,cap,_,rfl,hbg,setRow_heap w g cur _ e _ hg,hroom,hcm,?_,?_⟩⟩,.inl ⟨rfl,⟨rfl,rfl,rfl,by simp,fun k _ hk=>setRow_other w g k _ (fun e=>hk (by simp [e]))⟩⟩⟩
   ·simp only [List.size_toArray,List.length_append,List.length_take,List.length_drop,Array.length_toList,byte_len]
    omega
   ·have ht' : cur.toList.take n = xs := by simpa using htake
    rw [ht',← hlen]
    exact List.take_left
  ·have hh : ∀ j u,xs[j]? = some u → w.cell? ((⟨g,0,none⟩ : Addr).add j) = some u := hown.cells (g := g) rfl
   have hr := Lib.run_append_grow_string (P := P) w t u ty e i (.int .u8 0) ht hu hi hz ⟨g,0,none⟩ n cap xs (by rw [hsize]; simpa using hxl) hh ⟨s.toArray⟩ (by rw [hss]; omega) (by rw [hss]; omega) (by rw [hby,hss]; exact growslice_fits (by omega) (by omega))
   rw [hss,hsc] at hr
   have hgr := grown cap (by omega)
   exact ⟨_,_,_,hr,hgr,.inr ⟨rfl,((Kp.refl w).drew).alloc _⟩⟩
theorem run_append_str0 (w : World) (t u ty e : TypeId) (i : TypeInfo) (ht : P.underlying t = some (.slice e)) (hu : P.underlying u = some .string) (hi : P.info? e = some i) (A : Option Addr) (n c : Nat) (hn : n ≤ c) :
  (Builtin.append_ #[t,u] ty #[.slice A n c,.string ⟨#[]⟩]).run P w = .ok (.slice A n c) w := by
 have hf := Lib.run_firstCells_string (P := P) w i.size ⟨#[]⟩
 have hz : (⟨#[]⟩ : ByteArray).size = 0 := rfl
 have hs : Lib.strCells ⟨#[]⟩ = [] := rfl
 rw [hz,hs] at hf
 cases A <;> simp [Builtin.append_,run_underlying ht,run_underlying hu,sizeOf,typeInfo,hi,Builtin.lenOf,hz,hf,storeCells,hn]
def byteT (P : Program) (t : TypeId) : Option TypeId :=
 match P.underlying t with
 | some (.slice e)=>match P.info? e with
  | some i=>match i.zero with
   | some (.int .u8 0)=>if i.size = 1 ∧ i.bytes = 1 then some e else none
   | _=>none
  | none=>none
 | _=>none
theorem byteT_parts {t e : TypeId} (h : byteT P t = some e) : ∃ i,P.underlying t = some (.slice e) ∧ P.info? e = some i ∧ i.zero = some (.int .u8 0) ∧ i.size = 1 ∧ i.bytes = 1 := by
 unfold byteT at h
 split at h
 ·rename_i e' hu
  split at h
  ·rename_i i hi
   split at h
   ·rename_i hz
    split at h
    ·rename_i hc
     injection h with h; subst h
     exact ⟨i,hu,hi,hz,hc.1,hc.2⟩
    ·cases h
   ·cases h
  ·cases h
 ·cases h
theorem app_str {w0 w : World} {G : Cx} {obs : Nat → Option (List V)} {lns : Nat → Option (TypeId × Nat)} (h : HRp P w0 w G obs lns) {t : Nat} {ty tt ut e : TypeId} {es : List (List D)} {s : List UInt8} {v : Value} (ht : byteT P tt = some e) (hut : P.underlying ut = some .string) (hl : lns t = some (e,es.length))
  (r : rel G (.own t es) v) (hb : es.length + s.length ≤ 16777216) :
  ∃ u w' G',(Builtin.append_ #[tt,ut] ty #[v,.string ⟨s.toArray⟩]).run P w = .ok u w' ∧ G.le G' ∧ HRp P w0 w' G' obs (upd lns t (e,es.length + s.length)) ∧ rel G' (.own t (es ++ s.map byteE)) u := by
 have hF := fun b o v q=>(h.fs b o v q).2
 obtain ⟨i,hu,hi,hz,hsz1,hby⟩ := byteT_parts ht
 obtain ⟨v0,xs,g1,g2,g3⟩ := h.lvl t e es.length hl
 have hce : P.cellsOf e = 1 := by simp [Program.cellsOf,hi,hsz1]
 cases r with
 | own _ _ _ q L hL hs hlast =>
  rw [g1] at hL; injection hL with hL; subst hL
  simp only at hs hlast
  have hv : v = v0 := by rcases hlast with q | q; exact q.2; omega
  subst hv
  have g2 := g2.resolve_left (by rintro rfl; cases q)
  by_cases hy : s.length = 0
  ·have : s = [] := List.eq_nil_of_length_eq_zero hy
   subst this
   obtain ⟨A,c,rfl⟩ := own_slice g2
   have hn : es.length ≤ c := by
    rcases g2.2 with ⟨h1,h2⟩ | ⟨g,cap,cur,h1,_,_,h3,_⟩
    ·omega
    ·injection h1 with _ _ h1; omega
   refine ⟨_,w,G,run_append_str0 w tt ut ty e i hu hut hi A es.length c hn,Cx.le.refl G,?_,?_⟩
   ·have : upd lns t (e,es.length + ([] : List UInt8).length) = lns := by
     funext j
     by_cases ej : j = t
     ·subst ej; rw [upd_same]; simp [hl]
     ·rw [upd_ne _ _ ej]
    rw [this]; exact h
   ·rw [List.map_nil,List.append_nil]
    exact .own t es _ q _ g1 hs (.inl ⟨rfl,rfl⟩)
  ·rw [hce] at g2
   obtain ⟨gg,cap,w',a1,a2,a3⟩ := run_append_str (P := P) w tt ut ty e i w0.heap.size hu hut hi hz hsz1 hby v es.length xs g2 s (by omega) hb h.kp.size
   rw [← hce] at g2 a2
   obtain ⟨hle,hH⟩ := h.app hl g1 g2 a2 (by omega) a3
   refine ⟨_,w',_,a1,hle,hH,?_⟩
   have hcap : es.length + s.length ≤ cap := by
    rcases a2.2 with ⟨h1,h2⟩ | ⟨g,cap',cur,h1,_,_,h3,_⟩
    ·cases h1
    ·injection h1 with _ _ h1; omega
   have hlen : (es ++ s.map byteE).length = es.length + s.length := by simp
   have hcl : ∀ (k : Nat) (c : List D),(es ++ s.map byteE)[k]? = some c → c.length = P.cellsOf e := by
    intro k c hk
    rcases Nat.lt_or_ge k es.length with hlt | hge
    ·rw [List.getElem?_append_left hlt] at hk; exact hs _ _ hk
    ·rw [List.getElem?_append_right hge,List.getElem?_map] at hk
     cases hq : s[k - es.length]? with
     | none=>rw [hq] at hk; cases hk
     | some b=>rw [hq] at hk; injection hk with hk; rw [← hk,hce]; rfl
   have hval : ∀ (k j : Nat) (c : List D) (x : D),(es ++ s.map byteE)[k]? = some c → c[j]? = some x → ∃ u,(xs ++ Lib.byteCells s)[k * P.cellsOf e + j]? = some u ∧ relD G.F x u := by
    intro k j c x hk hx
    have hj : j < P.cellsOf e := by have := getElem_lt hx; have := hcl k c hk; omega
    rcases Nat.lt_or_ge k es.length with hlt | hge
    ·rw [List.getElem?_append_left hlt] at hk
     obtain ⟨u,u1,u2⟩ := own_xs hF q g2 hs k j c x hk hx
     exact ⟨u,by rw [List.getElem?_append_left (getElem_lt u1)]; exact u1,u2⟩
    ·rw [List.getElem?_append_right hge,List.getElem?_map] at hk
     cases hq : s[k - es.length]? with
     | none=>rw [hq] at hk; cases hk
     | some b =>
      rw [hq] at hk; injection hk with hk; subst hk
      have hj0 : j = 0 := by rw [hce] at hj; omega
      subst hj0
      simp only [byteE,List.getElem?_cons_zero] at hx
      injection hx with hx; subst hx
      have e1 : xs.length = es.length * P.cellsOf e := g2.1
      refine ⟨.int .u8 b.toNat,?_,.int _ _⟩
      rw [List.getElem?_append_right (by rw [e1]; exact Nat.le_trans (Nat.mul_le_mul_right _ hge) (by omega)),e1,hce]
      simp only [Nat.mul_one,Nat.add_zero,Lib.byteCells,List.getElem?_map,hq,Option.map_some]
   refine .own t (es ++ s.map byteE) _ ?_ _ (upd_same _ _ _) hcl (.inl ⟨hlen,rfl⟩)
   have key := relD.list (F := fun b o u=>G.F b o u ∨ (b = gg ∧ o < (es.length + s.length) * P.cellsOf e ∧ w'.cell? ⟨gg,o,none⟩ = some u)) (es ++ s.map byteE) gg 0 cap (P.cellsOf e) (fun i j=>((xs ++ Lib.byteCells s)[i * P.cellsOf e + j]?).getD undef) (by omega) (by omega) hcl
    (fun i j c x hc hx=>by
     obtain ⟨u,u1,u2⟩ := hval i j c x hc hx
     rw [u1]
     right
     refine ⟨rfl,?_,?_⟩
     ·have := getElem_lt u1
      rw [a2.1] at this
      rw [Nat.zero_add]; exact this
     ·have := a2.cells (g := gg) rfl _ u u1
      rw [Addr.add_lit] at this
      rw [Nat.zero_add] at this ⊢
      exact this)
    (fun i j c x hc hx=>by
     obtain ⟨u,u1,u2⟩ := hval i j c x hc hx
     rw [u1]
     exact relD_mono (fun _ _ _ q=>.inl q) u2)
   rw [hlen] at key
   exact key
theorem HRp.gone {w0 w w' : World} {G : Cx} {obs : Nat → Option (List V)} {lns : Nat → Option (TypeId × Nat)} (h : HRp P w0 w G obs lns) {t n : Nat} {e : TypeId} (hl : lns t = some (e,n)) (hg : ∃ L,G.lv t = some L ∧ w.grownBy w' L.v.ownBlock ∧ ∀ b o,L.v.ownBlock = some b → w'.cell? ⟨b,o,none⟩ = w.cell? ⟨b,o,none⟩) (hkt : TK w w') :
  let G' : Cx := { G with lv := upd G.lv t ⟨n + 1,P.cellsOf e,Go.undef⟩ }
  G.le G' ∧ HRp P w0 w' G' obs (upd lns t (e,n + 1)) := by
 intro G'
 obtain ⟨L,hL,hg,hc⟩ := hg
 obtain ⟨v,xs,g1,g2,g3⟩ := h.lvl t e n hl
 rw [hL] at g1; injection g1 with g1; subst g1
 simp only at hg hc
 have hbk : ∀ b',b' < w.heap.size → some b' ≠ v.ownBlock → w'.heap[b']? = w.heap[b']? := fun b' h1 h2=>hg.block b' h1 h2
 have hlv : ∀ j L,G'.lv j = some L → (j = t ∧ L = ⟨n + 1,P.cellsOf e,Go.undef⟩) ∨ (j ≠ t ∧ G.lv j = some L) := by
  intro j L q
  have q' : upd G.lv t ⟨n + 1,P.cellsOf e,Go.undef⟩ j = some L := q
  by_cases e : j = t
  ·subst e; rw [upd_same] at q'; injection q' with q'; exact .inl ⟨rfl,q'.symm⟩
  ·rw [upd_ne _ _ e] at q'; exact .inr ⟨e,q'⟩
 have hle : G.le G' := by
  refine ⟨rfl,fun _ _ _ q=>q,fun _ _ q=>q,fun j L q=>?_,fun _ _ q=>q,fun _ L q=>⟨L,q,rfl,.inl rfl⟩,fun _ _ q=>q⟩
  by_cases ej : j = t
  ·subst ej
   rw [hL] at q; injection q with q; subst q
   exact ⟨_,upd_same _ _ _,rfl,.inr (by show n < n + 1; omega)⟩
  ·exact ⟨L,(by show upd G.lv t _ j = _; rw [upd_ne _ _ ej]; exact q),rfl,.inl rfl⟩
 refine ⟨hle,h.kp.grown hg (fun j hj=>(holds_lt g2 j hj).1),?_,h.fb,h.obd,?_,h.obi,?_,?_,?_,h.gb,h.obm,?_,h.mpi,h.obr,?_,h.rvi,fun b t q=>hkt _ _ (h.tgs b t q)⟩
 ·intro b o u q
  have q1 := h.fs b o u q
  refine ⟨Nat.lt_of_lt_of_le q1.1 hg.size,?_⟩
  by_cases hb : v.ownBlock = some b
  ·rw [hc b o hb]; exact q1.2
  ·exact (World.cell?_of_block (a := ⟨b,o,none⟩) (hbk b q1.1 (fun e=>hb e.symm))).trans q1.2
 ·intro k cs q hm hr
  obtain ⟨b,vs,t',h1,h2,h3,h4,h5⟩ := h.obl k cs q hm hr
  exact ⟨b,vs,t',h1,h2,(hbk b (heap_lt' h3) (fun e=>(g3 b e.symm).1 k h1)).trans h3,rels_mono hle h4,h5⟩
 ·intro j L q
  rcases hlv j L q with ⟨rfl,_⟩ | ⟨e,q⟩
  ·rw [upd_same]; simp
  ·rw [upd_ne _ _ e]; exact h.lvd j L q
 ·intro j e' n' q
  by_cases ej : j = t
  ·subst ej
   rw [upd_same] at q; injection q with q; injection q with q1 q2; subst q1; subst q2
   exact ⟨Go.undef,[],upd_same _ _ _,.inl rfl,fun b hb=>by simp [Go.undef,Value.ownBlock] at hb⟩
  ·rw [upd_ne _ _ ej] at q
   obtain ⟨v',xs',h1,h2,h3⟩ := h.lvl j e' n' q
   refine ⟨v',xs',(by show upd G.lv t _ j = _; rw [upd_ne _ _ ej]; exact h1),holds_kept h2 hg ?_,h3⟩
   cases hv : v'.ownBlock with
   | none=>exact .inl rfl
   | some b=>exact .inr fun e2=>ej (h.lvi j t _ _ b h1 hL hv e2.symm)
 ·intro j j' L1 L2 b q q' h1 h2
  rcases hlv j L1 q with ⟨_,rfl⟩ | ⟨_,q⟩
  ·simp [Go.undef,Value.ownBlock] at h1
  ·rcases hlv j' L2 q' with ⟨_,rfl⟩ | ⟨_,q'⟩
   ·simp [Go.undef,Value.ownBlock] at h2
   ·exact h.lvi j j' L1 L2 b q q' h1 h2
 ·intro k b q
  obtain ⟨h1,es,n',ik,kvs,h2,h3,h4⟩ := h.mpl k b q
  refine ⟨h1,es,n',ik,kvs,h2,(hbk b (heap_lt' h3) (fun e2=>?_)).trans h3,h4⟩
  rcases g2 with rfl | g2
  ·simp [Go.undef,Value.ownBlock] at e2
  ·obtain ⟨cap,cur,_,_,c3,_⟩ := own_at g2 e2.symm
   rw [c3] at h3; cases h3
 ·intro k L' q
  obtain ⟨e',es',xs',h1,h2,h3,h4,h5,h6⟩ := h.rvl k L' q
  refine ⟨e',es',xs',h1,h2,h3,h4.kept hg ?_,h5,fun b hb=>⟨(h6 b hb).1,(h6 b hb).2.1,fun j L2 q2=>?_⟩⟩
  ·cases hv : L'.v.ownBlock with
   | none=>exact .inl rfl
   | some b=>exact .inr fun e2=>(h6 b hv).2.2 t _ hL e2.symm
  ·rcases hlv j L2 q2 with ⟨_,rfl⟩ | ⟨_,q2⟩
   ·simp [Go.undef,Value.ownBlock]
   ·exact (h6 b hb).2.2 j L2 q2
end
section
variable {P : Program} {g : Pg P} {d : Option Tmp} {t ty : TypeId} {p : String} {af : Array Edge} {gd : Option (Nat × Bool)} {fr : Fr} {s : Sg} {R : V → Sg → Prop}
theorem alt_appStr {x z : Operand} {j : Nat} {es : List (List D)} {l : List UInt8} {e ut : TypeId} (hx : evalO fr x = .own j es) (hz : evalO fr z = .d (.str l)) (ht : byteT P t = some e) (hut : P.underlying ut = some .string) (hl : s.lns[j]? = some (e,es.length)) (hb : okLen (es.length + l.length) = true)
  (h : R (.own j (es ++ l.map byteE)) ⟨s.obs,s.lns.set j (e,es.length + l.length)⟩) : altR g ⟨d,.call ⟨.builtin .append,#[x,z],#[t,ut]⟩,ty,p,af,gd⟩ fr s R := by
 intro w0 w G a hH hfr
 have r := evalO_rel hfr x
 rw [hx] at r
 have hzv := inv_str (hz ▸ evalO_rel hfr z)
 obtain ⟨u,w',G',a1,a2,a3,a4⟩ := app_str (ty := ty) hH ht hut hl r (okLen_le hb)
 rw [lns_set hl] at a3
 refine ⟨.value u,w',_,⟨s.obs,s.lns.set j (e,es.length + l.length)⟩,G',?_,.inl ⟨_,rfl,a4⟩,a2,a3,h⟩
 simp [execOp,resolve,invoke,builtin,hzv,a1]
end
end Go.Proofs.YtjgngikiglhleaaGreatDoor
