/-
  Sv, Sw in one text.
-/
import Derived.Test.YthljcnchaopncaaGreatDoorSu
import Derived.Laws.MakeOwn
import Derived.Laws.OwnMore
import Derived.Lib.AppendStr
import Derived.Lib.UnsafeStr
namespace Go.Proofs.YthljcnchaopncaaGreatDoor
open Go.RowKit
set_option linter.unusedVariables false
set_option linter.unusedSimpArgs false
section
variable {P : Program} {g : Pg P} {d : Option Tmp} {t ty : TypeId} {p : String} {af : Array Edge} {gd : Option (Nat × Bool)} {fr : Fr} {s : Sg} {R : V → Sg → Prop}
theorem inv_gs {w0 w : World} {G : Cx} {k n off len : Nat} {v : Value} {e : TypeId} {es : List (List D)} (hH : HR P w0 w G s) (r : rel G (.gs k n off len) v) (ho : s.obs[k]? = some [.rowc e n es]) :
  ∃ L A c,G.rv k = some L ∧ L.n = n ∧ L.sz = P.cellsOf e ∧ v = .slice A len c ∧ len ≤ c ∧ (len ≠ 0 → ∃ b,L.v.ownBlock = some b ∧ A = some ⟨b,off * L.sz,none⟩) := by
 cases r with
 | gs _ _ _ _ _ h1 L hL hl =>
  obtain ⟨e',es',xs,a1,a2,a3,a4,a5,a6⟩ := hH.rvl k L hL
  have a1' : s.obs[k]? = some [.rowc e' L.n es'] := a1
  rw [ho] at a1'; injection a1' with a1'; injection a1' with a1' _; injection a1' with e1 e2 e3; subst e1; subst e3
  rcases hl with ⟨q1,q2⟩ | q
  ·rcases q2 with ⟨b,c,z1,z2,z3⟩ | ⟨z1,A,c,z2⟩
   ·exact ⟨L,_,c,hL,q1.symm,a2,z2,z3,fun _=>⟨b,z1,rfl⟩⟩
   ·subst z1; exact ⟨L,A,c,hL,q1.symm,a2,z2,Nat.zero_le _,fun q=>absurd rfl q⟩
  ·omega
theorem gs_of_gr {w0 w : World} {G : Cx} {k n : Nat} {v : Value} {e : TypeId} {es : List (List D)} (hH : HR P w0 w G s) (r : rel G (.gr k n) v) (ho : s.obs[k]? = some [.rowc e n es]) : rel G (.gs k n 0 es.length) v := by
 obtain ⟨L,xs,a1,a2,a3,a4,a5,a6⟩ := inv_gr hH r ho
 subst a2
 rcases a5.2 with ⟨h1,h2⟩ | ⟨b,cap,cur,h1,_,_,h2,_⟩
 ·exact .gs k n 0 _ _ (by rw [h1]; rfl) L a1 (.inl ⟨a3.symm,.inr ⟨h2,none,0,h1⟩⟩)
 ·exact .gs k n 0 _ _ (by rw [h1]; rfl) L a1 (.inl ⟨a3.symm,.inl ⟨b,cap,by rw [h1]; rfl,by rw [h1,Nat.zero_mul],h2⟩⟩)
theorem rel_gs {G : Cx} {k n off len : Nat} {A : Option Addr} {c : Nat} {L : Lv} (hL : G.rv k = some L) (hn : L.n = n) (hc : len ≤ c) (h : len ≠ 0 → ∃ b,L.v.ownBlock = some b ∧ A = some ⟨b,off * L.sz,none⟩) : rel G (.gs k n off len) (.slice A len c) := by
 by_cases h0 : len = 0
 ·subst h0; exact .gs k n off 0 _ rfl L hL (.inl ⟨hn.symm,.inr ⟨rfl,A,c,rfl⟩⟩)
 ·obtain ⟨b,h1,h2⟩ := h h0
  exact .gs k n off len _ rfl L hL (.inl ⟨hn.symm,.inl ⟨b,c,h1,by rw [h2],hc⟩⟩)
theorem size_of {e : TypeId} {sz : Nat} (hs : sizeT P e = some sz) : P.cellsOf e = sz := by
 simp only [sizeT,Option.map_eq_some_iff] at hs
 obtain ⟨i,h1,h2⟩ := hs
 simp [Program.cellsOf,h1,h2]
theorem slice_gs {x : Operand} {lo hi : Option Operand} {k n off len l h sz : Nat} {e : TypeId} {es : List (List D)} (hx : ∀ (w0 w : World) (G : Cx) (a : Act),HR P w0 w G s → FR G fr a → rel G (.gs k n off len) (a.eval x)) (ho : s.obs[k]? = some [.rowc e n es]) (ht : P.underlying t = some (.slice e)) (hs : sizeT P e = some sz)
  (hl : bnd 0 (lo.map (evalO fr)) = some l) (hh : bnd len (hi.map (evalO fr)) = some h) (h1 : l ≤ h) (h2 : h ≤ len) (K : R (.gs k n (off + l) (h - l)) s) : altR g ⟨d,.slice t x lo hi none,ty,p,af,gd⟩ fr s R := by
 intro w0 w G a hH hfr
 obtain ⟨L,A,c,a1,a2,a3,hv,hc,a4⟩ := inv_gs hH (hx w0 w G a hH hfr) ho
 have hsz : L.sz = sz := a3.trans (size_of hs)
 have hb := run_bounds (P := P) (len := len) (cap := c) (m := c) (mx := none) (vm := none) (relO_map hfr lo) (relO_map hfr hi) trivial rfl hh hl (Nat.le_refl _) (by omega) h1 (by simp) true w
 refine ⟨.value (.slice (if c = l then A else A.map (·.add (l * sz))) (h - l) (c - l)),w,_,s,G,?_,.inl ⟨_,rfl,rel_gs a1 a2 (by omega) fun q=>?_⟩,Cx.le.refl G,hH,K⟩
 ·simp only [execOp,hv,Instr.sliceAt,Instr.slice,Sem.run_bind,run_underlying ht,Result.andThen_ok,hb,run_size hs,Sem.run_pure,Option.map_none]
 ·obtain ⟨b,q1,q2⟩ := a4 (by omega)
  refine ⟨b,q1,?_⟩
  rw [if_neg (by omega),q2]
  simp [Addr.add_lit,Nat.add_mul,hsz]
theorem alt_sliceR {x : Operand} {lo hi : Option Operand} {k n l h sz : Nat} {e : TypeId} {es : List (List D)} (hx : evalO fr x = .gr k n) (ho : s.obs[k]? = some [.rowc e n es]) (ht : P.underlying t = some (.slice e)) (hs : sizeT P e = some sz)
  (hl : bnd 0 (lo.map (evalO fr)) = some l) (hh : bnd es.length (hi.map (evalO fr)) = some h) (h1 : l ≤ h) (h2 : h ≤ es.length) (K : R (.gs k n (0 + l) (h - l)) s) : altR g ⟨d,.slice t x lo hi none,ty,p,af,gd⟩ fr s R :=
 slice_gs (fun w0 w G a hH hfr=>gs_of_gr hH (hx ▸ evalO_rel hfr x) ho) ho ht hs hl hh h1 h2 K
theorem alt_indexG {x i : Operand} {k n off len : Nat} {e : TypeId} {es : List (List D)} {ki : IntKind} {m : Int} {sz : Nat} (hx : evalO fr x = .gs k n off len) (ho : s.obs[k]? = some [.rowc e n es]) (hi : evalO fr i = .d (.int ki m)) (ht : P.underlying t = some (.slice e)) (hs : sizeT P e = some sz) (h0 : 0 ≤ m) (hm : m < (len : Int)) (h : R (.gp k n (off + m.toNat) 0) s) : altR g ⟨d,.indexAddr t x i,ty,p,af,gd⟩ fr s R := by
 intro w0 w G a hH hfr
 obtain ⟨L,A,c,a1,a2,a3,hv,hc,a4⟩ := inv_gs hH (hx ▸ evalO_rel hfr x) ho
 have hiv := inv_int (hi ▸ evalO_rel hfr i)
 have hsz : L.sz = sz := a3.trans (size_of hs)
 obtain ⟨b,q1,rfl⟩ := a4 (by omega)
 refine ⟨.value (.pointer (some ⟨b,off * L.sz + m.toNat * sz,none⟩)),w,_,s,G,?_,.inl ⟨_,rfl,.gp k n (off + m.toNat) 0 _ rfl L a1 (.inl ⟨a2.symm,b,q1,?_⟩)⟩,Cx.le.refl G,hH,h⟩
 ·simp [execOp,hv,hiv,Instr.indexAt,asIntOf,run_underlying ht,h0,hm,run_size hs,Addr.add_lit]
 ·rw [← hsz,Nat.add_mul,Nat.add_zero]
theorem appT_parts {tt e : TypeId} {sz : Nat} (h : appT P tt = some (e,sz)) : ∃ i z,P.underlying tt = some (.slice e) ∧ P.info? e = some i ∧ i.zero = some z ∧ z.cells.size = sz ∧ i.size = sz ∧ 0 < sz ∧ i.bytes ≤ 8000000 := by
 unfold appT at h
 split at h
 ·rename_i e' hu
  split at h
  ·rename_i i hi
   split at h
   ·rename_i z hz
    split at h
    ·rename_i hc
     injection h with h; injection h with h1 h2; subst h1; subst h2
     exact ⟨i,z,hu,hi,hz,hc.1,rfl,hc.2.1,hc.2.2⟩
    ·cases h
   ·cases h
  ·cases h
 ·cases h
theorem made_at (z : Array Value) (n j : Nat) (h : j < n) : (madeCells z n).toList[j]? = some z[j % z.size]! := by
 simp [madeCells,h]
theorem alt_makeRow {l c : Operand} {kl kc : IntKind} {n : Int} {sz : Nat} {e : TypeId} {zs : List V} {zd : V} {ds : List D} (hl : evalO fr l = .d (.int kl n)) (hc : evalO fr c = .d (.int kc n)) (ht : appT P t = some (e,sz)) (hz : zeroV P e = some zd) (hzs : zd.cells? = some zs) (hds : datas zs = some ds) (h0 : 0 ≤ n) (hn : okLen n.toNat = true) (h : R (.gr s.obs.length 0) ⟨s.obs ++ [[.rowc e 0 (List.replicate n.toNat ds)]],s.lns⟩) : altR g ⟨d,.makeSlice t l c,ty,p,af,gd⟩ fr s R := by
 intro w0 w G a hH hfr
 obtain ⟨i,z,hu,hi,hiz,z1,z2,z3,z4⟩ := appT_parts ht
 have hlv := inv_int (hl ▸ evalO_rel hfr l)
 have hcv := inv_int (hc ▸ evalO_rel hfr c)
 have hn' := okLen_le hn
 have hbytes : (i.bytes : Int) * n ≤ 281474976710656 := by
  have : i.bytes * n.toNat ≤ 8000000 * 16777216 := Nat.mul_le_mul z4 hn'
  have e1 : ((i.bytes * n.toNat : Nat) : Int) = (i.bytes : Int) * n := by rw [Int.natCast_mul,Int.toNat_of_nonneg h0]
  omega
 have hrun := run_make (P := P) w t e i z hu hi hiz kl kc n n h0 (Int.le_refl _) hbytes (by omega)
 have hce : P.cellsOf e = sz := by simp [Program.cellsOf,hi,z2]
 have hown := World.ownsRow_lit (base := w.heap.size) (e := e) (size := sz) w (madeCells z.cells (n.toNat * i.size)) n.toNat (Nat.le_refl _) (by unfold maxLen; omega) (by rw [size_madeCells,z2])
 obtain ⟨zv,y1,y2,_⟩ := zeroV_ok hz G w
 have hzv : zv = z := by
  have : (zeroValue e).run P w = .ok z w := by simp [zeroValue,typeInfo,hi,hiz]
  rw [this] at y1; injection y1 with y1; exact y1.symm
 subst hzv
 obtain ⟨d1,d2⟩ := datas_rel (cells_rel y2 hzs) hds
 have hdl : ds.length = sz := by rw [d1]; simpa using z1
 have hrow : relRow G.F sz (List.replicate n.toNat ds) (madeCells zv.cells (n.toNat * i.size)).toList := by
  refine ⟨fun j c hj=>?_,fun j q c x hj hx=>?_⟩
  ·rw [List.getElem?_replicate] at hj
   split at hj
   ·injection hj with hj; rw [← hj]; exact hdl
   ·cases hj
  ·rw [List.getElem?_replicate] at hj
   split at hj
   ·rename_i hjn
    injection hj with hj; subst hj
    have hq := getElem_lt hx
    have hin : j * sz + q < n.toNat * i.size := by
     have : (j + 1) * sz ≤ n.toNat * sz := Nat.mul_le_mul_right _ (by omega)
     rw [Nat.add_mul,Nat.one_mul] at this; rw [z2]; omega
    refine ⟨_,made_at _ _ _ hin,?_⟩
    have hm : (j * sz + q) % zv.cells.size = q := by rw [z1,Nat.mul_comm,Nat.mul_add_mod,Nat.mod_eq_of_lt (by omega)]
    rw [hm]
    refine d2 q x _ hx ?_
    have : q < zv.cells.size := by omega
    rw [List.getElem?_eq_getElem (by simpa using this)]
    simp [this]
   ·cases hj
 have hN := HRp.newRow (w' := w.alloc (.cells (madeCells zv.cells (n.toNat * i.size)) e)) hH ((Kp.refl w).alloc _) s.obs.length (by simp) (e := e) (es := List.replicate n.toNat ds) (v := .slice (some ⟨w.heap.size,0,none⟩) n.toNat n.toNat) (xs := (madeCells zv.cells (n.toNat * i.size)).toList) (by rw [List.length_replicate,hce]; exact hown) (by rw [hce]; exact hrow)
 obtain ⟨hle,hN⟩ := hN
 rw [sg_push] at hN
 have hN' : HR P w0 (w.alloc (.cells (madeCells zv.cells (n.toNat * i.size)) e)) { G with rv := upd G.rv s.obs.length ⟨0,P.cellsOf e,.slice (some ⟨w.heap.size,0,none⟩) n.toNat n.toNat⟩ } ⟨s.obs ++ [[.rowc e 0 (List.replicate n.toNat ds)]],s.lns⟩ := hN
 refine ⟨.value (.slice (some ⟨w.heap.size,0,none⟩) n.toNat n.toNat),_,_,⟨s.obs ++ [[.rowc e 0 (List.replicate n.toNat ds)]],s.lns⟩,_,?_,.inl ⟨_,rfl,.gr _ _ _ rfl _ (upd_same _ _ _) (.inl ⟨rfl,rfl⟩)⟩,hle,hN',h⟩
 simp only [execOp,hlv,hcv,Sem.run_bind,hrun,Result.andThen_ok,Sem.run_pure]
end
end Go.Proofs.YthljcnchaopncaaGreatDoor
namespace Go.Proofs.YthljcnchaopncaaGreatDoor
open Go.RowKit
set_option linter.unusedVariables false
set_option linter.unusedSimpArgs false
def byteE (b : UInt8) : List D := [.int .u8 (b.toNat : Int)]
theorem byte_len (l : List UInt8) : (Lib.byteCells l).length = l.length := by simp [Lib.byteCells]
section
variable {P : Program}
theorem run_append_str (w : World) (t u ty e : TypeId) (i : TypeInfo) (base : Nat) (ht : P.underlying t = some (.slice e)) (hu : P.underlying u = some .string) (hi : P.info? e = some i) (hz : i.zero = some (.int .u8 0)) (hsize : i.size = 1) (hby : i.bytes = 1)
  (v : Value) (n : Nat) (xs : List Value) (hown : w.ownsRow base e 1 v n xs) (s : List UInt8) (hm : 0 < s.length) (hb : n + s.length ≤ 16777216) (hbase : base ≤ w.heap.size) :
  ∃ gg cap w',(Builtin.append_ #[t,u] ty #[v,.string ⟨s.toArray⟩]).run P w = .ok (.slice (some ⟨gg,0,none⟩) (n + s.length) cap) w' ∧
   w'.ownsRow base e 1 (.slice (some ⟨gg,0,none⟩) (n + s.length) cap) (n + s.length) (xs ++ Lib.byteCells s) ∧ ((v.ownBlock = some gg ∧ w.grownBy w' (some gg)) ∨ (gg = w.heap.size ∧ Kp w w')) := by
 have h63 : n + s.length ≤ maxLen := by unfold maxLen; omega
 have hss : (⟨s.toArray⟩ : ByteArray).size = s.length := rfl
 have hsc : Lib.strCells ⟨s.toArray⟩ = Lib.byteCells s := rfl
 have hxl : xs.length = n := by simpa using hown.1
 have hlen : (xs ++ Lib.byteCells s).length = (n + s.length) * 1 := by rw [List.length_append,hxl,byte_len,Nat.mul_one]
 have grown : ∀ (old : Nat),old < n + s.length →
   (w.drew.alloc (.cells (xs.toArray ++ (Lib.byteCells s).toArray ++ Builtin.zeroCells (Value.int .u8 0).cells (grownCap w (n + s.length) old e - (n + s.length))) e)).ownsRow base e 1
    (.slice (some ⟨w.heap.size,0,none⟩) (n + s.length) (grownCap w (n + s.length) old e)) (n + s.length) (xs ++ Lib.byteCells s) := by
  intro old ho
  have hge := grownCap_ge w (n + s.length) old e
  have hcm : grownCap w (n + s.length) old e ≤ maxLen := grownCap_le_maxLen w (n + s.length) old e h63
  refine ⟨hlen,.inr ⟨w.heap.size,_,_,rfl,hbase,heap_alloc_new w.drew _,hge,hcm,?_,?_⟩⟩
  ·have hz1 : (Value.int IntKind.u8 0).cells.size = 1 := rfl
   simp only [Array.size_append,List.size_toArray,size_zeroCells,hz1,hxl,byte_len]
   omega
  ·simp only [Array.toList_append,List.append_assoc]
   rw [← List.append_assoc,← hlen]
   exact List.take_left
 rcases hown.2 with ⟨rfl,rfl⟩ | ⟨g,cap,cur,rfl,hbg,hg,hnc,hcm,hcs,htake⟩
 ·have hx : xs = [] := List.eq_nil_of_length_eq_zero hxl
  subst hx
  have hr := run_append_nil_string (P := P) w t u ty e i (.int .u8 0) ht hu hi hz ⟨s.toArray⟩ (by rw [hss]; omega) (by rw [hss]; omega) (by rw [hby,hss]; omega)
  have hgr := grown 0 (by omega)
  simp only [Nat.zero_add,List.nil_append,Array.empty_append] at hgr ⊢
  have e1 : ((⟨s.toArray⟩ : ByteArray).data.map fun b=>Value.int .u8 b.toNat) = (Lib.byteCells s).toArray := by
   apply Array.ext'
   simp [Lib.byteCells]
  rw [e1,hss] at hr
  exact ⟨_,_,_,hr,hgr,.inr ⟨rfl,((Kp.refl w).drew).alloc _⟩⟩
 ·by_cases hroom : n + s.length ≤ cap
  ·have hcs' : cur.size = cap := by simpa using hcs
   have hr := Lib.run_append_room_string (P := P) w t u ty e i ht hu hi hsize g n cap cur hg ⟨s.toArray⟩ hroom (by rw [hss]; omega)
   rw [hss,hsc] at hr
   refine ⟨_,_,_,hr,⟨hlen,.inr ⟨g,cap,_,rfl,hbg,setRow_heap w g cur _ e _ hg,hroom,hcm,?_,?_⟩⟩,.inl ⟨rfl,⟨rfl,rfl,rfl,by simp,fun k _ hk=>setRow_other w g k _ (fun e=>hk (by simp [e]))⟩⟩⟩
   ·simp only [List.size_toArray,List.length_append,List.length_take,List.length_drop,Array.length_toList,byte_len]
    omega
   ·have ht' : cur.toList.take n = xs := by simpa using htake
    rw [ht',← hlen]
    exact List.take_left
  ·have hh : ∀ j u,xs[j]? = some u → w.cell? ((⟨g,0,none⟩ : Addr).add j) = some u := hown.cells (g := g) rfl
   have hr := Lib.run_append_grow_string (P := P) w t u ty e i (.int .u8 0) ht hu hi hz ⟨g,0,none⟩ n cap xs (by rw [hsize]; simpa using hxl) hh ⟨s.toArray⟩ (by rw [hss]; omega) (by rw [hss]; omega) (by rw [hby,hss]; exact growslice_fits (by omega) (by omega))
   rw [hss,hsc] at hr
   have hgr := grown cap (by omega)
   exact ⟨_,_,_,hr,hgr,.inr ⟨rfl,((Kp.refl w).drew).alloc _⟩⟩
theorem run_append_str0 (w : World) (t u ty e : TypeId) (i : TypeInfo) (ht : P.underlying t = some (.slice e)) (hu : P.underlying u = some .string) (hi : P.info? e = some i) (A : Option Addr) (n c : Nat) (hn : n ≤ c) :
  (Builtin.append_ #[t,u] ty #[.slice A n c,.string ⟨#[]⟩]).run P w = .ok (.slice A n c) w := by
 have hf := Lib.run_firstCells_string (P := P) w i.size ⟨#[]⟩
 have hz : (⟨#[]⟩ : ByteArray).size = 0 := rfl
 have hs : Lib.strCells ⟨#[]⟩ = [] := rfl
 rw [hz,hs] at hf
 cases A <;> simp [Builtin.append_,run_underlying ht,run_underlying hu,sizeOf,typeInfo,hi,Builtin.lenOf,hz,hf,storeCells,hn]
def byteT (P : Program) (t : TypeId) : Option TypeId :=
 match P.underlying t with
 | some (.slice e)=>match P.info? e with
  | some i=>match i.zero with
   | some (.int .u8 0)=>if i.size = 1 ∧ i.bytes = 1 then some e else none
   | _=>none
  | none=>none
 | _=>none
theorem byteT_parts {t e : TypeId} (h : byteT P t = some e) : ∃ i,P.underlying t = some (.slice e) ∧ P.info? e = some i ∧ i.zero = some (.int .u8 0) ∧ i.size = 1 ∧ i.bytes = 1 := by
 unfold byteT at h
 split at h
 ·rename_i e' hu
  split at h
  ·rename_i i hi
   split at h
   ·rename_i hz
    split at h
    ·rename_i hc
     injection h with h; subst h
     exact ⟨i,hu,hi,hz,hc.1,hc.2⟩
    ·cases h
   ·cases h
  ·cases h
 ·cases h
theorem app_str {w0 w : World} {G : Cx} {obs : Nat → Option (List V)} {lns : Nat → Option (TypeId × Nat)} (h : HRp P w0 w G obs lns) {t : Nat} {ty tt ut e : TypeId} {es : List (List D)} {s : List UInt8} {v : Value} (ht : byteT P tt = some e) (hut : P.underlying ut = some .string) (hl : lns t = some (e,es.length))
  (r : rel G (.own t es) v) (hb : es.length + s.length ≤ 16777216) :
  ∃ u w' G',(Builtin.append_ #[tt,ut] ty #[v,.string ⟨s.toArray⟩]).run P w = .ok u w' ∧ G.le G' ∧ HRp P w0 w' G' obs (upd lns t (e,es.length + s.length)) ∧ rel G' (.own t (es ++ s.map byteE)) u := by
 have hF := fun b o v q=>(h.fs b o v q).2
 obtain ⟨i,hu,hi,hz,hsz1,hby⟩ := byteT_parts ht
 obtain ⟨v0,xs,g1,g2,g3⟩ := h.lvl t e es.length hl
 have hce : P.cellsOf e = 1 := by simp [Program.cellsOf,hi,hsz1]
 cases r with
 | own _ _ _ q L hL hs hlast =>
  rw [g1] at hL; injection hL with hL; subst hL
  simp only at hs hlast
  have hv : v = v0 := by rcases hlast with q | q; exact q.2; omega
  subst hv
  have g2 := g2.resolve_left (by rintro rfl; cases q)
  by_cases hy : s.length = 0
  ·have : s = [] := List.eq_nil_of_length_eq_zero hy
   subst this
   obtain ⟨A,c,rfl⟩ := own_slice g2
   have hn : es.length ≤ c := by
    rcases g2.2 with ⟨h1,h2⟩ | ⟨g,cap,cur,h1,_,_,h3,_⟩
    ·omega
    ·injection h1 with _ _ h1; omega
   refine ⟨_,w,G,run_append_str0 w tt ut ty e i hu hut hi A es.length c hn,Cx.le.refl G,?_,?_⟩
   ·have : upd lns t (e,es.length + ([] : List UInt8).length) = lns := by
     funext j
     by_cases ej : j = t
     ·subst ej; rw [upd_same]; simp [hl]
     ·rw [upd_ne _ _ ej]
    rw [this]; exact h
   ·rw [List.map_nil,List.append_nil]
    exact .own t es _ q _ g1 hs (.inl ⟨rfl,rfl⟩)
  ·rw [hce] at g2
   obtain ⟨gg,cap,w',a1,a2,a3⟩ := run_append_str (P := P) w tt ut ty e i w0.heap.size hu hut hi hz hsz1 hby v es.length xs g2 s (by omega) hb h.kp.size
   rw [← hce] at g2 a2
   obtain ⟨hle,hH⟩ := h.app hl g1 g2 a2 (by omega) a3
   refine ⟨_,w',_,a1,hle,hH,?_⟩
   have hcap : es.length + s.length ≤ cap := by
    rcases a2.2 with ⟨h1,h2⟩ | ⟨g,cap',cur,h1,_,_,h3,_⟩
    ·cases h1
    ·injection h1 with _ _ h1; omega
   have hlen : (es ++ s.map byteE).length = es.length + s.length := by simp
   have hcl : ∀ (k : Nat) (c : List D),(es ++ s.map byteE)[k]? = some c → c.length = P.cellsOf e := by
    intro k c hk
    rcases Nat.lt_or_ge k es.length with hlt | hge
    ·rw [List.getElem?_append_left hlt] at hk; exact hs _ _ hk
    ·rw [List.getElem?_append_right hge,List.getElem?_map] at hk
     cases hq : s[k - es.length]? with
     | none=>rw [hq] at hk; cases hk
     | some b=>rw [hq] at hk; injection hk with hk; rw [← hk,hce]; rfl
   have hval : ∀ (k j : Nat) (c : List D) (x : D),(es ++ s.map byteE)[k]? = some c → c[j]? = some x → ∃ u,(xs ++ Lib.byteCells s)[k * P.cellsOf e + j]? = some u ∧ relD G.F x u := by
    intro k j c x hk hx
    have hj : j < P.cellsOf e := by have := getElem_lt hx; have := hcl k c hk; omega
    rcases Nat.lt_or_ge k es.length with hlt | hge
    ·rw [List.getElem?_append_left hlt] at hk
     obtain ⟨u,u1,u2⟩ := own_xs hF q g2 hs k j c x hk hx
     exact ⟨u,by rw [List.getElem?_append_left (getElem_lt u1)]; exact u1,u2⟩
    ·rw [List.getElem?_append_right hge,List.getElem?_map] at hk
     cases hq : s[k - es.length]? with
     | none=>rw [hq] at hk; cases hk
     | some b =>
      rw [hq] at hk; injection hk with hk; subst hk
      have hj0 : j = 0 := by rw [hce] at hj; omega
      subst hj0
      simp only [byteE,List.getElem?_cons_zero] at hx
      injection hx with hx; subst hx
      have e1 : xs.length = es.length * P.cellsOf e := g2.1
      refine ⟨.int .u8 b.toNat,?_,.int _ _⟩
      rw [List.getElem?_append_right (by rw [e1]; exact Nat.le_trans (Nat.mul_le_mul_right _ hge) (by omega)),e1,hce]
      simp only [Nat.mul_one,Nat.add_zero,Lib.byteCells,List.getElem?_map,hq,Option.map_some]
   refine .own t (es ++ s.map byteE) _ ?_ _ (upd_same _ _ _) hcl (.inl ⟨hlen,rfl⟩)
   have key := relD.list (F := fun b o u=>G.F b o u ∨ (b = gg ∧ o < (es.length + s.length) * P.cellsOf e ∧ w'.cell? ⟨gg,o,none⟩ = some u)) (es ++ s.map byteE) gg 0 cap (P.cellsOf e) (fun i j=>((xs ++ Lib.byteCells s)[i * P.cellsOf e + j]?).getD undef) (by omega) (by omega) hcl
    (fun i j c x hc hx=>by
     obtain ⟨u,u1,u2⟩ := hval i j c x hc hx
     rw [u1]
     right
     refine ⟨rfl,?_,?_⟩
     ·have := getElem_lt u1
      rw [a2.1] at this
      rw [Nat.zero_add]; exact this
     ·have := a2.cells (g := gg) rfl _ u u1
      rw [Addr.add_lit] at this
      rw [Nat.zero_add] at this ⊢
      exact this)
    (fun i j c x hc hx=>by
     obtain ⟨u,u1,u2⟩ := hval i j c x hc hx
     rw [u1]
     exact relD_mono (fun _ _ _ q=>.inl q) u2)
   rw [hlen] at key
   exact key
theorem HRp.gone {w0 w w' : World} {G : Cx} {obs : Nat → Option (List V)} {lns : Nat → Option (TypeId × Nat)} (h : HRp P w0 w G obs lns) {t n : Nat} {e : TypeId} (hl : lns t = some (e,n)) (hg : ∃ L,G.lv t = some L ∧ w.grownBy w' L.v.ownBlock ∧ ∀ b o,L.v.ownBlock = some b → w'.cell? ⟨b,o,none⟩ = w.cell? ⟨b,o,none⟩) (hkt : TK w w') :
  let G' : Cx := { G with lv := upd G.lv t ⟨n + 1,P.cellsOf e,Go.undef⟩ }
  G.le G' ∧ HRp P w0 w' G' obs (upd lns t (e,n + 1)) := by
 intro G'
 obtain ⟨L,hL,hg,hc⟩ := hg
 obtain ⟨v,xs,g1,g2,g3⟩ := h.lvl t e n hl
 rw [hL] at g1; injection g1 with g1; subst g1
 simp only at hg hc
 have hbk : ∀ b',b' < w.heap.size → some b' ≠ v.ownBlock → w'.heap[b']? = w.heap[b']? := fun b' h1 h2=>hg.block b' h1 h2
 have hlv : ∀ j L,G'.lv j = some L → (j = t ∧ L = ⟨n + 1,P.cellsOf e,Go.undef⟩) ∨ (j ≠ t ∧ G.lv j = some L) := by
  intro j L q
  have q' : upd G.lv t ⟨n + 1,P.cellsOf e,Go.undef⟩ j = some L := q
  by_cases e : j = t
  ·subst e; rw [upd_same] at q'; injection q' with q'; exact .inl ⟨rfl,q'.symm⟩
  ·rw [upd_ne _ _ e] at q'; exact .inr ⟨e,q'⟩
 have hle : G.le G' := by
  refine ⟨rfl,fun _ _ _ q=>q,fun _ _ q=>q,fun j L q=>?_,fun _ _ q=>q,fun _ L q=>⟨L,q,rfl,.inl rfl⟩,fun _ _ q=>q⟩
  by_cases ej : j = t
  ·subst ej
   rw [hL] at q; injection q with q; subst q
   exact ⟨_,upd_same _ _ _,rfl,.inr (by show n < n + 1; omega)⟩
  ·exact ⟨L,(by show upd G.lv t _ j = _; rw [upd_ne _ _ ej]; exact q),rfl,.inl rfl⟩
 refine ⟨hle,h.kp.grown hg (fun j hj=>(holds_lt g2 j hj).1),?_,h.fb,h.obd,?_,h.obi,?_,?_,?_,h.gb,h.obm,?_,h.mpi,h.obr,?_,h.rvi,fun b t q=>hkt _ _ (h.tgs b t q)⟩
 ·intro b o u q
  have q1 := h.fs b o u q
  refine ⟨Nat.lt_of_lt_of_le q1.1 hg.size,?_⟩
  by_cases hb : v.ownBlock = some b
  ·rw [hc b o hb]; exact q1.2
  ·exact (World.cell?_of_block (a := ⟨b,o,none⟩) (hbk b q1.1 (fun e=>hb e.symm))).trans q1.2
 ·intro k cs q hm hr
  obtain ⟨b,vs,t',h1,h2,h3,h4,h5⟩ := h.obl k cs q hm hr
  exact ⟨b,vs,t',h1,h2,(hbk b (heap_lt' h3) (fun e=>(g3 b e.symm).1 k h1)).trans h3,rels_mono hle h4,h5⟩
 ·intro j L q
  rcases hlv j L q with ⟨rfl,_⟩ | ⟨e,q⟩
  ·rw [upd_same]; simp
  ·rw [upd_ne _ _ e]; exact h.lvd j L q
 ·intro j e' n' q
  by_cases ej : j = t
  ·subst ej
   rw [upd_same] at q; injection q with q; injection q with q1 q2; subst q1; subst q2
   exact ⟨Go.undef,[],upd_same _ _ _,.inl rfl,fun b hb=>by simp [Go.undef,Value.ownBlock] at hb⟩
  ·rw [upd_ne _ _ ej] at q
   obtain ⟨v',xs',h1,h2,h3⟩ := h.lvl j e' n' q
   refine ⟨v',xs',(by show upd G.lv t _ j = _; rw [upd_ne _ _ ej]; exact h1),holds_kept h2 hg ?_,h3⟩
   cases hv : v'.ownBlock with
   | none=>exact .inl rfl
   | some b=>exact .inr fun e2=>ej (h.lvi j t _ _ b h1 hL hv e2.symm)
 ·intro j j' L1 L2 b q q' h1 h2
  rcases hlv j L1 q with ⟨_,rfl⟩ | ⟨_,q⟩
  ·simp [Go.undef,Value.ownBlock] at h1
  ·rcases hlv j' L2 q' with ⟨_,rfl⟩ | ⟨_,q'⟩
   ·simp [Go.undef,Value.ownBlock] at h2
   ·exact h.lvi j j' L1 L2 b q q' h1 h2
 ·intro k b q
  obtain ⟨h1,es,n',ik,kvs,h2,h3,h4⟩ := h.mpl k b q
  refine ⟨h1,es,n',ik,kvs,h2,(hbk b (heap_lt' h3) (fun e2=>?_)).trans h3,h4⟩
  rcases g2 with rfl | g2
  ·simp [Go.undef,Value.ownBlock] at e2
  ·obtain ⟨cap,cur,_,_,c3,_⟩ := own_at g2 e2.symm
   rw [c3] at h3; cases h3
 ·intro k L' q
  obtain ⟨e',es',xs',h1,h2,h3,h4,h5,h6⟩ := h.rvl k L' q
  refine ⟨e',es',xs',h1,h2,h3,h4.kept hg ?_,h5,fun b hb=>⟨(h6 b hb).1,(h6 b hb).2.1,fun j L2 q2=>?_⟩⟩
  ·cases hv : L'.v.ownBlock with
   | none=>exact .inl rfl
   | some b=>exact .inr fun e2=>(h6 b hv).2.2 t _ hL e2.symm
  ·rcases hlv j L2 q2 with ⟨_,rfl⟩ | ⟨_,q2⟩
   ·simp [Go.undef,Value.ownBlock]
   ·exact (h6 b hb).2.2 j L2 q2
theorem HRp.growRow {w0 w w' : World} {G : Cx} {obs : Nat → Option (List V)} {lns : Nat → Option (TypeId × Nat)} (h : HRp P w0 w G obs lns) {k gg cap : Nat} {L : Lv} (hk : G.rv k = some L) {e : TypeId} {es0 es : List (List D)} {xs : List Value} (he : obs k = some [.rowc e L.n es0])
    (hat : (L.v.ownBlock = some gg ∧ w.grownBy w' (some gg)) ∨ (gg = w.heap.size ∧ Kp w w')) (ho : w'.ownsRow w0.heap.size e L.sz (.slice (some ⟨gg,0,none⟩) es.length cap) es.length xs) (hr : relRow G.F L.sz es xs) :
    let G' : Cx := { G with rv := upd G.rv k ⟨L.n + 1,L.sz,.slice (some ⟨gg,0,none⟩) es.length cap⟩ }
    G.le G' ∧ HRp P w0 w' G' (upd obs k [.rowc e (L.n + 1) es]) lns := by
  intro G'
  obtain ⟨e0,es1,xs0,g1,g2,g3,g4,g5,g6⟩ := h.rvl k L hk
  rw [he] at g1; injection g1 with g1; injection g1 with g1 _; injection g1 with e1 _ e2; subst e1; subst e2
  have hblk : ∀ b,b < w.heap.size → b ≠ gg → w'.heap[b]? = w.heap[b]? := by
    intro b hb hn
    rcases hat with ⟨_,hg⟩ | ⟨_,hk⟩
    · exact hg.block b hb (fun e=>hn (by injection e))
    · exact hk.below.block b hb
  have hsize : w.heap.size ≤ w'.heap.size := by
    rcases hat with ⟨_,hg⟩ | ⟨_,hk⟩
    · exact hg.size
    · exact hk.size
  have hnew : ∀ b,b < w.heap.size → L.v.ownBlock ≠ some b → b ≠ gg := by
    intro b hb hn e2
    subst e2
    rcases hat with ⟨hb',_⟩ | ⟨hb',_⟩
    · exact hn hb'
    · omega
  have hobl : ∀ j b,G.ob j = some b → b < w.heap.size ∧ L.v.ownBlock ≠ some b := by
    intro j b q
    refine ⟨?_,fun hb=>(g6 b hb).1 j q⟩
    cases hq : obs j with
    | none=>exact absurd hq (h.obd j b q)
    | some cs =>
      obtain ⟨b',_,_,h1,_,h3,_⟩ := h.obl j cs hq (h.obm j b q) (h.obr j b q)
      rw [q] at h1; injection h1 with h1; subst h1
      exact heap_lt' h3
  have hlvl : ∀ t L' b,G.lv t = some L' → L'.v.ownBlock = some b → b < w.heap.size ∧ L.v.ownBlock ≠ some b := by
    intro t L' b q hb
    refine ⟨?_,fun hb'=>(g6 b hb').2.2 t L' q hb⟩
    cases hq : lns t with
    | none=>exact absurd hq (h.lvd t L' q)
    | some en =>
      obtain ⟨v',xs',h1,h2,_⟩ := h.lvl t en.1 en.2 hq
      rw [q] at h1; injection h1 with h1; subst h1
      exact (holds_lt h2 b hb).2
  have hFn : ∀ b o u,G.F b o u → b < w.heap.size ∧ L.v.ownBlock ≠ some b := fun b o u q=>⟨(h.fs b o u q).1,fun hb=>(g6 b hb).2.1 o u q⟩
  have hrv : ∀ j L',G'.rv j = some L' → (j = k ∧ L' = ⟨L.n + 1,L.sz,.slice (some ⟨gg,0,none⟩) es.length cap⟩) ∨ (j ≠ k ∧ G.rv j = some L') := by
    intro j L' q
    have q' : upd G.rv k ⟨L.n + 1,L.sz,.slice (some ⟨gg,0,none⟩) es.length cap⟩ j = some L' := q
    by_cases e : j = k
    · subst e; rw [upd_same] at q'; injection q' with q'; exact .inl ⟨rfl,q'.symm⟩
    · rw [upd_ne _ _ e] at q'; exact .inr ⟨e,q'⟩
  have hrvl : ∀ j L' b,j ≠ k → G.rv j = some L' → L'.v.ownBlock = some b → b < w.heap.size ∧ L.v.ownBlock ≠ some b := by
    intro j L' b hj q hb
    obtain ⟨_,_,_,_,_,_,h4,_⟩ := h.rvl j L' q
    exact ⟨(h4.lt b hb).2,fun hb'=>hj (h.rvi j k L' L b q hk hb hb')⟩
  have hle : G.le G' := by
    refine ⟨rfl,fun _ _ _ q=>q,fun _ _ q=>q,fun _ L q=>⟨L,q,rfl,.inl rfl⟩,fun _ _ q=>q,fun j L' q=>?_,fun _ _ q=>q⟩
    by_cases ej : j = k
    · subst ej
      rw [hk] at q; injection q with q; subst q
      exact ⟨_,upd_same _ _ _,rfl,.inr (by show L.n < L.n + 1; omega)⟩
    · exact ⟨L',(by show upd G.rv k _ j = _; rw [upd_ne _ _ ej]; exact q),rfl,.inl rfl⟩
  have hkp : Kp w0 w' := by
    rcases hat with ⟨hb,hg⟩ | ⟨_,hk'⟩
    · exact h.kp.grown hg (fun j hj=>by injection hj with hj; subst hj; exact (g4.lt _ hb).1)
    · exact h.kp.trans hk'
  refine ⟨hle,hkp,?_,h.fb,?_,?_,h.obi,h.lvd,?_,h.lvi,h.gb,h.obm,?_,h.mpi,?_,?_,?_,fun b t q=>(show TK w w' from by
    rcases hat with ⟨hb,hg⟩ | ⟨_,hk'⟩
    · exact tk_grown hg fun t' q'=>by rw [tag_own g4 hb] at q'; rw [tag_own ho (b := gg) rfl]; exact q'
    · exact tk_kp hk') b t (h.tgs b t q)⟩
  · intro b o u q
    have q1 := h.fs b o u q
    have q2 := hFn b o u q
    exact ⟨Nat.lt_of_lt_of_le q1.1 hsize,(World.cell?_of_block (a := ⟨b,o,none⟩) (hblk b q1.1 (hnew b q2.1 q2.2))).trans q1.2⟩
  · intro j b q
    have e' : j ≠ k := fun e'=>by rw [e'] at q; rw [h.obr k b q] at hk; cases hk
    rw [upd_ne _ _ e']; exact h.obd j b q
  · intro j cs q hm hq
    have e' : j ≠ k := fun e'=>by
      have : upd G.rv k _ j = none := hq
      rw [e',upd_same] at this; cases this
    rw [upd_ne _ _ e'] at q
    have hq' : G.rv j = none := by
      have : upd G.rv k _ j = none := hq
      rwa [upd_ne _ _ e'] at this
    obtain ⟨b,vs,t,h1,h2,h3,h4,h5⟩ := h.obl j cs q hm hq'
    have q2 := hobl j b h1
    exact ⟨b,vs,t,h1,h2,(hblk b q2.1 (hnew b q2.1 q2.2)).trans h3,rels_mono hle h4,h5⟩
  · intro t e' n q
    obtain ⟨v,xs',h1,h2,h3⟩ := h.lvl t e' n q
    refine ⟨v,xs',h1,h2.imp id fun h2=>?_,h3⟩
    rcases hat with ⟨hb,hg⟩ | ⟨_,hk'⟩
    · exact h2.kept hg (.inr fun hv=>(hlvl t _ gg h1 hv).2 hb)
    · exact own_kp h2 hk'
  · intro j b q
    obtain ⟨h1,es',n',ik',kvs',h2,h3,h4⟩ := h.mpl j b q
    have hj : j ≠ k := fun e'=>by rw [e',he] at h2; cases h2
    have hlt := heap_lt' h3
    refine ⟨h1,es',n',ik',kvs',by rw [upd_ne _ _ hj]; exact h2,(hblk b hlt (hnew b hlt fun hb=>?_)).trans h3,h4⟩
    obtain ⟨_,cur,_,_,c3,_⟩ := own_at g4 hb
    rw [c3] at h3; cases h3
  · intro j b q
    have e' : j ≠ k := fun e'=>by rw [e'] at q; rw [h.obr k b q] at hk; cases hk
    show upd G.rv k _ j = none
    rw [upd_ne _ _ e']; exact h.obr j b q
  · intro j L' q
    rcases hrv j L' q with ⟨rfl,rfl⟩ | ⟨ej,q⟩
    · refine ⟨e,es,xs,upd_same _ _ _,g2,trivial,ho,hr,fun b hb=>?_⟩
      have hbg : gg = b := by injection hb
      subst hbg
      refine ⟨fun j' q'=>?_,fun o u q'=>?_,fun t L2 q' hb2=>?_⟩
      · have q2 := hobl j' gg q'; exact hnew gg q2.1 q2.2 rfl
      · have q2 := hFn gg o u q'; exact hnew gg q2.1 q2.2 rfl
      · have q2 := hlvl t L2 gg q' hb2; exact hnew gg q2.1 q2.2 rfl
    · obtain ⟨e2,es2,xs2,h1,h2,h3,h4,h5,h6⟩ := h.rvl j L' q
      refine ⟨e2,es2,xs2,by rw [upd_ne _ _ ej]; exact h1,h2,h3,?_,h5,h6⟩
      rcases hat with ⟨hb,hg⟩ | ⟨_,hk'⟩
      · exact h4.kept hg (.inr fun hv=>(hrvl j L' gg ej q hv).2 hb)
      · exact own_kp h4 hk'
  · intro j j' L1 L2 b q q' h1 h2
    rcases hrv j L1 q with ⟨e1,r1⟩ | ⟨e1,q1⟩ <;> rcases hrv j' L2 q' with ⟨e2,r2⟩ | ⟨e2,q2⟩
    · rw [e1,e2]
    · subst r1
      have hbg : gg = b := by injection h1
      subst hbg
      have z := hrvl j' L2 gg e2 q2 h2
      exact absurd rfl (hnew gg z.1 z.2)
    · subst r2
      have hbg : gg = b := by injection h2
      subst hbg
      have z := hrvl j L1 gg e1 q1 h1
      exact absurd rfl (hnew gg z.1 z.2)
    · exact h.rvi j j' L1 L2 b q1 q2 h1 h2
end
section
variable {P : Program} {g : Pg P} {d : Option Tmp} {t ty : TypeId} {p : String} {af : Array Edge} {gd : Option (Nat × Bool)} {fr : Fr} {s : Sg} {R : V → Sg → Prop}
theorem alt_appStr {x z : Operand} {j : Nat} {es : List (List D)} {l : List UInt8} {e ut : TypeId} (hx : evalO fr x = .own j es) (hz : evalO fr z = .d (.str l)) (ht : byteT P t = some e) (hut : P.underlying ut = some .string) (hl : s.lns[j]? = some (e,es.length)) (hb : okLen (es.length + l.length) = true)
  (h : R (.own j (es ++ l.map byteE)) ⟨s.obs,s.lns.set j (e,es.length + l.length)⟩) : altR g ⟨d,.call ⟨.builtin .append,#[x,z],#[t,ut]⟩,ty,p,af,gd⟩ fr s R := by
 intro w0 w G a hH hfr
 have r := evalO_rel hfr x
 rw [hx] at r
 have hzv := inv_str (hz ▸ evalO_rel hfr z)
 obtain ⟨u,w',G',a1,a2,a3,a4⟩ := app_str (ty := ty) hH ht hut hl r (okLen_le hb)
 rw [lns_set hl] at a3
 refine ⟨.value u,w',_,⟨s.obs,s.lns.set j (e,es.length + l.length)⟩,G',?_,.inl ⟨_,rfl,a4⟩,a2,a3,h⟩
 simp [execOp,resolve,invoke,builtin,hzv,a1]
theorem alt_appR {x z : Operand} {k n sz : Nat} {e e' : TypeId} {es ys : List (List D)} (hx : evalO fr x = .gr k n) (hz : (evalO fr z).list? = some ys) (ho : s.obs[k]? = some [.rowc e n es]) (ht : appT P t = some (e,sz)) (hsz : ys.all (·.length == sz) = true) (hy : 0 < ys.length) (hb : okLen (es.length + ys.length) = true)
  (h : R (.gr k (n + 1)) ⟨s.obs.set k [.rowc e (n + 1) (es ++ ys)],s.lns⟩) : altR g ⟨d,.call ⟨.builtin .append,#[x,z],#[t,t]⟩,ty,p,af,gd⟩ fr s R := by
 intro w0 w G a hH hfr
 obtain ⟨i,zv,hu,hi,hiz,z1,z2,z3,z4⟩ := appT_parts ht
 obtain ⟨L,xs,a1,a2,a3,a4,a5,a6⟩ := inv_gr hH (hx ▸ evalO_rel hfr x) ho
 have hce : P.cellsOf e = sz := by simp [Program.cellsOf,hi,z2]
 have hLs : L.sz = i.size := by rw [a4,hce,z2]
 have hzr := list_rel (evalO_rel hfr z) hz
 obtain ⟨b,off,c,news,q1,n1,n2,n3,n4⟩ := list_news (fun b o v q=>(hH.fs b o v q).2) hzr hy hsz
 have hb' := okLen_le hb
 have hby : (es.length + ys.length) * i.bytes ≤ 140737488355328 := by
  have := Nat.mul_le_mul hb' z4
  omega
 rw [hLs,a2] at a5
 obtain ⟨gg,cap,w',r1,r2,r3⟩ := run_append_any (P := P) w t ty e i zv w0.heap.size hu hi hiz (z1.trans z2.symm) L.v es.length xs a5 ⟨b,off,none⟩ ys.length c news (by rw [n1,z2]) n2 n3 hy (by unfold maxLen; omega) hby hH.kp.size
 rw [← hLs] at a5 r2
 have hlen : (es ++ ys).length = es.length + ys.length := by simp
 have hrow : relRow G.F L.sz (es ++ ys) (xs ++ news) := by
  have hLsz : L.sz = sz := hLs.trans z2
  refine ⟨fun q c hq=>?_,fun q j c x hq hx=>?_⟩
  ·rcases Nat.lt_or_ge q es.length with hlt | hge
   ·rw [List.getElem?_append_left hlt] at hq; exact a6.1 _ _ hq
   ·rw [List.getElem?_append_right hge] at hq
    have := List.all_eq_true.1 hsz c (List.mem_of_getElem? hq)
    simp at this; omega
  ·rcases Nat.lt_or_ge q es.length with hlt | hge
   ·rw [List.getElem?_append_left hlt] at hq
    obtain ⟨u,u1,u2⟩ := a6.2 q j c x hq hx
    exact ⟨u,by rw [List.getElem?_append_left (getElem_lt u1)]; exact u1,u2⟩
   ·rw [List.getElem?_append_right hge] at hq
    obtain ⟨u,u1,u2⟩ := n4 _ j c x hq hx
    refine ⟨u,?_,u2⟩
    have e1 : xs.length = es.length * L.sz := a5.1
    have hc2 := List.all_eq_true.1 hsz c (List.mem_of_getElem? hq)
    have hj := getElem_lt hx
    rw [List.getElem?_append_right (by rw [e1]; exact Nat.le_trans (Nat.mul_le_mul_right _ hge) (by omega))]
    rw [← u1,e1,hLsz,Nat.sub_mul]
    congr 1
    have : es.length * sz ≤ q * sz := Nat.mul_le_mul_right _ hge
    omega
 have hob : s.obs[k]? = some [.rowc e L.n es] := by rw [a3]; exact ho
 rw [← hlen] at r2
 obtain ⟨hle,hN⟩ := hH.growRow a1 (es := es ++ ys) hob r3 r2 hrow
 rw [sg_set hob,a3] at hN
 have hN' : HR P w0 w' { G with rv := upd G.rv k ⟨L.n + 1,L.sz,.slice (some ⟨gg,0,none⟩) (es ++ ys).length cap⟩ } ⟨s.obs.set k [.rowc e (n + 1) (es ++ ys)],s.lns⟩ := by rw [a3]; exact hN
 refine ⟨.value (.slice (some ⟨gg,0,none⟩) (es.length + ys.length) cap),w',_,_,_,?_,.inl ⟨_,rfl,.gr k (n + 1) _ rfl _ (upd_same _ _ _) (.inl ⟨by rw [a3],by rw [hlen]⟩)⟩,hle,hN',h⟩
 simp [execOp,resolve,invoke,builtin,a2,q1,r1]
end
end Go.Proofs.YthljcnchaopncaaGreatDoor
