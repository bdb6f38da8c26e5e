import Derived.Test.YthljcnchaopncaaGreatDoorGo
namespace Go.Proofs.YthljcnchaopncaaGreatDoor
open Go.ChangeShapes Go.WideShapes Go.ChangeAt Go.RowKit Go.Deep
theorem laidOut_ok : laidOutB Tryz.prog = true := by kernel_rfl
theorem Opn.arg {P : Program} {t : TypeId} {X : Type} {en : X → List D} {ok : X → Prop} (h0 : Opn P t en ok) (f : X → D) (hf : ∀ s,en s = [f s]) {W : World} {H : Type} {enc : TypeId × Value → H} {v : Value} {d : DataW H} {p : List MemPlace}
  (h1 : v.cells.toList = [v]) (h : DataW.Trod enc P W 0 (fun _=>true) true t v d p) : ∃ s,rel (bareG (cellsF W)) (.d (f s)) v ∧ ok s := by
 obtain ⟨fuel,hd⟩ := h
 rw [h1] at hd
 obtain ⟨s,r,o⟩ := h0 W H enc fuel _ _ hd
 rw [hf s] at r
 exact ⟨s,.d r.single,o⟩
theorem var_cell {P : Program} {W : World} {n : String} {g : Nat} {u : Value} {cs : Array Value} (hg : P.globalNamed n = some g) (hv : W.var? P n = some cs) (hc : cs.toList = [u]) : W.cell? ⟨g,0,none⟩ = some u := by
 have := World.var?_cell hg hv 0
 rw [this,← Array.getElem?_toList,hc]; rfl
theorem glob_tab {P : Program} {W : World} {H : Type} {enc : TypeId × Value → H} {held : Bool} {fuel t e n : Nat} {cs : List Value} {ns : List Int} {p : List MemPlace} {k : IntKind} (ht : P.underlying t = some (.array n e)) (he : P.underlying e = some (.int k)) (hc : P.cellsOf e = 1) (hct : P.cellsOf t = n) (hn : ns.length = n)
  (h : DataW.trod enc P W 0 (fun _=>true) held fuel t cs = some (.agg (ns.map fun z=>.lit (.int k z)),p)) : cs = ns.map fun z=>Value.int k z := by
 obtain ⟨xs,m,_,hx,hl,hxl,hf⟩ := DataW.trod_array ht h
 have hx1 := DataW.agg.inj (Prod.mk.inj hx).1
 apply List.ext_getElem?
 intro i
 rcases Nat.lt_or_ge i n with hi | hi
 ·have q := hf i hi
  rw [List.getElem?_eq_getElem (by omega)] at q
  obtain ⟨z,e1,e2,_⟩ := DataW.trod_int he q
  rw [hc,Nat.mul_one] at e1
  have hx2 := congrArg (fun l : List (DataW H)=>l[i]?) hx1
  simp only [List.getElem?_map] at hx2
  rw [List.getElem?_eq_getElem (show i < xs.length by omega),List.getElem?_eq_getElem (show i < ns.length by omega)] at hx2
  simp only [Option.map_some,Option.some.injEq] at hx2
  rw [e2] at hx2
  injection hx2 with hx2
  injection hx2 with _ hx2
  rw [List.getElem?_map,List.getElem?_eq_getElem (show i < ns.length by omega),Option.map_some,hx2]
  have := congrArg (fun l : List Value=>l[0]?) e1
  simpa [List.getElem?_take,List.getElem?_drop] using this
 ·rw [List.getElem?_eq_none (by omega),List.getElem?_eq_none (by simp; omega)]
theorem glob_err {P : Program} {W : World} {H : Type} {enc : TypeId × Value → H} {held : Bool} {fuel t : Nat} {cs : List Value} {x : DataW H × List MemPlace} (hi : ifaceT P t = true) (h : DataW.trod enc P W 0 (fun _=>true) held fuel t cs = some x) : ∃ u,cs = [u] ∧ (u = .nilIface ∨ ∃ te pe,u = .iface te pe) := by
 unfold ifaceT at hi
 split at hi
 ·rename_i ms ht
  cases fuel with
  | zero=>simp [DataW.trod] at h
  | succ n =>
   rcases cs with _ | ⟨c,_ | ⟨c',r⟩⟩
   ·simp [DataW.trod,ht] at h
   ·cases c <;> first | exact ⟨_,rfl,.inl rfl⟩ | exact ⟨_,rfl,.inr ⟨_,_,rfl⟩⟩ | (simp [DataW.trod,ht] at h)
   ·simp [DataW.trod,ht] at h
 ·cases hi
theorem var_row {P : Program} {W : World} {n : String} {g : Nat} {cs : Array Value} (hg : P.globalNamed n = some g) (hv : W.var? P n = some cs) : ∃ t f,W.heap[g]? = some (.cells cs t f) := by
 simp only [World.var?,hg,Option.bind_some] at hv
 split at hv
 ·rename_i c t f hq
  injection hv with hv
  subst hv
  exact ⟨t,f,hq⟩
 ·cases hv
end Go.Proofs.YthljcnchaopncaaGreatDoor
