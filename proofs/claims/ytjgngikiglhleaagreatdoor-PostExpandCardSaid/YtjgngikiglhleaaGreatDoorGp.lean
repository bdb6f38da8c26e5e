import Derived.Test.YtjgngikiglhleaaGreatDoorGo
namespace Go.Proofs.YtjgngikiglhleaaGreatDoor
open Go.ChangeShapes Go.WideShapes Go.ChangeAt Go.RowKit Go.Deep
theorem laidOut_ok : laidOutB Tryz.prog = true := by kernel_rfl
theorem Opn.argS {P : Program} {t : TypeId} {X : Type} {en : X → List D} {ok : X → Prop} (h0 : Opn P t en ok) {W : World} {H : Type} {enc : TypeId × Value → H} {cs : Array Value} {d : DataW H} {p : List MemPlace}
  (h : DataW.Trod enc P W 0 (fun _=>true) true t (.agg cs) d p) : ∃ s,rel (bareG (cellsF W)) (.agg ((en s).map .d)) (.agg cs) ∧ ok s := by
 obtain ⟨fuel,hd⟩ := h
 obtain ⟨s,r,o⟩ := h0 W H enc fuel _ _ hd
 exact ⟨s,r.agg,o⟩
theorem glob_arr {P : Program} {W : World} {n : String} {g : Nat} {cs : Array Value} {ns : List Int} {k : IntKind} (hg : P.globalNamed n = some g) (hv : W.var? P n = some cs) (hc : cs.toList = ns.map fun z=>Value.int k z) : ∃ u : Nat → Value,∀ (j : Nat) (x : D),(ns.map fun z=>D.int k z)[j]? = some x → cellsF W g j (u j) ∧ relD (cellsF W) x (u j) := by
 refine ⟨fun j=>.int k (ns.getD j 0),fun j x hx=>?_⟩
 rw [List.getElem?_map] at hx
 cases hq : ns[j]? with
 | none=>rw [hq] at hx; cases hx
 | some s =>
  rw [hq] at hx; simp at hx; subst hx
  have h := World.var?_cell hg hv j
  rw [← Array.getElem?_toList,hc,List.getElem?_map,hq] at h
  have hd : ns.getD j 0 = s := by simp [List.getD_eq_getElem?_getD,hq]
  simp only [hd]
  exact ⟨h,.int k s⟩
theorem glob_tab {P : Program} {W : World} {H : Type} {enc : TypeId × Value → H} {held : Bool} {fuel t e n : Nat} {cs : List Value} {ns : List Int} {p : List MemPlace} {k : IntKind} (ht : P.underlying t = some (.array n e)) (he : P.underlying e = some (.int k)) (hc : P.cellsOf e = 1) (hct : P.cellsOf t = n) (hn : ns.length = n)
  (h : DataW.trod enc P W 0 (fun _=>true) held fuel t cs = some (.agg (ns.map fun z=>.lit (.int k z)),p)) : cs = ns.map fun z=>Value.int k z := by
 obtain ⟨xs,m,_,hx,hl,hxl,hf⟩ := DataW.trod_array ht h
 have hx1 := DataW.agg.inj (Prod.mk.inj hx).1
 apply List.ext_getElem?
 intro i
 rcases Nat.lt_or_ge i n with hi | hi
 ·have q := hf i hi
  rw [List.getElem?_eq_getElem (by omega)] at q
  obtain ⟨z,e1,e2,_⟩ := DataW.trod_int he q
  rw [hc,Nat.mul_one] at e1
  have hx2 := congrArg (fun l : List (DataW H)=>l[i]?) hx1
  simp only [List.getElem?_map] at hx2
  rw [List.getElem?_eq_getElem (show i < xs.length by omega),List.getElem?_eq_getElem (show i < ns.length by omega)] at hx2
  simp only [Option.map_some,Option.some.injEq] at hx2
  rw [e2] at hx2
  injection hx2 with hx2
  injection hx2 with _ hx2
  rw [List.getElem?_map,List.getElem?_eq_getElem (show i < ns.length by omega),Option.map_some,hx2]
  have := congrArg (fun l : List Value=>l[0]?) e1
  simpa [List.getElem?_take,List.getElem?_drop] using this
 ·rw [List.getElem?_eq_none (by omega),List.getElem?_eq_none (by simp; omega)]
theorem var_row {P : Program} {W : World} {n : String} {g : Nat} {cs : Array Value} (hg : P.globalNamed n = some g) (hv : W.var? P n = some cs) : ∃ t f,W.heap[g]? = some (.cells cs t f) := by
 simp only [World.var?,hg,Option.bind_some] at hv
 split at hv
 ·rename_i c t f hq
  injection hv with hv
  subst hv
  exact ⟨t,f,hq⟩
 ·cases hv
end Go.Proofs.YtjgngikiglhleaaGreatDoor
