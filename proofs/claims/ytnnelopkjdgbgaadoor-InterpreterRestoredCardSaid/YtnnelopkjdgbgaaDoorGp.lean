import Derived.Test.YtnnelopkjdgbgaaDoorGo
namespace Go.Proofs.YtnnelopkjdgbgaaDoor
open Go.ChangeShapes Go.WideShapes Go.ChangeAt Go.RowKit Go.Deep
theorem laidOut_ok : laidOutB Tryd.prog = true := by kernel_rfl
theorem Opn.arg {P : Program} {t : TypeId} {X : Type} {en : X → List D} {ok : X → Prop} (h0 : Opn P t en ok) (f : X → D) (hf : ∀ s,en s = [f s]) {W : World} {H : Type} {enc : TypeId × Value → H} {v : Value} {d : DataW H} {p : List MemPlace}
  (h1 : v.cells.toList = [v]) (h : DataW.Trod enc P W 0 (fun _=>true) true t v d p) : ∃ s,rel (bareG (cellsF W)) (.d (f s)) v ∧ ok s := by
 obtain ⟨fuel,hd⟩ := h
 rw [h1] at hd
 obtain ⟨s,r,o⟩ := h0 W H enc fuel _ _ hd
 rw [hf s] at r
 exact ⟨s,.d r.single,o⟩
theorem Opn.argS {P : Program} {t : TypeId} {X : Type} {en : X → List D} {ok : X → Prop} (h0 : Opn P t en ok) {W : World} {H : Type} {enc : TypeId × Value → H} {cs : Array Value} {d : DataW H} {p : List MemPlace}
  (h : DataW.Trod enc P W 0 (fun _=>true) true t (.agg cs) d p) : ∃ s,rel (bareG (cellsF W)) (.agg ((en s).map .d)) (.agg cs) ∧ ok s := by
 obtain ⟨fuel,hd⟩ := h
 obtain ⟨s,r,o⟩ := h0 W H enc fuel _ _ hd
 exact ⟨s,r.agg,o⟩
theorem glob_ints {P : Program} {W : World} {H : Type} {enc : TypeId × Value → H} {held : Bool} {fuel t e : Nat} {cs : List Value} {ns : List Int} {rest : List (DataW H)} {p : List MemPlace} {k : IntKind} (ht : P.underlying t = some (.slice e)) (he : P.underlying e = some (.int k)) (hc : P.cellsOf e = 1)
  (h : DataW.trod enc P W 0 (fun _=>true) held fuel t cs = some (.slice (ns.map fun n=>.lit (.int k n)) rest,p)) : ∃ u,cs = [u] ∧ relD (cellsF W) (.list (ns.map fun n=>[.int k n])) u := by
 rcases open_slice ht h with ⟨_,hx⟩ | ⟨a,len,cap,m,n,DD,Pl,rfl,_,hl,hm,hmm,hx,hi⟩
 ·cases hx
 ·simp only [if_true] at hmm
  subst m
  refine ⟨_,rfl,?_⟩
  have hx1 := (DataW.slice.inj (Prod.mk.inj hx).1).1
  have hlen : ns.length = len := by have := congrArg List.length hx1; simpa using this
  have hD : ∀ i,i < len → ∀ n,ns[i]? = some n → DD i = .lit (.int k n) := by
   intro i hil n hn
   have := congrArg (fun l : List (DataW H)=>l[i]?) hx1
   simp [List.getElem?_map,hn,List.getElem?_range hil] at this
   exact this.symm
  have hcell : ∀ i n,ns[i]? = some n → W.cell? (a.add i) = some (.int k n) := by
   intro i nn hn
   have hil : i < len := by rw [← hlen]; exact getElem_lt hn
   obtain ⟨cs',hcs,htr⟩ := hi i (by omega)
   obtain ⟨n',rfl,hx2,_⟩ := DataW.trod_int he htr
   have e1 := (Prod.mk.inj hx2).1
   rw [hD i hil nn hn] at e1
   injection e1 with e1
   injection e1 with e1 e2
   subst e2
   rw [hc,Nat.mul_one] at hcs
   obtain ⟨_,_,hat⟩ := World.cells?_some hcs
   have := hat 0 (by omega)
   rw [Go.Deep.add_add,Nat.add_zero] at this
   simpa using this
  rcases Nat.eq_zero_or_pos len with z | z
  ·have : ns = [] := List.eq_nil_of_length_eq_zero (by omega)
   subst this
   rw [z]
   exact .nil _ _
  ·obtain ⟨b,off,spot⟩ := a
   have hspot : spot = none := by
    obtain ⟨n0,hn0⟩ : ∃ n,ns[0]? = some n := ⟨_,List.getElem?_eq_getElem (by omega)⟩
    simpa [Addr.add] using World.cell?_spot (hcell 0 n0 hn0)
   subst hspot
   have key := relD.list (F := cellsF W) (ns.map fun n=>[D.int k n]) b off cap 1 (fun i _=>.int k (ns.getD i 0)) (by simp; omega) (by simp; omega)
    (fun i e' he'=>by
     rw [List.getElem?_map] at he'
     cases hq : ns[i]? with
     | none=>rw [hq] at he'; cases he'
     | some s=>rw [hq] at he'; simp at he'; subst he'; rfl)
    (fun i j e' d he' hd=>by
     rw [List.getElem?_map] at he'
     cases hq : ns[i]? with
     | none=>rw [hq] at he'; cases he'
     | some s =>
      rw [hq] at he'; simp at he'; subst he'
      have hj : j = 0 := by
       cases j with
       | zero=>rfl
       | succ j=>simp at hd
      subst hj
      have := hcell i s hq
      rw [addr_at] at this
      unfold cellsF
      simp only [Nat.mul_one,Nat.add_zero]
      rw [this,List.getD_eq_getElem?_getD,hq]; rfl)
    (fun i j e' d he' hd=>by
     rw [List.getElem?_map] at he'
     cases hq : ns[i]? with
     | none=>rw [hq] at he'; cases he'
     | some s =>
      rw [hq] at he'; simp at he'; subst he'
      have hj : j = 0 := by
       cases j with
       | zero=>rfl
       | succ j=>simp at hd
      subst hj
      simp at hd; subst hd
      rw [List.getD_eq_getElem?_getD,hq]
      exact .int k s)
   rw [List.length_map,hlen] at key
   exact key
theorem var_cell {P : Program} {W : World} {n : String} {g : Nat} {u : Value} {cs : Array Value} (hg : P.globalNamed n = some g) (hv : W.var? P n = some cs) (hc : cs.toList = [u]) : W.cell? ⟨g,0,none⟩ = some u := by
 have := World.var?_cell hg hv 0
 rw [this,← Array.getElem?_toList,hc]; rfl
end Go.Proofs.YtnnelopkjdgbgaaDoor
