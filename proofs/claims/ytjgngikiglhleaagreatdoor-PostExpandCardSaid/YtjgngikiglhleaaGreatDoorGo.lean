import Derived.Test.YtjgngikiglhleaaGreatDoorGx
import Derived.ProofKit
import Derived.ChangeArms
import Derived.OpenShut
import Derived.Deep.Slices
namespace Go.Proofs.YtjgngikiglhleaaGreatDoor
open Go.ChangeShapes Go.WideShapes Go.ChangeAt Go.RowKit Go.Deep
def cellsF (w : World) (b o : Nat) (u : Value) : Prop := w.cell? ⟨b,o,none⟩ = some u
def RelC (w : World) (ds : List D) (cs : List Value) : Prop := ds.length = cs.length ∧ ∀ (j : Nat) (d : D) (c : Value),ds[j]? = some d → cs[j]? = some c → relD (cellsF w) d c
theorem RelC.one {w : World} {d : D} {c : Value} (h : relD (cellsF w) d c) : RelC w [d] [c] := by
 refine ⟨rfl,fun j d' c' h1 h2=>?_⟩
 cases j with
 | zero=>simp at h1 h2; subst h1; subst h2; exact h
 | succ j=>simp at h1
theorem RelC.cut {w : World} {d r : List D} {cs : List Value} (off k : Nat) (h : RelC w d ((cs.drop off).take k)) (hk : d.length = k) (h2 : RelC w r (cs.drop (off + k))) : RelC w (d ++ r) (cs.drop off) := by
 have hl := h.1
 have hl2 := h2.1
 simp only [List.length_take,List.length_drop] at hl hl2
 refine ⟨by simp only [List.length_append,List.length_drop]; omega,fun j x c q1 q2=>?_⟩
 rcases Nat.lt_or_ge j d.length with z | z
 ·rw [List.getElem?_append_left z] at q1
  exact h.2 j x c q1 (by rw [List.getElem?_take,if_pos (by omega)]; exact q2)
 ·rw [List.getElem?_append_right z] at q1
  refine h2.2 (j - d.length) x c q1 ?_
  rw [List.getElem?_drop] at q2 ⊢
  rw [← q2]; congr 1; omega
theorem RelC.nil {w : World} {cs : List Value} {n : Nat} (h : cs.length ≤ n) : RelC w [] (cs.drop n) := ⟨by simp; omega,fun j d c h1 _=>by simp at h1⟩
def Opn (P : Program) (t : TypeId) {X : Type} (en : X → List D) (ok : X → Prop) : Prop :=
 ∀ (w : World) (H : Type) (enc : TypeId × Value → H) (fuel : Nat) (cs : List Value) (x : DataW H × List MemPlace),DataW.trod enc P w 0 (fun _=>true) true fuel t cs = some x → ∃ s : X,RelC w (en s) cs ∧ ok s
def inInt (k : IntKind) (n : Int) : Prop := (Lit.int k n).wf = true
def inBool (_ : Bool) : Prop := True
def inStr (s : List UInt8) : Prop := s.length ≤ maxLen
def inList {X : Type} (ok : X → Prop) (l : List X) : Prop := l.length ≤ maxLen ∧ ∀ x ∈ l,ok x
variable {P : Program} {t : TypeId}
theorem Opn.int {k : IntKind} (ht : P.underlying t = some (.int k)) : Opn P t (eInt k) (inInt k) := by
 intro w H enc fuel cs x h
 obtain ⟨n,rfl,_,h2⟩ := DataW.trod_int ht h
 exact ⟨n,.one (.int k n),h2⟩
theorem Opn.bool (ht : P.underlying t = some .bool) : Opn P t eBool inBool := by
 intro w H enc fuel cs x h
 obtain ⟨b,rfl,_⟩ := DataW.trod_bool ht h
 exact ⟨b,.one (.bool b),trivial⟩
theorem Opn.str (ht : P.underlying t = some .string) : Opn P t eStr inStr := by
 intro w H enc fuel cs x h
 obtain ⟨s,rfl,_,h2⟩ := DataW.trod_string ht h
 refine ⟨s.data.toList,.one ?_,by unfold inStr; simpa using h2⟩
 have := relD.str (F := cellsF w) s.data.toList
 simpa using this
theorem addr_at {b off n : Nat} : (⟨b,off,none⟩ : Addr).add n = ⟨b,off + n,none⟩ := by
 unfold Addr.add
 split
 ·rename_i h; simp_all
 ·rfl
theorem each_list {X : Type} {n : Nat} {Q : Nat → X → Prop} (h : ∀ i,i < n → ∃ m,Q i m) : ∃ l : List X,l.length = n ∧ ∀ i m,l[i]? = some m → Q i m := by
 induction n with
 | zero=>exact ⟨[],rfl,fun i m hi=>by simp at hi⟩
 | succ n ih =>
  obtain ⟨l,h1,h2⟩ := ih (fun i hi=>h i (by omega))
  obtain ⟨m,hm⟩ := h n (by omega)
  refine ⟨l ++ [m],by simp [h1],fun i x hi=>?_⟩
  rcases Nat.lt_or_ge i l.length with z | z
  ·rw [List.getElem?_append_left z] at hi; exact h2 i x hi
  ·rw [List.getElem?_append_right z] at hi
   have : i - l.length = 0 := by
    rcases Nat.eq_zero_or_pos (i - l.length) with q | q
    ·exact q
    ·rw [List.getElem?_eq_none (by simp; omega)] at hi; cases hi
   rw [this] at hi
   simp at hi; subst hi
   rw [show i = n by omega]; exact hm
theorem Opn.slice {e : TypeId} {X : Type} {en : X → List D} {ok : X → Prop} (ht : P.underlying t = some (.slice e)) (h0 : Opn P e en ok) (hz : ∀ x,(en x).length = P.cellsOf e) (hp : 0 < P.cellsOf e) :
  Opn P t (eList en) (inList ok) := by
 intro w H enc fuel cs x h
 rcases open_slice ht h with ⟨rfl,_⟩ | ⟨a,len,cap,m,n,DD,Pl,rfl,_,hl,hm,hmm,_,hi⟩
 ·exact ⟨[],.one (.nil _ _),by simp [inList]⟩
 ·simp only [if_true] at hmm
  subst m
  have hQ : ∀ i,i < len → ∃ s : X,ok s ∧ ∃ cs',w.cells? 0 (a.add (i * P.cellsOf e)) (P.cellsOf e) = some cs' ∧ RelC w (en s) cs' := by
   intro i hil
   obtain ⟨cs',hc,ht'⟩ := hi i (by omega)
   obtain ⟨s,r,o⟩ := h0 w H enc n cs' _ ht'
   exact ⟨s,o,cs',hc,r⟩
  obtain ⟨l,hll,hlq⟩ := each_list hQ
  refine ⟨l,.one ?_,by omega,fun s hs=>?_⟩
  ·rcases Nat.eq_zero_or_pos len with z | z
   ·have : l = [] := List.eq_nil_of_length_eq_zero (by omega)
    subst this
    rw [z]
    exact .nil _ _
   ·obtain ⟨b,off,spot⟩ := a
    have hcell : ∀ i s,l[i]? = some s → ∀ j d,(en s)[j]? = some d → ∃ u,w.cell? ((⟨b,off,spot⟩ : Addr).add (i * P.cellsOf e + j)) = some u ∧ relD (cellsF w) d u := by
     intro i s his j d hd
     obtain ⟨_,cs',hc,hr⟩ := hlq i s his
     obtain ⟨_,_,hat⟩ := World.cells?_some hc
     have hj : j < P.cellsOf e := by rw [← hz s]; exact getElem_lt hd
     have := hat j hj
     rw [Go.Deep.add_add] at this
     have hjc : j < cs'.length := by rw [← hr.1,hz]; exact hj
     refine ⟨cs'[j],?_,hr.2 j d _ hd (List.getElem?_eq_getElem hjc)⟩
     rw [this,List.getElem?_eq_getElem hjc]
    have hspot : spot = none := by
     obtain ⟨s0,hs0⟩ : ∃ s,l[0]? = some s := ⟨_,List.getElem?_eq_getElem (by omega)⟩
     obtain ⟨d0,hd0⟩ : ∃ d,(en s0)[0]? = some d := ⟨_,List.getElem?_eq_getElem (by rw [hz]; exact hp)⟩
     obtain ⟨u,hu,_⟩ := hcell 0 s0 hs0 0 d0 hd0
     simpa [Addr.add] using World.cell?_spot hu
    subst hspot
    have key := relD.list (F := cellsF w) (l.map en) b off cap (P.cellsOf e) (fun i j=>(w.cell? ⟨b,off + i * P.cellsOf e + j,none⟩).getD Go.undef) (by simp; omega) (by simp; omega)
     (fun i e' he=>by
      rw [List.getElem?_map] at he
      cases hq : l[i]? with
      | none=>rw [hq] at he; cases he
      | some s=>rw [hq] at he; simp at he; subst he; exact hz s)
     (fun i j e' d he hd=>by
      rw [List.getElem?_map] at he
      cases hq : l[i]? with
      | none=>rw [hq] at he; cases he
      | some s =>
       rw [hq] at he; simp at he; subst he
       obtain ⟨u,hu,_⟩ := hcell i s hq j d hd
       have hu' : w.cell? ⟨b,off + i * P.cellsOf e + j,none⟩ = some u := by rw [addr_at] at hu; simpa [Nat.add_assoc] using hu
       unfold cellsF
       rw [hu']; rfl)
     (fun i j e' d he hd=>by
      rw [List.getElem?_map] at he
      cases hq : l[i]? with
      | none=>rw [hq] at he; cases he
      | some s =>
       rw [hq] at he; simp at he; subst he
       obtain ⟨u,hu,hr⟩ := hcell i s hq j d hd
       have hu' : w.cell? ⟨b,off + i * P.cellsOf e + j,none⟩ = some u := by rw [addr_at] at hu; simpa [Nat.add_assoc] using hu
       rw [hu']; exact hr)
    rw [List.length_map,hll] at key
    exact key
  ·obtain ⟨i,hi,rfl⟩ := List.mem_iff_getElem.1 hs
   exact (hlq i _ (List.getElem?_eq_getElem hi)).1
theorem Opn.field {H : Type} {enc : TypeId × Value → H} {w : World} {fs : Array Field} {n : Nat} {cs : List Value} {xs : List (DataW H × List MemPlace)} (hf : ∀ (i : Nat) (f : Field),fs[i]? = some f → DataW.trod enc P w 0 (fun _=>true) true n f.type ((cs.drop f.offset).take (P.cellsOf f.type)) = xs[i]?)
  (i : Nat) (t off k : Nat) (h : fs[i]?.map (fun f=>(f.type,f.offset)) = some (t,off)) (hc : P.cellsOf t = k) (hi : i < xs.length) {X : Type} {en : X → List D} {ok : X → Prop} (ho : Opn P t en ok) : ∃ s : X,RelC w (en s) ((cs.drop off).take k) ∧ ok s := by
 obtain ⟨f,h1,h2⟩ := Option.map_eq_some_iff.1 h
 injection h2 with h2 h3
 subst h2 h3 hc
 exact ho w H enc n _ _ ((hf i f h1).trans (List.getElem?_eq_getElem hi))
theorem Opn.elem {H : Type} {enc : TypeId × Value → H} {w : World} {e n m : Nat} {cs : List Value} {xs : List (DataW H × List MemPlace)} (hf : ∀ (i : Nat),i < n → DataW.trod enc P w 0 (fun _=>true) true m e ((cs.drop (i * P.cellsOf e)).take (P.cellsOf e)) = xs[i]?)
  (i k : Nat) (hc : P.cellsOf e = k) (hi : i < n) (hx : xs.length = n) {X : Type} {en : X → List D} {ok : X → Prop} (ho : Opn P e en ok) : ∃ s : X,RelC w (en s) ((cs.drop (i * k)).take k) ∧ ok s := by
 subst hc
 exact ho w H enc m _ _ ((hf i hi).trans (List.getElem?_eq_getElem (by omega)))
theorem RelC.agg {w : World} {ds : List D} {cs : Array Value} (h : RelC w ds cs.toList) : rel (bareG (cellsF w)) (.agg (ds.map .d)) (.agg cs) := by
  have := rel.agg (G := bareG (cellsF w)) (ds.map V.d) cs.toList (by simpa using h.1) (fun i x v h1 h2=>by
    rw [List.getElem?_map] at h1
    cases hq : ds[i]? with
    | none=>rw [hq] at h1; cases h1
    | some d=>rw [hq] at h1; simp at h1; subst h1; exact .d (h.2 i d v hq h2))
  simpa using this
end Go.Proofs.YtjgngikiglhleaaGreatDoor
