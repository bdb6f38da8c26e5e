import Derived.Test.YtjgngikiglhleaaGreatDoorRows
import Derived.WalkKit
import Derived.WalkSpells
import Derived.WalkLawsBesides
import Derived.Deep.QuietTactic
import Derived.BigQuiet
import Derived.Lib.Hide
import Derived.OpenShut
import Derived.Deep.AppendLies
import Derived.Deep.LoopGhost
import Derived.Deep.DeepCutAuto
import Derived.Deep.Light
namespace Go.Proofs.YtjgngikiglhleaaGreatDoor
open Go.RowKit
def Kp (w w' : World) : Prop := Below w.heap.size w w'
theorem Kp.refl (w : World) : Kp w w := Below.refl _ _
theorem Kp.size {w w' : World} (h : Kp w w') : w.heap.size ≤ w'.heap.size := Below.size h
theorem Kp.trans {a b c : World} (h : Kp a b) (k : Kp b c) : Kp a c := Below.trans h (Below.mono k h.size)
theorem Kp.alloc {a w : World} (h : Kp a w) (o : Obj) : Kp a (w.alloc o) := Below.alloc h h.size o
theorem Kp.drew {a w : World} (h : Kp a w) : Kp a w.drew := Below.drew h
theorem Kp.drewN {a w : World} (h : Kp a w) (n : Nat) : Kp a (w.drewN n) := by
 have hb : Below a.heap.size a w := h
 exact (⟨hb.os,hb.tape,hb.output,hb.size,hb.block⟩ : Below a.heap.size a (w.drewN n))
theorem Kp.setCell {a w : World} (h : Kp a w) {p : Addr} (hp : a.heap.size ≤ p.block) (u : Value) : Kp a (w.setCell p u) := Below.setCell h hp u
theorem Kp.below {a w : World} (h : Kp a w) : Below a.heap.size a w := h
theorem Kp.see {W w1 : World} (h : Kp W w1) : (∀ b o,b < W.heap.size → w1.cell? ⟨b,o,none⟩ = W.cell? ⟨b,o,none⟩) ∧ (∀ b o,b < W.heap.size → w1.frozen? ⟨b,o,none⟩ = W.frozen? ⟨b,o,none⟩) :=
 ⟨fun b o hb=>Below.cell h (p := ⟨b,o,none⟩) hb,fun b o hb=>Below.frozen h (p := ⟨b,o,none⟩) hb⟩
theorem Kp.grown {a w w' : World} {row : Option Nat} (h : Kp a w) (hg : w.grownBy w' row) (hr : ∀ k,row = some k → a.heap.size ≤ k) : Kp a w' := Below.grown h hg h.size hr
theorem Kp.grows {w w' : World} (h : Kp w w') (row : Option Nat) : w.grownBy w' row := ⟨Below.os h,Below.tape h,Below.output h,h.size,fun i hi _=>Below.block h i hi⟩
theorem own_kp {w w' : World} {base : Nat} {e : TypeId} {size : Nat} {v : Value} {n : Nat} {xs : List Value} (h : w.ownsRow base e size v n xs) (hk : Kp w w') : w'.ownsRow base e size v n xs := by
 cases hv : v.ownBlock with
 | none=>exact h.kept (hk.grows none) (.inl hv)
 | some g=>exact h.kept (hk.grows none) (.inr (by rw [hv]; simp))
theorem Kp.own {a w w' : World} {base : Nat} {e : TypeId} {size : Nat} {v : Value} {n : Nat} {xs : List Value} (h : Kp a w) (ho : w.ownsRow base e size v n xs) (hg : w.grownBy w' v.ownBlock) (hb : a.heap.size ≤ base) : Kp a w' :=
 h.grown hg fun k hk=>Nat.le_trans hb (ho.lt k hk).1
theorem own_slice {w : World} {base : Nat} {e : TypeId} {size : Nat} {v : Value} {n : Nat} {xs : List Value} (h : w.ownsRow base e size v n xs) : ∃ A c,v = .slice A n c := by
 rcases h.2 with ⟨rfl,rfl⟩ | ⟨g,cap,cur,rfl,_⟩
 ·exact ⟨_,_,rfl⟩
 ·exact ⟨_,_,rfl⟩
theorem own_mono {w : World} {base base' : Nat} {e : TypeId} {size : Nat} {v : Value} {n : Nat} {xs : List Value} (h : w.ownsRow base e size v n xs) (hb : base' ≤ base) : w.ownsRow base' e size v n xs := by
 rcases h.2 with h2 | ⟨g,cap,cur,hv,hg,r⟩
 ·exact ⟨h.1,.inl h2⟩
 ·exact ⟨h.1,.inr ⟨g,cap,cur,hv,Nat.le_trans hb hg,r⟩⟩
end Go.Proofs.YtjgngikiglhleaaGreatDoor
