import Derived.Test.YtpdjgamdnjfmkaaGreatDoorGo
namespace Go.Proofs.YtpdjgamdnjfmkaaGreatDoor
open Go.ChangeShapes Go.WideShapes Go.ChangeAt Go.RowKit Go.Deep
theorem laidOut_ok : laidOutB Tryz.prog = true := by kernel_rfl
theorem Opn.arg {P : Program} {t : TypeId} {X : Type} {en : X → List D} {ok : X → Prop} (h0 : Opn P t en ok) (f : X → D) (hf : ∀ s, en s = [f s]) {W : World} {H : Type} {enc : TypeId × Value → H} {v : Value} {d : DataW H} {p : List MemPlace}
  (h1 : v.cells.toList = [v]) (h : DataW.Trod enc P W 0 (fun _ => true) true t v d p) : ∃ s, rel (bareG (cellsF W)) (.d (f s)) v ∧ ok s := by
 obtain ⟨fuel, hd⟩ := h
 rw [h1] at hd
 obtain ⟨s, r, o⟩ := h0 W H enc fuel _ _ hd
 rw [hf s] at r
 exact ⟨s, .d r.single, o⟩
end Go.Proofs.YtpdjgamdnjfmkaaGreatDoor
