import Derived.Test.YtipefnighcdgnaaGreatDoorJy
import Derived.Test.YtipefnighcdgnaaGreatDoorMLParse
namespace Go.Proofs.YtipefnighcdgnaaGreatDoor
open Go.RowKit
theorem decQ_BQ {neg : Bool} {w p : List UInt8} (h : (w ++ p).all isD = true) : BQ (w.length + p.length + 1) (decQ neg w p) := by
 have := Bd_num h
 rw [List.length_append] at this
 exact divInt_BQ (Bd_sign this) ((Bd_ten _).mono (by omega)) (Int.ne_of_gt (ten_pos _))
theorem decimalParse_plain (s : List UInt8) (_ : inStr s) : l06_DecimalParse s = some true := by
 unfold l06_DecimalParse
 rw [awake06, bindO_s, if_pos rfl, bindO_s]
 by_cases hl : (s.length : Int) > 200
 ·rw [decide_eq_true hl]; rfl
 ·rw [decide_eq_false hl]
  simp only [Bool.false_eq_true, if_false]
  obtain ⟨neg, b, hs⟩ : ∃ neg b, strip s = (neg, b) := ⟨_, _, rfl⟩
  obtain ⟨w, p, pt, hc⟩ : ∃ w p pt, cutV b = (w, p, pt) := ⟨_, _, _, rfl⟩
  rw [dc_Parse_eq hs hc (by omega), bindO_s, r06_Parse_eq hs hc (by omega), bindO_s]
  cases ho : okD neg w p pt with
  | false => rfl
  | true =>
   have hbl : b.length ≤ s.length := by have := strip_len s; rw [hs] at this; exact this
   obtain ⟨hbw, hpt⟩ := cutV_len hc
   have ho' := ho
   unfold okD at ho'
   rw [Bool.and_eq_true] at ho'
   obtain ⟨g1, g2, g3, g4, g5⟩ := good_all ho'.1 hpt
   have hall : (w ++ p).all isD = true := by rw [List.all_append, g1, g3]; rfl
   have hwl : w.length ≤ b.length := by omega
   simp only [if_true, beq_self_eq_true]
   rw [r02_Same_eq (decQ_BQ hall) (by omega), decide_eq_true rfl]
   rfl
end Go.Proofs.YtipefnighcdgnaaGreatDoor
