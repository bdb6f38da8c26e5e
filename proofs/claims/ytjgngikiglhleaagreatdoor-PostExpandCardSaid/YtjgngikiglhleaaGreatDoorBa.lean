import Derived.Test.YtjgngikiglhleaaGreatDoorMB
import Derived.Test.YtjgngikiglhleaaGreatDoorMV
import Derived.Test.YtjgngikiglhleaaGreatDoorPz
import Derived.Test.YtjgngikiglhleaaGreatDoorGp
namespace Go.Proofs.YtjgngikiglhleaaGreatDoor
open Go.RowKit
theorem wrap_i64 {n : Int} (h : -9223372036854775808 ≤ n) (h2 : n ≤ 9223372036854775807) : IntKind.i64.wrap n = n := IntWalk.i64_in _ ⟨h,by omega⟩
theorem gt_k {α : Type} {l : List α} {k : Nat} {x : α} (h : l[k]? = some x) : gt l (k : Int) = some x := by
 unfold gt
 have hl := getElem_lt h
 rw [if_neg (by omega)]
 simpa using h
theorem r41_equal_eq (a b : ApiBlock) (ha : a.Words.length ≤ 1000000) : r41_Equal a b = some (decide (a = b)) := by
 have key : Tot (r41_Equal a b) (fun e=>e = decide (a = b)) := by
  unfold r41_Equal
  refine Tot.ite (fun h=>.ok ?_) (fun h=>?_)
  ·refine (decide_eq_false fun q=>?_).symm
   subst q
   simp at h
  ·simp only [Bool.or_eq_false_iff,Bool.not_eq_false',beq_iff_eq,bne_eq_false_iff_eq] at h
   obtain ⟨h1,h2,h3⟩ := h
   have hlm : a.Words.length = b.Words.length := by omega
   refine Tot.bindX (E := fun _=>a.Words = b.Words) (TotX.of (Tot.mono (E := fun x=>(x = .ret false ∧ a.Words ≠ b.Words) ∨ (x = .go () ∧ a.Words = b.Words)) ?_ ?_)) (fun x hx=>.ok ?_)
   ·refine Tot.guard (okIdx_of (by omega)) (Tot.range (fun i _=>∀ (k : Nat),k < i → a.Words[k]? = b.Words[k]?) _ (fun k q=>by omega) (fun i x v hx hr=>?_) (fun v hr=>.ok (.inr ⟨rfl,?_⟩)))
    ·have hlt := getElem_lt hx
     obtain ⟨y,hy,hy2⟩ := gt_ok' (l := b.Words) (i := (i : Int)) (by omega) (by omega)
     rw [hy,bindO_s]
     simp only [Int.toNat_natCast] at hy2
     refine TotX.ite (fun h2=>.ret (.inl ⟨rfl,fun q=>?_⟩)) (fun h2=>.go (fun k hk=>?_))
     ·rw [q,hy2] at hx; injection hx with hx; subst hx
      simp at h2
     ·rcases Nat.lt_or_ge k i with q | q
      ·exact hr k q
      ·obtain rfl : k = i := by omega
       rw [hx,hy2]
       obtain ⟨x1,x2⟩ := x; obtain ⟨y1,y2⟩ := y
       simp at h2
       rw [h2.1,h2.2]
    ·apply List.ext_getElem?
     intro k
     rcases Nat.lt_or_ge k a.Words.length with q | q
     ·exact hr k q
     ·rw [List.getElem?_eq_none q,List.getElem?_eq_none (by omega)]
   ·rintro x (⟨rfl,h3⟩ | ⟨rfl,h3⟩)
    ·exact (decide_eq_false (fun q=>h3 (by rw [q]))).symm
    ·exact h3
   ·refine (decide_eq_true ?_).symm
    obtain ⟨a1,a2,a3⟩ := a; obtain ⟨b1,b2,b3⟩ := b
    simp only at h1 h2 hx
    rw [h1,h2,hx]
 obtain ⟨e,he,rfl⟩ := key
 exact he
end Go.Proofs.YtjgngikiglhleaaGreatDoor
