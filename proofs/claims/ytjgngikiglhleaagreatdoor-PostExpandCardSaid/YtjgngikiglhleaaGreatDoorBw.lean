import Derived.Test.YtjgngikiglhleaaGreatDoorBa
import Derived.Test.YtjgngikiglhleaaGreatDoorMW
namespace Go.Proofs.YtjgngikiglhleaaGreatDoor
open Go.RowKit
set_option linter.unusedVariables false
set_option linter.unusedSimpArgs false
def codesV (l : List ApiWord) (c : Int) : List Int := (l.filter fun w=>w.Letter == c).map (·.Value)
def findV (l : List ApiWord) (c : Int) : Int × Bool := match l.find? (fun w=>w.Letter == c) with | some w=>(w.Value,true) | none=>(0,false)
theorem bk_Find_eq (b : ApiBlock) (c : Int) (hb : b.Words.length ≤ 1000000) : bk_Find b c = some (findV b.Words c) := by
 unfold bk_Find findV
 rw [okIdx_of (by omega),guardO_t,range_find (p := fun w : ApiWord=>w.Letter == c) (e := fun w=>(w.Value,true)) _ _ (fun i x=>rfl)]
 cases b.Words.find? (fun w=>w.Letter == c) with
 | none=>rfl
 | some w=>rfl
theorem codes_fold (c : Int) : ∀ (l : List ApiWord) (o : List Int),l.foldl (fun (v : List Int) (w : ApiWord)=>if w.Letter == c then v ++ [w.Value] else v) o = o ++ codesV l c
 | [],o=>by simp [codesV]
 | w :: l,o=>by
  rw [List.foldl_cons,codes_fold c l]
  unfold codesV
  cases h : (w.Letter == c) with
  | true=>simp [h]
  | false=>simp [h]
theorem codesV_len (l : List ApiWord) (c : Int) : (codesV l c).length ≤ l.length := by
 unfold codesV
 rw [List.length_map]
 exact List.length_filter_le _ _
theorem bk_Codes_eq (b : ApiBlock) (c : Int) (hb : b.Words.length ≤ 1000000) : bk_Codes b c = some (codesV b.Words c) := by
 unfold bk_Codes
 rw [okIdx_of (by omega),guardO_t,range_fold (g := fun (v : List Int) (w : ApiWord)=>if w.Letter == c then v ++ [w.Value] else v) (R := fun i v=>v.length ≤ i) (L := b.Words) ?_ b.Words 0 [] rfl (by simp),codes_fold]
 ·rfl
 ·intro i x v hx hr
  have hlt := getElem_lt hx
  cases h : (x.Letter == c) with
  | true=>simp only [if_true]; rw [okLen_of (by omega),guardO_t,bindO_s]; exact ⟨rfl,by simp; omega⟩
  | false=>exact ⟨rfl,by simp; omega⟩
theorem words_tot (l m : List ApiWord) (hl : l.length ≤ 1000000) : Tot (slices_Equal_api_Word_api_Word l m) (fun b=>b = decide (l = m)) := by
 unfold slices_Equal_api_Word_api_Word
 refine Tot.ite (fun h=>.ok ?_) (fun h=>?_)
 ·simp at h
  exact (decide_eq_false (fun q=>h (by rw [q]))).symm
 ·have hlm : l.length = m.length := by simp at h; omega
  refine Tot.bindX (E := fun _=>l = m) (TotX.of (Tot.mono (E := fun x=>(x = .ret false ∧ l ≠ m) ∨ (x = .go () ∧ l = m)) ?_ ?_)) (fun x hx=>.ok (by rw [decide_eq_true hx]))
  ·refine Tot.guard (okIdx_of (by omega)) (Tot.range (fun i _=>∀ (k : Nat),k < i → l[k]? = m[k]?) _ (fun k q=>by omega) (fun i x v hx hr=>?_) (fun v hr=>.ok (.inr ⟨rfl,?_⟩)))
   ·have hlt := getElem_lt hx
    obtain ⟨y,hy,hy2⟩ := gt_ok' (l := m) (i := (i : Int)) (by omega) (by omega)
    rw [hy,bindO_s]
    simp only [Int.toNat_natCast] at hy2
    refine TotX.ite (fun h2=>.ret (.inl ⟨rfl,fun q=>?_⟩)) (fun h2=>.go (fun k hk=>?_))
    ·subst q
     rw [hx] at hy2; injection hy2 with hy2; subst hy2
     simp at h2
    ·rcases Nat.lt_or_ge k i with q | q
     ·exact hr k q
     ·obtain rfl : k = i := by omega
      rw [hx,hy2]
      obtain ⟨x1,x2⟩ := x; obtain ⟨y1,y2⟩ := y
      simp at h2
      rw [h2.1,h2.2]
   ·apply List.ext_getElem?
    intro k
    rcases Nat.lt_or_ge k l.length with q | q
    ·exact hr k q
    ·rw [List.getElem?_eq_none q,List.getElem?_eq_none (by omega)]
  ·rintro x (⟨rfl,h3⟩ | ⟨rfl,h3⟩)
   ·exact (decide_eq_false h3).symm
   ·exact h3
theorem equal_eq (a b : ApiBlock) (ha : a.Words.length ≤ 1000000) : bk_Equal a b = some (decide (a = b)) := by
 unfold bk_Equal
 obtain ⟨e,he,rfl⟩ := words_tot a.Words b.Words ha
 rw [he]
 obtain ⟨a1,a2,a3⟩ := a
 obtain ⟨b1,b2,b3⟩ := b
 simp only
 by_cases h1 : a1 = b1
 ·subst h1
  by_cases h3 : a3 = b3
  ·subst h3
   by_cases h2 : a2 = b2
   ·subst h2; simp
   ·simp [h2]
  ·simp [h3]
 ·simp [h1]
end Go.Proofs.YtjgngikiglhleaaGreatDoor
