import Derived.Test.YtjgngikiglhleaaGreatDoorPo
import Derived.Test.YtjgngikiglhleaaGreatDoorMW
namespace Go.Proofs.YtjgngikiglhleaaGreatDoor
open Go.RowKit
set_option linter.unusedVariables false
set_option linter.unusedSimpArgs false
theorem grp_in (c : Int) : grp c = 0 ∨ grp c = 1 ∨ grp c = 2 ∨ grp c = 3 ∨ grp c = 4 ∨ grp c = 5 := by
 unfold grp
 by_cases h1 : c ∈ codes1
 ·simp [h1]
 by_cases h2 : c ∈ codes2
 ·simp [h1,h2]
 by_cases h3 : c ∈ codes3
 ·simp [h1,h2,h3]
 by_cases h4 : c ∈ codes4
 ·simp [h1,h2,h3,h4]
 by_cases h5 : c ∈ codes5
 ·simp [h1,h2,h3,h4,h5]
 ·simp [h1,h2,h3,h4,h5]
def putW (s : ModalState) (w : ApiWord) : ModalState := if w.Letter = 71 then (if grp w.Value = 1 then { s with Motion := w.Value } else if grp w.Value = 2 then { s with Distance := w.Value } else if grp w.Value = 3 then { s with Work := w.Value } else if grp w.Value = 4 then { s with Length := w.Value } else { s with Return := w.Value }) else if w.Letter = 70 then { s with Feed := w.Value } else if w.Letter = 84 then { s with Tool := w.Value } else if w.Letter = 72 then { s with Offset := w.Value } else s
theorem md_put_eq (s : ModalState) (w : ApiWord) (h : w.Letter = 71 → grp w.Value ≠ 0) : md_put s w = some (putW s w) := by
 unfold md_put putW
 by_cases h1 : w.Letter = 71
 ·have h0 := h h1
  rcases grp_in w.Value with q | q | q | q | q | q
  ·exact absurd q h0
  all_goals (simp [h1,md_Group_eq,q]; rfl)
 ·by_cases h2 : w.Letter = 70
  ·simp [h2]
  ·by_cases h3 : w.Letter = 84
   ·simp [h3]
   ·by_cases h4 : w.Letter = 72 <;> simp [h1,h2,h3,h4]
def clsW (w : ApiWord) : Int := if w.Letter = 71 then grp w.Value else 10 + w.Letter
def wholeW (w : ApiWord) : Bool := if w.Letter = 70 then decide (w.Value ≥ 0) else if w.Letter = 84 ∨ w.Letter = 72 then decide (w.Value ≥ 0) && Int.tmod w.Value 1000 == 0 else true
def u8W (w : ApiWord) : Prop := 0 ≤ w.Letter ∧ w.Letter ≤ 255
def goodW : List Int → List ApiWord → Bool | _,[]=>true | seen,w :: r=>clsW w != 0 && wholeW w && !(seen.contains (clsW w)) && goodW (clsW w :: seen) r
def mapsOk (seen : List Int) (lm gm : List (Int × Bool)) : Prop :=
 (∀ c,0 ≤ c → c ≠ 71 → (mget lm c).getD false = seen.contains (10 + c)) ∧ ∀ k,1 ≤ k → k ≤ 5 → (mget gm k).getD false = seen.contains k
theorem clsW_letter {w : ApiWord} (h : w.Letter ≠ 71) : clsW w = 10 + w.Letter := by simp [clsW,h]
theorem clsW_g {w : ApiWord} (h : w.Letter = 71) : clsW w = grp w.Value := by simp [clsW,h]
theorem mapsOk_letter {seen : List Int} {lm gm : List (Int × Bool)} (h : mapsOk seen lm gm) {c : Int} (h0 : 0 ≤ c) : mapsOk ((10 + c) :: seen) (mput lm c true) gm := by
 refine ⟨fun k hk h1=>?_,fun k h1 h2=>?_⟩
 ·rw [mget_put,List.contains_cons]
  by_cases e : k = c
  ·subst e; simp
  ·have : (k == c) = false := by simpa using e
   have e2 : (10 + k == 10 + c) = false := by simp; omega
   simp only [this,e2,Bool.false_eq_true,if_false,Bool.false_or]
   exact h.1 k hk h1
 ·rw [List.contains_cons,h.2 k h1 h2]
  have : (k == 10 + c) = false := by simp; omega
  simp [this]
theorem mapsOk_group {seen : List Int} {lm gm : List (Int × Bool)} (h : mapsOk seen lm gm) {g : Int} (h0 : 1 ≤ g) (h5 : g ≤ 5) : mapsOk (g :: seen) lm (mput gm g true) := by
 refine ⟨fun k hk h1=>?_,fun k h1 h2=>?_⟩
 ·rw [List.contains_cons,h.1 k hk h1]
  have : (10 + k == g) = false := by simp; omega
  simp [this]
 ·rw [mget_put,List.contains_cons]
  by_cases e : k = g
  ·subst e; simp
  ·have : (k == g) = false := by simpa using e
   simp only [this,Bool.false_eq_true,if_false,Bool.false_or]
   exact h.2 k h1 h2
abbrev MB := List (Int × Bool)
def nextOk (seen : List Int) (w : ApiWord) : Bool := clsW w != 0 && wholeW w && !(seen.contains (clsW w))
theorem chk_loop {f : Nat → ApiWord → MB × MB → Option (Ex (Ex Int (MB × MB)) (MB × MB))} {d : MB × MB → Option (Ex Int (MB × MB))} (hd : ∀ v,d v = some (.go v))
  (hf : ∀ i w seen lm gm,u8W w → mapsOk seen lm gm → (nextOk seen w = true → ∃ lm' gm',f i w (lm,gm) = some (.go (lm',gm')) ∧ mapsOk (clsW w :: seen) lm' gm') ∧ (nextOk seen w = false → f i w (lm,gm) = some (.ret (.ret 1)))) :
  ∀ (l : List ApiWord) (i : Nat) (seen : List Int) (lm gm : MB),(∀ w ∈ l,u8W w) → mapsOk seen lm gm → (goodW seen l = true → ∃ v,rangeX f d l i (lm,gm) = some (.go v)) ∧ (goodW seen l = false → rangeX f d l i (lm,gm) = some (.ret 1))
 | [],i,seen,lm,gm,_,_=>⟨fun _=>⟨_,hd _⟩,fun h=>by simp [goodW] at h⟩
 | w :: l,i,seen,lm,gm,hu,hm=>by
  have h := hf i w seen lm gm (hu w (by simp)) hm
  have hg : goodW seen (w :: l) = (nextOk seen w && goodW (clsW w :: seen) l) := rfl
  cases hn : nextOk seen w with
  | true =>
   obtain ⟨lm',gm',h1,h2⟩ := h.1 hn
   rw [hg,hn,Bool.true_and]
   simp only [rangeX,h1]
   exact chk_loop hd hf l (i + 1) _ lm' gm' (fun w hw=>hu w (by simp [hw])) h2
  | false =>
   rw [hg,hn,Bool.false_and]
   refine ⟨fun q=>by simp at q,fun _=>?_⟩
   simp only [rangeX,h.2 hn]
theorem chk_fin {f : Nat → ApiWord → MB × MB → Option (Ex (Ex Int (MB × MB)) (MB × MB))} {d : MB × MB → Option (Ex Int (MB × MB))} {l : List ApiWord} (hu : ∀ w ∈ l,u8W w) (hd : ∀ v,d v = some (.go v))
  (hf : ∀ i w seen lm gm,u8W w → mapsOk seen lm gm → (nextOk seen w = true → ∃ lm' gm',f i w (lm,gm) = some (.go (lm',gm')) ∧ mapsOk (clsW w :: seen) lm' gm') ∧ (nextOk seen w = false → f i w (lm,gm) = some (.ret (.ret 1)))) :
  bindX (rangeX f d l 0 ([],[])) (fun _=>some 0) = some (if goodW [] l = true then 0 else 1) := by
 have h := chk_loop hd hf l 0 [] [] [] hu ⟨fun c _ _=>by simp [mget],fun k _ _=>by simp [mget]⟩
 cases hg : goodW [] l with
 | true=>obtain ⟨v,hv⟩ := h.1 hg; rw [hv]; rfl
 | false=>rw [h.2 hg]; rfl
theorem md_Check_eq (b : ApiBlock) (hu : ∀ w ∈ b.Words,u8W w) (hl : b.Words.length ≤ 9223372036854775807) : md_Check b = some (if goodW [] b.Words = true then 0 else 1) := by
 unfold md_Check
 rw [okIdx_of hl,guardO_t]
 refine chk_fin hu (fun _=>rfl) ?_
 intro i w seen lm gm hw hm
 by_cases h1 : w.Letter = 71
 ·have hc := clsW_g h1
  have hwh : wholeW w = true := by simp [wholeW,h1]
  rcases grp_in w.Value with q | q
  ·refine ⟨fun h=>by simp [nextOk,hc,q] at h,fun _=>?_⟩
   simp [h1,md_Group_eq,q]
  ·have hg := hm.2 (grp w.Value) (by omega) (by omega)
   have hg0 : grp w.Value ≠ 0 := by omega
   constructor
   ·intro h
    have hs : grp w.Value ∉ seen := by simp [nextOk,hc,hwh] at h; exact h.2
    refine ⟨lm,mput gm (grp w.Value) true,?_,by rw [hc]; exact mapsOk_group hm (by omega) (by omega)⟩
    simp [h1,md_Group_eq,hg0,hg,hs]
   ·intro h
    have hs : grp w.Value ∈ seen := by simp [nextOk,hc,hwh] at h; exact h hg0
    simp [h1,md_Group_eq,hg0,hg,hs]
 ·have hc := clsW_letter h1
  have hl := hm.1 w.Letter hw.1 h1
  have hne : (clsW w == 0) = false := by rw [hc]; simp; have := hw.1; omega
  have hn : nextOk seen w = (wholeW w && !(seen.contains (10 + w.Letter))) := by
   have : (clsW w != 0) = true := by simpa using hne
   rw [nextOk,this,hc]; simp
  rw [hn]
  cases hs : seen.contains (10 + w.Letter) with
  | true =>
   rw [hs] at hl
   refine ⟨fun h=>by simp at h,fun _=>?_⟩
   by_cases h2 : w.Letter = 70
   ·rw [h2] at hl
    by_cases hv : w.Value < 0 <;> simp [h2,hv,hl]
   ·by_cases h3 : w.Letter = 84 ∨ w.Letter = 72
    ·by_cases hv : w.Value < 0
     ·rcases h3 with h3 | h3 <;> (rw [h3] at hl; simp [h3,hv])
     ·by_cases hq : Int.tmod w.Value 1000 = 0
      ·rcases h3 with h3 | h3 <;> (rw [h3] at hl; simp [h3,hv,hq,hl])
      ·rcases h3 with h3 | h3 <;> (rw [h3] at hl; simp [h3,hv,hq])
    ·have h4 : w.Letter ≠ 84 := fun e=>h3 (.inl e)
     have h5 : w.Letter ≠ 72 := fun e=>h3 (.inr e)
     simp [h1,h2,h4,h5,hl]
  | false =>
   rw [hs] at hl
   have hg : mapsOk (clsW w :: seen) (mput lm w.Letter true) gm := by rw [hc]; exact mapsOk_letter hm hw.1
   refine ⟨fun h=>⟨mput lm w.Letter true,gm,?_,hg⟩,fun h=>?_⟩
   ·have hwh : wholeW w = true := by simpa using h
    unfold wholeW at hwh
    by_cases h2 : w.Letter = 70
    ·rw [h2] at hl
     have hv : ¬ w.Value < 0 := by simp [h2] at hwh; omega
     simp [h2,hv,hl]
    ·by_cases h3 : w.Letter = 84 ∨ w.Letter = 72
     ·simp [h2,h3] at hwh
      have hv : ¬ w.Value < 0 := by omega
      rcases h3 with h3 | h3 <;> (rw [h3] at hl; simp [h3,hv,hwh.2,hl])
     ·have h4 : w.Letter ≠ 84 := fun e=>h3 (.inl e)
      have h5 : w.Letter ≠ 72 := fun e=>h3 (.inr e)
      simp [h1,h2,h4,h5,hl]
   ·have hwh : wholeW w = false := by simpa using h
    unfold wholeW at hwh
    by_cases h2 : w.Letter = 70
    ·have hv : w.Value < 0 := by simp [h2] at hwh; omega
     simp [h2,hv]
    ·by_cases h3 : w.Letter = 84 ∨ w.Letter = 72
     ·simp [h2,h3] at hwh
      by_cases hv : w.Value < 0
      ·rcases h3 with h3 | h3 <;> simp [h3,hv]
      ·have hq : ¬ Int.tmod w.Value 1000 = 0 := hwh (by omega)
       rcases h3 with h3 | h3 <;> simp [h3,hv,hq]
     ·simp [h2,h3] at hwh
def okB (b : ApiBlock) : Prop := (∀ w ∈ b.Words,u8W w) ∧ b.Words.length ≤ 9223372036854775806
theorem goodW_ne : ∀ (l : List ApiWord) (s : List Int),goodW s l = true → ∀ w ∈ l,clsW w ≠ 0
 | [],_,_,w,hw=>by simp at hw
 | x :: l,s,h,w,hw=>by
  simp only [goodW,Bool.and_eq_true,bne_iff_ne] at h
  rcases List.mem_cons.1 hw with e | e
  ·subst e; exact h.1.1.1
  ·exact goodW_ne l _ h.2 w e
theorem cls_put {w : ApiWord} (h : clsW w ≠ 0) : w.Letter = 71 → grp w.Value ≠ 0 := fun e=>by rwa [clsW_g e] at h
def zS : ModalState := ⟨0,0,0,0,0,0,0,0⟩
theorem md_Apply_eq (s : ModalState) (b : ApiBlock) (h : okB b) : md_Apply s b = some (if goodW [] b.Words = true then (b.Words.foldl putW s,0) else (zS,1)) := by
 unfold md_Apply
 rw [md_Check_eq b h.1 (by have := h.2; omega),bindO_s]
 cases hg : goodW [] b.Words with
 | false=>simp [zS]
 | true =>
  simp only [if_true]
  rw [okIdx_of (by have := h.2; omega),guardO_t,rangeX_go putW b.Words 0 s ?_]
  ·simp
  ·intro i x v hx
   rw [md_put_eq v x (cls_put (goodW_ne _ _ hg x hx)),bindO_s]
end Go.Proofs.YtjgngikiglhleaaGreatDoor
