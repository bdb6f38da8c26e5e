/-
  Pk, Pl, Pn in one text.
-/
import Derived.Test.YtjgngikiglhleaaGreatDoorMo
import Derived.Test.YtjgngikiglhleaaGreatDoorBw
namespace Go.Proofs.YtjgngikiglhleaaGreatDoor
open Go.RowKit
set_option linter.unusedVariables false
set_option linter.unusedSimpArgs false
def movesV : ApiPos → List ApiMove → Ex Int (List ApiBlock × ApiPos)
 | p,[]=>.go ([],p)
 | p,m :: r=>if (movB p m).2 = 0 then (match movesV m.To r with | .ret e=>.ret e | .go v=>.go ((movB p m).1 :: v.1,v.2)) else .ret (movB p m).2
theorem movesV_go : ∀ (l : List ApiMove) (p : ApiPos) (v : List ApiBlock × ApiPos),movesV p l = .go v → okPos p → (∀ m ∈ l,okMove m) → v.1.length = l.length ∧ okPos v.2 ∧ ∀ b ∈ v.1,∃ q m,m ∈ l ∧ (movB q m).2 = 0 ∧ b = (movB q m).1
 | [],p,v,h,hp,_=>by
  injection h with h; subst h
  exact ⟨rfl,hp,fun b hb=>by simp at hb⟩
 | m :: r,p,v,h,hp,hm=>by
  rw [movesV] at h
  by_cases h0 : (movB p m).2 = 0
  ·rw [if_pos h0] at h
   cases hr : movesV m.To r with
   | ret e=>rw [hr] at h; cases h
   | go u =>
    rw [hr] at h
    injection h with h; subst h
    obtain ⟨h1,h2,h3⟩ := movesV_go r m.To u hr (hm m (by simp)).2.1 (fun x hx=>hm x (by simp [hx]))
    refine ⟨by simp [h1],h2,fun b hb=>?_⟩
    rcases List.mem_cons.1 hb with q | q
    ·exact ⟨p,m,by simp,h0,q⟩
    ·obtain ⟨q1,m1,a1,a2,a3⟩ := h3 b q
     exact ⟨q1,m1,by simp [a1],a2,a3⟩
  ·rw [if_neg h0] at h; cases h
section
variable {ε : Type}
theorem po_moves (er : Int → ε) (gd : List ApiBlock × ApiPos → ε) {f : Nat → ApiMove → List ApiBlock × ApiPos → Option (Ex ε (List ApiBlock × ApiPos))}
  (hf : ∀ i m acc p,acc.length ≤ 1000000 → okPos p → okMove m → f i m (acc,p) = some (if (movB p m).2 = 0 then .go (acc ++ [(movB p m).1],m.To) else .ret (er (movB p m).2))) :
  ∀ (l : List ApiMove) (i : Nat) (acc : List ApiBlock) (p : ApiPos),acc.length + l.length ≤ 1000000 → okPos p → (∀ m ∈ l,okMove m) → rangeX f (fun v=>some (gd v)) l i (acc,p) = some (match movesV p l with | .ret e=>er e | .go v=>gd (acc ++ v.1,v.2))
 | [],i,acc,p,_,_,_=>by simp [rangeX,movesV]
 | m :: r,i,acc,p,hl,hp,hm=>by
  simp only [List.length_cons] at hl
  simp only [rangeX,hf i m acc p (by omega) hp (hm m (by simp)),movesV]
  by_cases h0 : (movB p m).2 = 0
  ·simp only [if_pos h0]
   rw [po_moves er gd hf r (i + 1) _ m.To (by simp; omega) (hm m (by simp)).2.1 (fun x hx=>hm x (by simp [hx]))]
   cases movesV m.To r with
   | ret e=>rfl
   | go v=>simp
  ·simp only [if_neg h0]
end
def okStage (s : ApiStage) : Prop := s.Moves.length ≤ 30 ∧ ∀ m ∈ s.Moves,okMove m
def stagesV : ApiPos → List ApiStage → Ex Int (List ApiBlock × ApiPos)
  | p,[]=>.go ([],p)
  | p, s :: r => if (chgV s.Tool).2 = 0 then (match movesV p s.Moves with
      | .ret e=>.ret e
      | .go v=>(match stagesV v.2 r with
        | .ret e=>.ret e
        | .go u=>.go ((chgV s.Tool).1 ++ v.1 ++ u.1,u.2))) else .ret (chgV s.Tool).2
theorem stages_loop {ε : Type} (er : Int → ε) (gd : List ApiBlock × ApiPos → ε) {f : Nat → ApiStage → List ApiBlock × ApiPos → Option (Ex ε (List ApiBlock × ApiPos))}
  (hf : ∀ i s acc p,acc.length ≤ 100000 → okPos p → okStage s → f i s (acc,p) = some (if (chgV s.Tool).2 = 0 then (match movesV p s.Moves with | .ret e=>.ret (er e) | .go v=>.go (acc ++ (chgV s.Tool).1 ++ v.1,v.2)) else .ret (er (chgV s.Tool).2))) :
  ∀ (l : List ApiStage) (i : Nat) (acc : List ApiBlock) (p : ApiPos),acc.length + 32 * l.length ≤ 100000 → okPos p → (∀ s ∈ l,okStage s) → rangeX f (fun v=>some (gd v)) l i (acc,p) = some (match stagesV p l with | .ret e=>er e | .go v=>gd (acc ++ v.1,v.2))
 | [],i,acc,p,_,_,_=>by simp [rangeX,stagesV]
 | s :: r,i,acc,p,hl,hp,hs=>by
  simp only [List.length_cons] at hl
  have hs0 := hs s (by simp)
  simp only [rangeX,hf i s acc p (by omega) hp hs0,stagesV]
  by_cases h0 : (chgV s.Tool).2 = 0
  ·simp only [if_pos h0]
   cases hm : movesV p s.Moves with
   | ret e=>rfl
   | go v =>
    obtain ⟨h1,h2,_⟩ := movesV_go _ _ _ hm hp hs0.2
    have hc : (chgV s.Tool).1.length ≤ 2 := by unfold chgV; split <;> simp [chgB]
    simp only
    rw [stages_loop er gd hf r (i + 1) _ v.2 (by simp only [List.length_append]; have := hs0.1; omega) h2 (fun x hx=>hs x (by simp [hx]))]
    cases stagesV v.2 r with
    | ret e=>rfl
    | go u=>simp [List.append_assoc]
  ·simp only [if_neg h0]
theorem stagesV_go : ∀ (l : List ApiStage) (p : ApiPos) (v : List ApiBlock × ApiPos),stagesV p l = .go v → okPos p → (∀ s ∈ l,okStage s) → v.1.length ≤ 32 * l.length ∧ ∀ b ∈ v.1,(∃ q m,okMove m ∧ (movB q m).2 = 0 ∧ b = (movB q m).1) ∨ ∃ n,(chgV n).2 = 0 ∧ b ∈ (chgV n).1
 | [],p,v,h,hp,_=>by
  injection h with h; subst h
  exact ⟨by simp,fun b hb=>by simp at hb⟩
 | s :: r,p,v,h,hp,hs=>by
  have hs0 := hs s (by simp)
  rw [stagesV] at h
  by_cases h0 : (chgV s.Tool).2 = 0
  ·rw [if_pos h0] at h
   cases hm : movesV p s.Moves with
   | ret e=>rw [hm] at h; cases h
   | go u =>
    obtain ⟨h1,h2,h3⟩ := movesV_go _ _ _ hm hp hs0.2
    rw [hm] at h
    simp only at h
    cases hr : stagesV u.2 r with
    | ret e=>rw [hr] at h; cases h
    | go t =>
     rw [hr] at h
     injection h with h; subst h
     obtain ⟨g1,g2⟩ := stagesV_go r u.2 t hr h2 (fun x hx=>hs x (by simp [hx]))
     have hc : (chgV s.Tool).1.length ≤ 2 := by unfold chgV; split <;> simp [chgB]
     refine ⟨by simp only [List.length_append,List.length_cons]; have := hs0.1; omega,fun b hb=>?_⟩
     simp only [List.mem_append] at hb
     rcases hb with (q | q) | q
     ·exact .inr ⟨_,h0,q⟩
     ·obtain ⟨q1,m1,a1,a2,a3⟩ := h3 b q
      exact .inl ⟨q1,m1,hs0.2 m1 a1,a2,a3⟩
     ·exact g2 b q
  ·rw [if_neg h0] at h; cases h
def headB (w : Int) : List ApiBlock := [⟨false,[⟨71,0⟩,⟨71,90000⟩,⟨71,w⟩,⟨71,49000⟩,⟨71,98000⟩],[]⟩]
def tailB : List ApiBlock := [⟨false,[⟨71,49000⟩],[]⟩,⟨false,[⟨77,30000⟩],[]⟩]
def plainV (l : List ApiStage) (p : ApiPos) (w : Int) : List ApiBlock × Int := if (farP p.X || farP p.Y || farP p.Z) = true then ([],11) else match stagesV p l with | .ret e=>([],e) | .go v=>(headB w ++ v.1 ++ tailB,0)
theorem far_or (n : Int) : (decide (n > 10000000) || decide (n < (-10000000))) = farP n := by
 unfold farP
 by_cases h : n > 10000000 <;> by_cases h2 : n < -10000000 <;> simp [h,h2]
def okStages (l : List ApiStage) : Prop := l.length ≤ 4 ∧ ∀ s ∈ l,okStage s
theorem po_plain_eq {l : List ApiStage} {p : ApiPos} {o : PostOptions} (hl : okStages l) (hp : okPos p) : po_plain l p o = some (plainV l p o.Work) := by
 obtain ⟨hl1,hl2⟩ := hl
 unfold po_plain plainV
 simp only [far_or]
 have h3 : (if farP p.X = true then some (Ex.ret ([],11)) else if farP p.Y = true then some (.ret ([],11)) else if farP p.Z = true then some (.ret ([],11)) else some (.go ())) = (some (if (farP p.X || farP p.Y || farP p.Z) = true then .ret ([],11) else .go ()) : Option (Ex (List ApiBlock × Int) Unit)) := by
  cases farP p.X <;> cases farP p.Y <;> cases farP p.Z <;> rfl
 rw [h3]
 cases (farP p.X || farP p.Y || farP p.Z) with
 | true=>rfl
 | false =>
  simp only [Bool.false_eq_true,if_false,bindX_g]
  have w0 : po_whole 71 0 = some ⟨71,0⟩ := po_whole_eq (by omega) (by omega)
  have w1 : po_whole 71 90 = some ⟨71,90000⟩ := po_whole_eq (by omega) (by omega)
  have w2 : po_whole 71 49 = some ⟨71,49000⟩ := po_whole_eq (by omega) (by omega)
  have w3 : po_whole 71 98 = some ⟨71,98000⟩ := po_whole_eq (by omega) (by omega)
  have w4 : po_whole 77 30 = some ⟨77,30000⟩ := po_whole_eq (by omega) (by omega)
  simp only [w0,w1,w2,w3,w4,po_word,bindO_s,po_words]
  rw [okIdx_of (by omega),guardO_t,stages_loop (fun e=>Ex.ret (([] : List ApiBlock),e)) (fun v=>Ex.go (v.1,v.2)) ?_ l 0 _ p (by simp; omega) hp hl2]
  ·cases hs : stagesV p l with
   | ret e=>rfl
   | go v =>
    have hv := (stagesV_go l p v hs hp hl2).1
    simp only [bindX_g,bindO_s]
    rw [okLen_of (by simp; omega),guardO_t]
    rfl
  ·intro i s acc q ha hq hs
   dsimp only
   rw [po_Change_eq,bindO_s]
   by_cases h0 : (chgV s.Tool).2 = 0
   ·have hc : (chgV s.Tool).1.length ≤ 2 := by unfold chgV; split <;> simp [chgB]
    rw [h0,if_neg (by simp),if_pos rfl,okLen_of (by omega),guardO_t,okIdx_of (by have := hs.1; omega),guardO_t]
    rw [po_moves (fun e=>Ex.ret (Ex.ret (Ex.ret (([] : List ApiBlock),e)))) (fun v=>Ex.go (v.1,v.2)) ?_ s.Moves 0 _ q (by simp only [List.length_append]; have := hs.1; omega) hq hs.2]
    ·cases movesV q s.Moves with
     | ret e=>rfl
     | go v=>rfl
    ·intro i m acc p ha hp hm
     dsimp only
     rw [po_Move_eq hp hm,bindO_s]
     by_cases h1 : (movB p m).2 = 0
     ·rw [h1,if_neg (by simp),if_pos rfl,okLen_of (by omega),guardO_t]
     ·rw [if_pos (by simpa using h1),if_neg h1]
   ·rw [if_pos (by simpa using h0),if_neg h0]
    rfl
def goodB (b : ApiBlock) : Prop := goodW [] b.Words = true ∧ (∀ w ∈ b.Words,u8W w) ∧ b.Words.length ≤ 7
theorem good_chg {n : Int} {b : ApiBlock} (h0 : (chgV n).2 = 0) (hb : b ∈ (chgV n).1) : goodB b := by
 unfold chgV at h0 hb
 split at h0
 ·omega
 ·rename_i hn
  rw [if_neg hn] at hb
  simp only [chgB,List.mem_cons,List.not_mem_nil,or_false] at hb
  have h1 : Int.tmod (1000 * n) 1000 = 0 := by simp
  have h2 : (0 : Int) ≤ 1000 * n := by omega
  have h3 : grp 43000 = 4 := by decide
  rcases hb with rfl | rfl
  ·exact ⟨by simp [goodW,clsW,wholeW,h1,h2],by simp [u8W],by simp⟩
  ·exact ⟨by simp [goodW,clsW,wholeW,h1,h2,h3],by simp [u8W],by simp⟩
theorem movV_rate {p : ApiPos} {m : ApiMove} (h : movV p m = 0) (hk : m.Kind ≠ 1) : 0 ≤ m.Rate := by
 unfold movV at h
 split at h
 ·omega
 ·split at h
  ·omega
  ·omega
theorem good_mov {p : ApiPos} {m : ApiMove} (h0 : (movB p m).2 = 0) : goodB (movB p m).1 := by
 unfold movB at h0 ⊢
 split at h0
 ·exact absurd h0 (by assumption)
 ·rename_i hv
  split at h0
  ·omega
  ·rename_i hr
   rw [if_neg hv,if_neg hr]
   have hv' : movV p m = 0 := by omega
   have g0 : grp 0 = 1 := by decide
   have g1 : grp 1000 = 1 := by decide
   have g2 : grp 2000 = 1 := by decide
   have g3 : grp 3000 = 1 := by decide
   rcases movV_kind hv' with k | k | k | k
   ·refine ⟨?_,?_,?_⟩ <;> simp [movW,k,goodW,clsW,wholeW,g0,u8W]
   ·have := movV_rate hv' (by omega)
    refine ⟨?_,?_,?_⟩ <;> simp [movW,k,goodW,clsW,wholeW,g1,u8W]; omega
   ·have := movV_rate hv' (by omega)
    refine ⟨?_,?_,?_⟩ <;> simp [movW,k,goodW,clsW,wholeW,g2,u8W]; omega
   ·have := movV_rate hv' (by omega)
    refine ⟨?_,?_,?_⟩ <;> simp [movW,k,goodW,clsW,wholeW,g3,u8W]; omega
theorem plain_good {l : List ApiStage} {p : ApiPos} {w : Int} (hl : okStages l) (hp : okPos p) (hw : grp w = 3) : (plainV l p w).1.length ≤ 131 ∧ ∀ b ∈ (plainV l p w).1,goodB b := by
 unfold plainV
 split
 ·exact ⟨by simp,fun b hb=>by simp at hb⟩
 ·cases hs : stagesV p l with
  | ret e=>exact ⟨by simp,fun b hb=>by simp at hb⟩
  | go v =>
   obtain ⟨h1,h2⟩ := stagesV_go l p v hs hp hl.2
   have := hl.1
   refine ⟨by simp [headB,tailB]; omega,fun b hb=>?_⟩
   simp only [List.mem_append] at hb
   rcases hb with (q | q) | q
   ·simp only [headB,List.mem_cons,List.not_mem_nil,or_false] at q
    subst q
    have g0 : grp 0 = 1 := by decide
    have g1 : grp 90000 = 2 := by decide
    have g2 : grp 49000 = 4 := by decide
    have g3 : grp 98000 = 5 := by decide
    exact ⟨by simp [goodW,clsW,wholeW,g0,g1,g2,g3,hw],by simp [u8W],by simp⟩
   ·rcases h2 b q with ⟨q1,m1,_,a2,rfl⟩ | ⟨n,a1,a2⟩
    ·exact good_mov a2
    ·exact good_chg a1 a2
   ·simp only [tailB,List.mem_cons,List.not_mem_nil,or_false] at q
    have g2 : grp 49000 = 4 := by decide
    rcases q with rfl | rfl
    ·exact ⟨by simp [goodW,clsW,wholeW,g2],by simp [u8W],by simp⟩
    ·exact ⟨by simp [goodW,clsW,wholeW],by simp [u8W],by simp⟩
end Go.Proofs.YtjgngikiglhleaaGreatDoor
namespace Go.Proofs.YtjgngikiglhleaaGreatDoor
open Go.RowKit
set_option linter.unusedVariables false
set_option linter.unusedSimpArgs false
def idleW (s : ModalState) (w : ApiWord) : Bool := ((w.Letter == 71) || ((w.Letter == 70) || ((w.Letter == 84) || (w.Letter == 72)))) && (!((w.Letter == 71) && (decide (w.Value ≥ 80000) && decide (w.Value ≤ 83000))) && decide (putW s w = s))
theorem state_eq (a b : ModalState) : ((a.Motion == b.Motion) && ((a.Distance == b.Distance) && ((a.Work == b.Work) && ((a.Length == b.Length) && ((a.Return == b.Return) && ((a.Feed == b.Feed) && ((a.Tool == b.Tool) && (a.Offset == b.Offset)))))))) = decide (a = b) := by
 obtain ⟨a1,a2,a3,a4,a5,a6,a7,a8⟩ := a
 obtain ⟨b1,b2,b3,b4,b5,b6,b7,b8⟩ := b
 rw [Bool.eq_iff_iff]
 simp
theorem md_idle_eq (s : ModalState) (w : ApiWord) (h : w.Letter = 71 → grp w.Value ≠ 0) : md_idle s w = some (idleW s w) := by
 unfold md_idle idleW
 simp only [md_put_eq s w h,bindO_s,state_eq]
 by_cases h1 : w.Letter = 71
 ·by_cases h2 : w.Value ≥ 80000 <;> by_cases h3 : w.Value ≤ 83000 <;> simp [h1,h2,h3]
 ·by_cases h2 : w.Letter = 70
  ·simp [h2]
  ·by_cases h3 : w.Letter = 84
   ·simp [h3]
   ·by_cases h4 : w.Letter = 72
    ·simp [h4]
    ·simp [h1,h2,h3,h4]
def cmpB (s : ModalState) (b : ApiBlock) : List ApiBlock :=
 if (decide (((b.Words.filter fun w=>!idleW s w).length : Int) > 0) || (!(b.Comment == []) || b.Skip)) = true then [⟨b.Skip,b.Words.filter fun w=>!idleW s w,b.Comment⟩] else []
def cmpV : ModalState → List ApiBlock → List ApiBlock
 | _,[]=>[]
 | s,b :: r=>cmpB s b ++ cmpV (b.Words.foldl putW s) r
theorem cmpV_len : ∀ (l : List ApiBlock) (s : ModalState),(cmpV s l).length ≤ l.length
 | [],_=>by simp [cmpV]
 | b :: r,s=>by
  have := cmpV_len r (b.Words.foldl putW s)
  rw [cmpV,List.length_append,List.length_cons]
  have : (cmpB s b).length ≤ 1 := by unfold cmpB; split <;> simp
  omega
theorem cmpV_drop {s0 s : ModalState} {l : List ApiBlock} {i : Nat} {b : ApiBlock} {acc : List ApiBlock} (hx : l[i]? = some b) (h : acc ++ cmpV s (l.drop i) = cmpV s0 l) : (acc ++ cmpB s b) ++ cmpV (b.Words.foldl putW s) (l.drop (i + 1)) = cmpV s0 l := by
 have hl := getElem_lt hx
 have : l.drop i = b :: l.drop (i + 1) := by
  rw [List.drop_eq_getElem_cons hl]
  rw [List.getElem?_eq_getElem hl] at hx
  injection hx with hx
  rw [hx]
 rw [this,cmpV] at h
 rw [← h,List.append_assoc]
theorem good_cls {b : ApiBlock} (h : goodB b) {w : ApiWord} (hw : w ∈ b.Words) : w.Letter = 71 → grp w.Value ≠ 0 := cls_put (goodW_ne _ _ h.1 w hw)
theorem filter_take {α : Type} (q : α → Bool) {l : List α} {j : Nat} {x : α} (hx : l[j]? = some x) : (l.take (j + 1)).filter q = (l.take j).filter q ++ (if q x = true then [x] else []) := by
 rw [List.take_add_one,hx,List.filter_append]
 congr 1
 cases h : q x <;> simp [h]
theorem set_take {α : Type} {c : List α} {i : Nat} {x : α} (h : i < c.length) : (c.set i x).take (i + 1) = c.take i ++ [x] := by
 rw [List.take_add_one,List.getElem?_set_self h,List.take_set_of_le (Nat.le_refl _)]
 rfl
theorem set_drop {α : Type} {c : List α} {i j : Nat} {x : α} (h : i < j) : (c.set i x).drop j = c.drop j := by
 rw [List.drop_set_of_lt h]
theorem md_Compress_tot (s : ModalState) (l : List ApiBlock) (hl : l.length ≤ 100000) (hg : ∀ b ∈ l,goodB b) : md_Compress s l = some (cmpV s l,0) := by
 have key : Tot (md_Compress s l) (fun y=>y = (cmpV s l,0)) := by
  unfold md_Compress
  refine Tot.bindX (F := fun y=>y = (cmpV s l,0)) (E := fun v=>v.1 = cmpV s l) (TotX.of (Tot.guard (okIdx_of (by omega)) (Tot.range (fun i v=>v.1.length ≤ i ∧ v.1 ++ cmpV v.2 (l.drop i) = cmpV s l) _ ⟨by simp,by simp⟩ (fun i b v hx hr=>?_) (fun v hr=>.ok ?_)))) (fun v hv=>.ok (by rw [hv]))
  ·have hb := hg b (List.mem_of_getElem? hx)
   have hlt := getElem_lt hx
   obtain ⟨b1,b2,b3⟩ := hb
   have hok : okB b := ⟨b2,by omega⟩
   refine TotX.bind (E := fun y=>y = (b.Words.foldl putW v.2,0)) (.eq (md_Apply_eq v.2 b hok) (by rw [if_pos b1])) (fun y hy=>?_)
   subst hy
   refine TotX.ite (fun q=>by simp at q) (fun _=>?_)
   have hcl : slices_Clone_api_Word_api_Word b.Words = some b.Words := by
    unfold slices_Clone_api_Word_api_Word
    rw [okLen_of (by omega),guardO_t]
   refine TotX.bind (.eq (E := fun y=>y = b.Words) hcl rfl) (fun y hy=>?_)
   subst hy
   refine TotX.bind (E := fun y=>y = b.Words.filter fun w=>!idleW v.2 w) ?_ (fun y hy=>?_)
   ·refine Tot.bind (E := fun z=>(z = -1 ∧ ∀ w ∈ b.Words,idleW v.2 w = false) ∨ ∃ (k : Nat) (w : ApiWord),z = (k : Int) ∧ b.Words[k]? = some w ∧ idleW v.2 w = true ∧ ∀ j,j < k → ∀ u,b.Words[j]? = some u → idleW v.2 u = false) ?_ (fun z hz=>?_)
    ·refine Tot.bindX (E := fun _=>∀ w ∈ b.Words,idleW v.2 w = false) (TotX.of (Tot.guard (okIdx_of (by omega)) (Tot.range (fun k _=>∀ j,j < k → ∀ u,b.Words[j]? = some u → idleW v.2 u = false) _ (fun j q=>by omega) (fun k w _ hw hk=>?_) (fun _ hk=>.ok ?_)))) (fun _ hk=>.ok (.inl ⟨rfl,hk⟩))
     ·rw [gt_k hw,bindO_s,md_idle_eq v.2 w (good_cls ⟨b1,b2,b3⟩ (List.mem_of_getElem? hw)),bindO_s,bindO_s]
      refine TotX.ite (fun q=>.ret (.inr ⟨k,w,rfl,hw,q,hk⟩)) (fun q=>.go (fun j hj u hu=>?_))
      rcases Nat.lt_or_ge j k with z | z
      ·exact hk j z u hu
      ·obtain rfl : j = k := by omega
       rw [hw] at hu; injection hu with hu; rw [← hu]; exact q
     ·intro w hw
      obtain ⟨j,hj⟩ := List.mem_iff_getElem?.1 hw
      exact hk j (getElem_lt hj) w hj
    ·rcases hz with ⟨rfl,hz⟩ | ⟨k,w,rfl,hw,hi,hk⟩
     ·refine Tot.ite (fun _=>.ok ?_) (fun q=>by simp at q)
      exact (List.filter_eq_self.2 fun w hw=>by simp [hz w hw]).symm
     ·have hkl := getElem_lt hw
      refine Tot.ite (fun q=>by simp at q) (fun _=>?_)
      rw [wrap_i64 (by omega) (by omega)]
      refine Tot.bind (E := fun u=>∃ i : Nat,u.1 = (i : Int) ∧ i ≤ b.Words.length ∧ u.2.length = b.Words.length ∧ u.2.take i = b.Words.filter fun w=>!idleW v.2 w) (Tot.loop (fun m (u : Int × Int × List ApiWord)=>∃ i j : Nat,u.1 = (i : Int) ∧ u.2.1 = (j : Int) ∧ i < j ∧ j ≤ b.Words.length ∧ m = b.Words.length - j ∧ u.2.2.length = b.Words.length ∧ u.2.2.take i = (b.Words.take j).filter (fun w=>!idleW v.2 w) ∧ u.2.2.drop j = b.Words.drop j) _ (b.Words.length - (k + 1)) (fuel_gt (by omega)) ?_ (fun m u hu=>?_)) (fun u hu=>?_)
      ·refine ⟨k,k + 1,rfl,by simp,by omega,by omega,rfl,rfl,?_,rfl⟩
       rw [filter_take _ hw]
       simp only [hi,Bool.not_true,Bool.false_eq_true,if_false,List.append_nil]
       symm
       refine List.filter_eq_self.2 fun x hx=>?_
       obtain ⟨j,hj⟩ := List.mem_iff_getElem?.1 hx
       have hjk : j < k := by have := getElem_lt hj; simp at this; omega
       rw [List.getElem?_take,if_pos hjk] at hj
       simp [hk j hjk x hj]
      ·obtain ⟨i,j,u1,u2,u3,u4,u5,u6,u7,u8⟩ := hu
       obtain ⟨a,b',c⟩ := u
       simp only at u1 u2 u6 u7 u8 ⊢
       subst u1; subst u2
       by_cases hj : j < b.Words.length
       ·have hjx : b.Words[j]? = some b.Words[j] := List.getElem?_eq_getElem hj
        generalize hxx : b.Words[j] = x at hjx
        have hcx : c[j]? = some x := by
         have h1 : (c.drop j)[0]? = (b.Words.drop j)[0]? := by rw [u8]
         simpa [hjx] using h1
        have hd1 : c.drop (j + 1) = b.Words.drop (j + 1) := by
         have := congrArg (List.drop 1) u8
         simpa using this
        refine TotX.ite (fun _=>?_) (fun q=>by simp at q; omega)
        rw [gt_k hcx,bindO_s,md_idle_eq v.2 x (good_cls ⟨b1,b2,b3⟩ (List.mem_of_getElem? hjx)),bindO_s,bindO_s]
        cases hix : idleW v.2 x with
        | true =>
         simp only [Bool.not_true,Bool.false_eq_true,if_false,bindO_s]
         refine .go ⟨b.Words.length - (j + 1),by omega,i,j + 1,rfl,by rw [wrap_i64 (by omega) (by omega)]; simp,by omega,by omega,rfl,u6,?_,hd1⟩
         rw [filter_take _ hjx,u7,hix]; simp
        | false =>
         have hci : c[i]? = some c[i] := List.getElem?_eq_getElem (by omega)
         simp only [Bool.not_false,if_true]
         rw [gt_k hci,bindO_s,bindO_s]
         refine .go ⟨b.Words.length - (j + 1),by omega,i + 1,j + 1,by dsimp only; rw [wrap_i64 (by omega) (by omega)]; simp,by dsimp only; rw [wrap_i64 (by omega) (by omega)]; simp,by omega,by omega,rfl,by simpa using u6,?_,?_⟩
         ·simp only [Int.toNat_natCast]
          rw [set_take (by omega),filter_take _ hjx,u7,hix]; simp
         ·simp only [Int.toNat_natCast]
          rw [set_drop (by omega),hd1]
       ·refine TotX.ite (fun q=>by simp at q; omega) (fun _=>.ret ⟨i,rfl,by omega,u6,?_⟩)
        have : j = b.Words.length := by omega
        rw [u7,this,List.take_length]
      ·obtain ⟨i,u1,u2,u3,u4⟩ := hu
       obtain ⟨a,c⟩ := u
       simp only at u1 u3 u4 ⊢
       subst u1
       simp only [Int.toNat_natCast,Nat.zero_add,Nat.sub_zero]
       refine Tot.guard (by simp; omega) (Tot.guard ?_ (.ok ?_))
       ·simp; omega
       ·rw [List.drop_zero,List.append_assoc,List.take_append_of_le_length (by simp; omega),List.take_take,Nat.min_self,u4]
   ·subst hy
    refine TotX.bind (E := fun y=>y = v.1 ++ cmpB v.2 b) ?_ (fun y hy=>.go ⟨?_,?_⟩)
    ·unfold cmpB
     refine Tot.ite (fun q=>?_) (fun q=>.ok ?_)
     ·rw [if_pos q]
      exact Tot.guard (okLen_of (by have := hr.1; omega)) (.ok rfl)
     ·rw [if_neg (by rw [q]; simp)]; simp
    ·rw [hy,List.length_append]
     have : (cmpB v.2 b).length ≤ 1 := by unfold cmpB; split <;> simp
     have := hr.1
     omega
    ·simp only [hy]
     exact cmpV_drop hx hr.2
  ·have := hr.2
   rw [List.drop_length] at this
   simpa [cmpV] using this
 obtain ⟨e,he,rfl⟩ := key
 exact he
end Go.Proofs.YtjgngikiglhleaaGreatDoor
namespace Go.Proofs.YtjgngikiglhleaaGreatDoor
open Go.RowKit
set_option linter.unusedVariables false
set_option linter.unusedSimpArgs false
def hasV (b : ApiBlock) (c n : Int) : Bool := b.Words.any fun w=>(w.Letter == c) && (w.Value == n)
def letV (b : ApiBlock) (c : Int) : Bool := b.Words.any fun w=>w.Letter == c
theorem codes_has (l : List ApiWord) (c n : Int) : (codesV l c).any (fun k=>n == k) = l.any fun w=>(w.Letter == c) && (w.Value == n) := by
 induction l with
 | nil=>rfl
 | cons w l ih =>
  unfold codesV at ih ⊢
  rw [List.any_cons,← ih,List.filter_cons]
  have hc : (n == w.Value) = (w.Value == n) := by
   rw [Bool.eq_iff_iff]; simp only [beq_iff_eq]; exact ⟨fun h=>h.symm,fun h=>h.symm⟩
  cases (w.Letter == c) with
  | true=>simp [hc]
  | false=>simp
theorem codes_let (l : List ApiWord) (c : Int) : decide (((codesV l c).length : Int) > 0) = l.any fun w=>w.Letter == c := by
 induction l with
 | nil=>rfl
 | cons w l ih =>
  unfold codesV at ih ⊢
  rw [List.any_cons,← ih,List.filter_cons]
  cases (w.Letter == c) with
  | true=>simp
  | false=>simp
def fewB (b : ApiBlock) : Prop := b.Words.length ≤ 1000
theorem sp_has_eq {b : ApiBlock} {c n : Int} (hb : fewB b) : sp_has b c n = some (hasV b c n) := by
 unfold fewB at hb
 unfold sp_has slices_Contains_int64_int64 slices_Index_int64_int64 hasV
 have hl := codesV_len b.Words c
 rw [bk_Codes_eq b c (by omega),bindO_s,okIdx_of (by omega),guardO_t,← codes_has]
 have key : ∀ (l : List Int) (i : Nat),∃ z : Ex Int Unit,rangeX (fun (i127 : Nat) (e129 : Int) (v128 : Unit)=>if (n == e129) = true then some (.ret (.ret (i127 : Int))) else some (.go ())) (fun (v128 : Unit)=>some (.go ())) l i () = some z ∧ (match z with | .ret k=>0 ≤ k ∧ l.any (fun k=>n == k) = true | .go _=>l.any (fun k=>n == k) = false) := by
  intro l
  induction l with
  | nil=>intro i; exact ⟨_,rfl,rfl⟩
  | cons x l ih =>
   intro i
   simp only [rangeX,List.any_cons]
   cases h : (n == x) with
   | true=>exact ⟨.ret (i : Int),by simp,by omega,rfl⟩
   | false =>
    obtain ⟨z,h1,h2⟩ := ih (i + 1)
    exact ⟨z,by simpa using h1,by simpa using h2⟩
 obtain ⟨z,h1,h2⟩ := key (codesV b.Words c) 0
 rw [h1]
 cases z with
 | ret k=>simp only [bindX_r,bindO_s,h2.2]; simp [h2.1]
 | go u=>simp only [bindX_g,bindO_s,h2]; rfl
def foldB (b : ApiBlock) : Bool := !letV b 79 && (!hasV b 77 30000 && (!hasV b 77 99000 && (!letV b 78 && !hasV b 77 98000)))
theorem sp_foldable_eq {b : ApiBlock} (hb : fewB b) : sp_foldable b = some (foldB b) := by
 have hb' : b.Words.length ≤ 1000000 := by unfold fewB at hb; omega
 have h78 : ((((codesV b.Words 78).length : Int) == 0)) = !letV b 78 := by
  unfold letV; rw [← codes_let]
  rw [Bool.eq_iff_iff]; simp
 unfold sp_foldable sp_marked foldB
 simp only [bk_Codes_eq b _ hb',sp_has_eq hb,bindO_s,codes_let,h78]
 rw [show (b.Words.any fun w=>w.Letter == 79) = letV b 79 from rfl]
 cases letV b 79 <;> cases hasV b 77 30000 <;> cases hasV b 77 99000 <;> cases letV b 78 <;> cases hasV b 77 98000 <;> rfl
def runB (l : List ApiBlock) (n i k : Nat) : Bool := (List.range n).all fun j=>match l[i + j]?,l[k + j]? with | some a,some b=>foldB a && decide (a = b) | _,_=>false
theorem runB_iff {l : List ApiBlock} {n i k : Nat} : runB l n i k = true ↔ ∀ j,j < n → ∃ a,l[i + j]? = some a ∧ l[k + j]? = some a ∧ foldB a = true := by
 unfold runB
 rw [List.all_eq_true]
 constructor
 ·intro h j hj
  have := h j (List.mem_range.2 hj)
  cases h1 : l[i + j]? with
  | none=>rw [h1] at this; simp at this
  | some a =>
   cases h2 : l[k + j]? with
   | none=>rw [h1,h2] at this; simp at this
   | some b =>
    rw [h1,h2] at this
    simp at this
    exact ⟨a,rfl,by rw [this.2],this.1⟩
 ·intro h j hj
  obtain ⟨a,h1,h2,h3⟩ := h j (List.mem_range.1 hj)
  simp [h1,h2,h3]
theorem run_tot {l : List ApiBlock} {n i k : Nat} {eq fo : ApiBlock → Option Bool} {eqf : ApiBlock → ApiBlock → Option Bool} (hn : n ≤ 1000000) (hl : l.length ≤ 1000000) (hi : i + n ≤ l.length) (hk : k + n ≤ l.length) (hf : ∀ b ∈ l, fewB b)
    (hfo : ∀ b,fewB b → fo b = some (foldB b)) (heq : ∀ a b,fewB a → eqf a b = some (decide (a = b))) :
    bindX (loopX (fun (v163 : Int) =>
        if (decide (v163 < (n : Int))) = true then
          bindO (bindO (gt l (IntKind.i64.wrap ((i : Int) + v163))) fun (e169 : ApiBlock) =>
              bindO (fo e169) fun (y170 : Bool) =>
              if y170 = true then
                bindO (gt l (IntKind.i64.wrap ((k : Int) + v163))) fun (e171 : ApiBlock) =>
                bindO (eqf e169 e171) fun (y172 : Bool) =>
                some (!y172)
              else
                some true) fun (v173 : Bool) =>
          if v173 = true then
            some (.ret (.ret false))
          else
            some (.go (IntKind.i64.wrap (v163 + 1)))
        else
          some (.ret (.go ()))) fuel 0) (fun (v137 : Unit)=>some true) = some (runB l n i k) := by
  have key : Tot (loopX (fun (v163 : Int) =>
        if (decide (v163 < (n : Int))) = true then
          bindO (bindO (gt l (IntKind.i64.wrap ((i : Int) + v163))) fun (e169 : ApiBlock) =>
              bindO (fo e169) fun (y170 : Bool) =>
              if y170 = true then
                bindO (gt l (IntKind.i64.wrap ((k : Int) + v163))) fun (e171 : ApiBlock) =>
                bindO (eqf e169 e171) fun (y172 : Bool) =>
                some (!y172)
              else
                some true) fun (v173 : Bool) =>
          if v173 = true then
            some (.ret (.ret false))
          else
            some (.go (IntKind.i64.wrap (v163 + 1)))
        else
          some (.ret (.go ()))) fuel 0) (fun (e : Ex Bool Unit)=>(e = .ret false ∧ runB l n i k = false) ∨ (e = .go () ∧ runB l n i k = true)) := by
    refine Tot.loop (fun m (v : Int)=>∃ j : Nat,v = (j : Int) ∧ j ≤ n ∧ m = n - j ∧ ∀ t,t < j → ∃ a,l[i + t]? = some a ∧ l[k + t]? = some a ∧ foldB a = true) _ n (fuel_gt (by omega)) ⟨0,rfl,by omega,rfl,fun t ht=>by omega⟩ (fun m v hv=>?_)
    obtain ⟨j,rfl,h1,h2,h3⟩ := hv
    by_cases hj : j < n
    · have ha : l[i + j]? = some l[i + j] := List.getElem?_eq_getElem (by omega)
      have hb : l[k + j]? = some l[k + j] := List.getElem?_eq_getElem (by omega)
      generalize l[i + j] = a at ha
      generalize l[k + j] = b at hb
      have fa := hf a (List.mem_of_getElem? ha)
      refine TotX.ite (fun _=>?_) (fun q=>by simp at q <;> omega)
      rw [wrap_i64 (by omega) (by omega),show (i : Int) + (j : Int) = ((i + j : Nat) : Int) by omega,gt_k ha,bindO_s,hfo a fa,bindO_s]
      rw [wrap_i64 (n := (k : Int) + (j : Int)) (by omega) (by omega),show (k : Int) + (j : Int) = ((k + j : Nat) : Int) by omega,gt_k hb,bindO_s,heq a b fa,bindO_s]
      have hno : (foldB a = false ∨ a ≠ b) → runB l n i k = false := by
        intro q
        cases hr : runB l n i k with
        | false=>rfl
        | true =>
          obtain ⟨c,c1,c2,c3⟩ := runB_iff.1 hr j hj
          rw [ha] at c1; injection c1 with c1
          rw [hb] at c2; injection c2 with c2
          rcases q with q | q
          · rw [c1,c3] at q; cases q
          · exact absurd (c1.trans c2.symm) q
      cases hfa : foldB a with
      | false =>
        simp only [Bool.false_eq_true,if_false,bindO_s,if_true]
        exact .ret (.inl ⟨rfl,hno (.inl hfa)⟩)
      | true =>
        simp only [if_true,bindO_s]
        by_cases hab : a = b
        · rw [decide_eq_true hab]
          simp only [Bool.not_true,Bool.false_eq_true,if_false]
          refine .go ⟨n - (j + 1),by omega,j + 1,by rw [wrap_i64 (by omega) (by omega)]; simp,by omega,rfl,fun t ht=>?_⟩
          rcases Nat.lt_or_ge t j with z | z
          · exact h3 t z
          · obtain rfl : t = j := by omega
            exact ⟨a,ha,by rw [hb,hab],hfa⟩
        · rw [decide_eq_false hab]
          simp only [Bool.not_false,if_true]
          exact .ret (.inl ⟨rfl,hno (.inr hab)⟩)
    · refine TotX.ite (fun q=>by simp at q <;> omega) (fun _=>.ret (.inr ⟨rfl,?_⟩))
      have : j = n := by omega
      subst this
      exact runB_iff.2 h3
  obtain ⟨e,he,h⟩ := key
  rw [he]
  rcases h with ⟨rfl,h⟩ | ⟨rfl,h⟩ <;> rw [h] <;> rfl
theorem sp_run_eq {l : List ApiBlock} {n i k : Nat} (hn : n ≤ 1000000) (hl : l.length ≤ 1000000) (hi : i + n ≤ l.length) (hk : k + n ≤ l.length) (hf : ∀ b ∈ l,fewB b) : sp_run l (i : Int) (k : Int) (n : Int) = some (runB l n i k) :=
 run_tot (eq := fun _=>none) hn hl hi hk hf (fun b h=>sp_foldable_eq h) (fun a b h=>equal_eq a b (by unfold fewB at h; omega))
def firstB (l : List ApiBlock) (n i : Nat) : Bool := (List.range (l.length + 1)).any fun k=>decide (i + n ≤ k) && (decide (k + n ≤ l.length) && runB l n i k)
theorem firstB_iff {l : List ApiBlock} {n i : Nat} : firstB l n i = true ↔ ∃ k,i + n ≤ k ∧ k + n ≤ l.length ∧ runB l n i k = true := by
 unfold firstB
 rw [List.any_eq_true]
 constructor
 ·rintro ⟨k,_,h⟩
  simp at h
  exact ⟨k,h⟩
 ·rintro ⟨k,h1,h2,h3⟩
  exact ⟨k,List.mem_range.2 (by omega),by simp [h1,h2,h3]⟩
theorem firstB_false {l : List ApiBlock} {n i : Nat} (h : ∀ k,i + n ≤ k → k + n ≤ l.length → runB l n i k = false) : firstB l n i = false := by
 cases hb : firstB l n i with
 | false=>rfl
 | true =>
  obtain ⟨k,h1,h2,h3⟩ := firstB_iff.1 hb
  rw [h k h1 h2] at h3; cases h3
def atV (l : List ApiBlock) (n : Nat) : Option Nat := (List.range (l.length + 1)).find? (firstB l n)
theorem find_range {p : Nat → Bool} : ∀ {m i : Nat},i < m → p i = true → (∀ j,j < i → p j = false) → (List.range m).find? p = some i
 | 0,i,h,_,_=>by omega
 | m + 1,i,h,hp,hn=>by
  rw [List.range_succ,List.find?_append]
  rcases Nat.lt_or_ge i m with q | q
  ·rw [find_range q hp hn]; rfl
  ·obtain rfl : i = m := by omega
   have : (List.range i).find? p = none := List.find?_eq_none.2 fun x hx=>by simp [hn x (List.mem_range.1 hx)]
   rw [this]
   simp [hp]
theorem atV_some {l : List ApiBlock} {n i : Nat} (h : firstB l n i = true) (hn : ∀ j,j < i → firstB l n j = false) : atV l n = some i := by
 obtain ⟨k,h1,h2,_⟩ := firstB_iff.1 h
 exact find_range (by omega) h hn
theorem atV_none {l : List ApiBlock} {n : Nat} (hn : ∀ j,firstB l n j = false) : atV l n = none := List.find?_eq_none.2 fun x _=>by simp [hn x]
theorem sp_first_tot {l : List ApiBlock} {n : Nat} (h1 : 1 ≤ n) (h2 : 2 * n ≤ l.length) (hl : l.length ≤ 1000000) (hf : ∀ b ∈ l,fewB b) : Tot (sp_first l (n : Int)) (fun r=>match atV l n with | none=>r = -1 | some i=>r = (i : Int)) := by
 unfold sp_first
 refine Tot.bindX (E := fun _=>∀ j,firstB l n j = false) (TotX.of (Tot.loop (fun m (v : Int)=>∃ i : Nat,v = (i : Int) ∧ i ≤ l.length ∧ m = l.length - i ∧ ∀ j,j < i → firstB l n j = false) _ l.length (fuel_gt (by omega)) ⟨0,rfl,by omega,rfl,fun j hj=>by omega⟩ (fun m v hv=>?_))) (fun v hv=>.ok ?_)
 ·obtain ⟨i,rfl,a1,a2,a3⟩ := hv
  rw [wrap_i64 (n := (i : Int) + (n : Int)) (by omega) (by omega),wrap_i64 (n := (l.length : Int) - (n : Int)) (by omega) (by omega)]
  by_cases hi : i + n + n ≤ l.length
  ·refine TotX.ite (fun _=>?_) (fun q=>by simp at q <;> omega)
   refine TotX.bindX (E := fun _=>firstB l n i = false) (TotX.of (Tot.loop (fun m (v : Int)=>∃ k : Nat,v = (k : Int) ∧ i + n ≤ k ∧ k ≤ l.length ∧ m = l.length - k ∧ ∀ j,i + n ≤ j → j < k → runB l n i j = false) _ (l.length - (i + n)) (fuel_gt (by omega)) ⟨i + n,by omega,by omega,by omega,rfl,fun j q1 q2=>by omega⟩ (fun m v hv=>?_))) (fun _ hb=>.go ?_)
   ·obtain ⟨k,rfl,b1,b2,b3,b4⟩ := hv
    rw [wrap_i64 (n := (k : Int) + (n : Int)) (by omega) (by omega)]
    by_cases hk : k + n ≤ l.length
    ·refine TotX.ite (fun _=>?_) (fun q=>by simp at q <;> omega)
     rw [sp_run_eq (by omega) hl (by omega) hk hf,bindO_s]
     refine TotX.ite (fun q=>.ret ?_) (fun q=>.go ⟨l.length - (k + 1),by omega,k + 1,by rw [wrap_i64 (by omega) (by omega)]; simp,by omega,by omega,rfl,fun j q1 q2=>?_⟩)
     ·show match atV l n with | none=>(i : Int) = -1 | some j=>(i : Int) = (j : Int)
      rw [atV_some (firstB_iff.2 ⟨k,b1,hk,q⟩) a3]
     ·rcases Nat.lt_or_ge j k with z | z
      ·exact b4 j q1 z
      ·obtain rfl : j = k := by omega
       exact q
    ·refine TotX.ite (fun q=>by simp at q <;> omega) (fun _=>.ret ?_)
     exact firstB_false fun j q1 q2=>b4 j q1 (by omega)
   ·refine ⟨l.length - (i + 1),by omega,i + 1,by rw [wrap_i64 (by omega) (by omega)]; simp,by omega,rfl,fun j hj=>?_⟩
    rcases Nat.lt_or_ge j i with z | z
    ·exact a3 j z
    ·obtain rfl : j = i := by omega
     exact hb
  ·refine TotX.ite (fun q=>by simp at q <;> omega) (fun _=>.ret ?_)
   intro j
   rcases Nat.lt_or_ge j i with z | z
   ·exact a3 j z
   ·exact firstB_false fun k q1 q2=>by omega
 ·rw [atV_none hv]
def callB : ApiBlock := ⟨false,[⟨77,98000⟩,⟨80,1000000⟩],[]⟩
def foldM (l : List ApiBlock) (n a : Nat) : Nat → Nat → List ApiBlock
 | 0,_=>[]
 | f + 1,i=>match l[i]? with
  | none=>[]
  | some b=>if (decide (i + n ≤ l.length) && runB l n a i) = true then callB :: foldM l n a f (i + n) else b :: foldM l n a f (i + 1)
theorem foldM_end {l : List ApiBlock} {n a f i : Nat} (h : l.length ≤ i) : foldM l n a f i = [] := by
 cases f with
 | zero=>rfl
 | succ f=>rw [foldM,List.getElem?_eq_none h]
theorem foldM_len (l : List ApiBlock) (n a : Nat) (hn : 1 ≤ n) : ∀ (f i : Nat),i + (foldM l n a f i).length ≤ max i l.length
 | 0,i=>by simp [foldM]; omega
 | f + 1,i=>by
  rw [foldM]
  cases hx : l[i]? with
  | none=>simp; omega
  | some b =>
   have hlt := getElem_lt hx
   simp only
   split
   ·rename_i q
    simp at q
    have := foldM_len l n a hn f (i + n)
    simp only [List.length_cons]; omega
   ·have := foldM_len l n a hn f (i + 1)
    simp only [List.length_cons]; omega
theorem foldM_few {l : List ApiBlock} {n a : Nat} (hf : ∀ b ∈ l,b.Words.length ≤ 7) : ∀ (f i : Nat),∀ b ∈ foldM l n a f i,b.Words.length ≤ 7
 | 0,i,b,hb=>by simp [foldM] at hb
 | f + 1,i,b,hb=>by
  rw [foldM] at hb
  cases hx : l[i]? with
  | none=>rw [hx] at hb; simp at hb
  | some c =>
   rw [hx] at hb
   simp only at hb
   split at hb
   ·rcases List.mem_cons.1 hb with q | q
    ·subst q; simp [callB]
    ·exact foldM_few hf f _ b q
   ·rcases List.mem_cons.1 hb with q | q
    ·subst q; exact hf _ (List.mem_of_getElem? hx)
    ·exact foldM_few hf f _ b q
def markB (c n : Int) : ApiBlock := ⟨false,[⟨c,n⟩],[]⟩
def foldJ (l : List ApiBlock) (n : Nat) : List ApiBlock := match atV l n with
 | none=>l
 | some a=>foldM l n a l.length 0 ++ [markB 79 1000000] ++ (l.drop a).take n ++ [markB 77 99000]
theorem cutL_at {α : Type} {l : List α} {a n : Nat} (h : a + n ≤ l.length) : cutL l (a : Int) ((a + n : Nat) : Int) = some ((l.drop a).take n) := by
 unfold cutL
 rw [if_neg (by omega)]
 simp only [Int.toNat_natCast]
 rw [show a + n - a = n by omega]
theorem sp_Fold_tot {l : List ApiBlock} {n : Nat} (h1 : 1 ≤ n) (hn : n ≤ 100) (hl : l.length ≤ 1000) (hf : ∀ b ∈ l,fewB b) : Tot (sp_Fold l 1000 (n : Int)) (fun r=>r.2 = 0 ∧ match atV l n with | none=>r.1 = ⟨l,[]⟩ | some a=>r.1 = ⟨foldM l n a l.length 0,[⟨1000,(l.drop a).take n⟩]⟩) := by
 unfold sp_Fold
 refine Tot.ite (fun q=>by simp at q <;> omega) (fun _=>?_)
 refine Tot.bind (E := fun r=>match atV l n with | none=>r = -1 | some i=>r = (i : Int)) ?_ (fun r hr=>?_)
 ·have hq : Int.tdiv (l.length : Int) 2 = ((l.length / 2 : Nat) : Int) := by
   rw [Int.tdiv_eq_ediv_of_nonneg (by omega)]; omega
  rw [hq,wrap_i64 (by omega) (by omega)]
  refine Tot.ite (fun q=>?_) (fun q=>.ok ?_)
  ·simp at q
   refine Tot.bind (sp_first_tot h1 (by omega) (by omega) hf) (fun x hx=>.ok hx)
  ·simp at q
   rw [atV_none fun j=>firstB_false fun k q1 q2=>by omega]
 ·cases ha : atV l n with
  | none =>
   rw [ha] at hr
   subst hr
   refine Tot.ite (fun _=>?_) (fun q=>by simp at q)
   unfold slices_Clone_api_Block_api_Block
   rw [okLen_of (by omega),guardO_t,bindO_s]
   exact .ok ⟨rfl,rfl⟩
  | some a =>
   rw [ha] at hr
   simp only at hr
   subst hr
   have hfa : firstB l n a = true := List.find?_some ha
   obtain ⟨k0,c1,c2,c3⟩ := firstB_iff.1 hfa
   refine Tot.ite (fun q=>by simp at q <;> omega) (fun _=>?_)
   refine Tot.bind (E := fun v=>v = foldM l n a l.length 0) (Tot.loop (fun m (v : List ApiBlock × Int)=>∃ (i f : Nat),v.2 = (i : Int) ∧ i ≤ l.length ∧ v.1.length ≤ i ∧ l.length ≤ i + f ∧ m = f ∧ v.1 ++ foldM l n a f i = foldM l n a l.length 0) _ l.length (fuel_gt (by omega)) ⟨0,l.length,rfl,by omega,by simp,by omega,rfl,by simp⟩ (fun m v hv=>?_)) (fun v hv=>?_)
   ·obtain ⟨i,f,v2,d1,d2,d3,rfl,d4⟩ := hv
    obtain ⟨acc,j⟩ := v
    simp only at v2 d2 d4 ⊢
    subst v2
    by_cases hi : i < l.length
    ·have hx : l[i]? = some l[i] := List.getElem?_eq_getElem hi
     generalize l[i] = b at hx
     refine TotX.ite (fun _=>?_) (fun q=>by simp at q <;> omega)
     cases m with
     | zero=>omega
     | succ m =>
      rw [foldM,hx] at d4
      simp only at d4
      rw [wrap_i64 (n := (i : Int) + (n : Int)) (by omega) (by omega)]
      refine TotX.bind (E := fun r=>r = (decide (i + n ≤ l.length) && runB l n a i)) (Tot.ite (fun q=>?_) (fun q=>.ok ?_)) (fun r hr=>?_)
      ·simp at q
       rw [sp_run_eq (by omega) (by omega) (by omega) (by omega) hf,bindO_s]
       exact .ok (by rw [decide_eq_true (show i + n ≤ l.length by omega),Bool.true_and])
      ·simp at q
       rw [decide_eq_false (show ¬ (i + n ≤ l.length) by omega),Bool.false_and]
      ·subst hr
       refine TotX.ite (fun q=>?_) (fun q=>?_)
       ·rw [if_pos q] at d4
        simp at q
        refine TotX.guard (okLen_of (by omega)) (.go ⟨m,by omega,i + n,m,by simp,by omega,by simp; omega,by omega,rfl,?_⟩)
        rw [← d4]
        simp [callB]
        rfl
       ·rw [if_neg (by rw [q]; simp)] at d4
        rw [gt_k hx,bindO_s]
        refine TotX.guard (okLen_of (by omega)) (.go ⟨m,by omega,i + 1,m,by rw [wrap_i64 (by omega) (by omega)]; simp,by omega,by simp; omega,by omega,rfl,?_⟩)
        rw [← d4]; simp
    ·refine TotX.ite (fun q=>by simp at q <;> omega) (fun _=>.ret ?_)
     rw [foldM_end (by omega),List.append_nil] at d4
     exact d4
   ·subst hv
    rw [wrap_i64 (n := (a : Int) + (n : Int)) (by omega) (by omega),show (a : Int) + (n : Int) = ((a + n : Nat) : Int) by omega,cutL_at (by omega),bindO_s]
    unfold slices_Clone_api_Block_api_Block
    rw [okLen_of (by simp; omega),guardO_t,bindO_s]
    exact .ok ⟨rfl,rfl⟩
theorem atV_run {l : List ApiBlock} {n a : Nat} (h : atV l n = some a) : a + n + n ≤ l.length := by
 have hfa : firstB l n a = true := List.find?_some h
 obtain ⟨k,h1,h2,_⟩ := firstB_iff.1 hfa
 omega
theorem sp_folded {l : List ApiBlock} {n : Nat} (h1 : 1 ≤ n) (hn : n ≤ 100) (hl : l.length ≤ 1000) (hf : ∀ b ∈ l,fewB b) : ∃ p,sp_Fold l 1000 (n : Int) = some (p,0) ∧ sp_Join p = some (foldJ l n) := by
 obtain ⟨⟨p,e⟩,hp,h0,h2⟩ := sp_Fold_tot h1 hn hl hf
 simp only at h0 h2
 subst h0
 refine ⟨p,hp,?_⟩
 unfold foldJ sp_Join slices_Clone_api_Block_api_Block
 cases ha : atV l n with
 | none =>
  rw [ha] at h2
  simp only at h2
  subst h2
  simp only
  rw [okLen_of (by omega),guardO_t,bindO_s,okIdx_of (by simp),guardO_t]
  rfl
 | some a =>
  rw [ha] at h2
  simp only at h2
  subst h2
  simp only
  have h3 := foldM_len l n a h1 l.length 0
  have h4 := atV_run ha
  have h5 : ((l.drop a).take n).length = n := by simp; omega
  rw [okLen_of (by omega),guardO_t,bindO_s,okIdx_of (by simp),guardO_t]
  simp only [rangeX]
  rw [okLen_of (by omega),guardO_t,h5,okLen_of (by omega),guardO_t,okLen_of (by omega),guardO_t,wrap_i64 (by omega) (by omega)]
  rfl
def numB (n k : Int) (b : ApiBlock) : ApiBlock × Int := if (!letV b 79 && !hasV b 77 99000) = true then (⟨b.Skip,[⟨78,IntKind.i64.wrap (1000 * IntKind.i64.wrap (k + n))⟩] ++ b.Words,b.Comment⟩,IntKind.i64.wrap (k + n)) else (b,k)
def numV (n : Int) : Int → List ApiBlock → List ApiBlock
 | _,[]=>[]
 | k,b :: r=>(numB n k b).1 :: numV n (numB n k b).2 r
theorem numV_len (n : Int) : ∀ (l : List ApiBlock) (k : Int),(numV n k l).length = l.length
 | [],_=>rfl
 | b :: r,k=>by rw [numV,List.length_cons,List.length_cons,numV_len n r]
theorem numV_few (n : Int) : ∀ (l : List ApiBlock) (k : Int),(∀ b ∈ l,b.Words.length ≤ 7) → ∀ b ∈ numV n k l,b.Words.length ≤ 8
 | [],_,_,b,hb=>by simp [numV] at hb
 | c :: r,k,h,b,hb=>by
  rw [numV] at hb
  rcases List.mem_cons.1 hb with q | q
  ·subst q
   have := h c (by simp)
   unfold numB
   split
   ·simp; omega
   ·simp only; omega
  ·exact numV_few n r _ (fun x hx=>h x (by simp [hx])) b q
theorem numV_drop {n : Int} {k0 k : Int} {l : List ApiBlock} {i : Nat} {b : ApiBlock} {acc : List ApiBlock} (hx : l[i]? = some b) (h : acc ++ numV n k (l.drop i) = numV n k0 l) : (acc ++ [(numB n k b).1]) ++ numV n (numB n k b).2 (l.drop (i + 1)) = numV n k0 l := by
 have hl := getElem_lt hx
 have : l.drop i = b :: l.drop (i + 1) := by
  rw [List.drop_eq_getElem_cons hl]
  rw [List.getElem?_eq_getElem hl] at hx
  injection hx with hx
  rw [hx]
 rw [this,numV] at h
 rw [← h,List.append_assoc]
 rfl
theorem find_let (b : ApiBlock) (c : Int) : (findV b.Words c).2 = letV b c := by
 unfold findV letV
 cases h : b.Words.find? (fun w=>w.Letter == c) with
 | none =>
  rw [List.find?_eq_none] at h
  symm
  rw [List.any_eq_false]
  exact h
 | some w =>
  have h1 := List.find?_some h
  have h2 := List.mem_of_find?_eq_some h
  symm
  exact List.any_eq_true.2 ⟨w,h2,h1⟩
theorem po_returns_eq {b : ApiBlock} (hb : fewB b) : po_returns b = some (hasV b 77 99000) := by
 unfold fewB at hb
 unfold po_returns hasV
 have hl := codesV_len b.Words 77
 rw [bk_Codes_eq b _ (by omega),bindO_s,okIdx_of (by omega),guardO_t,← codes_has,range_any (p := fun k : Int=>k == 99000) (r := true) _ _ (fun i x=>rfl)]
 have : (codesV b.Words 77).any (fun k=>k == 99000) = (codesV b.Words 77).any (fun k=>99000 == k) := any_congr' fun x _=>by
  rw [Bool.eq_iff_iff]; simp only [beq_iff_eq]; exact ⟨fun h=>h.symm,fun h=>h.symm⟩
 rw [this]
 cases (codesV b.Words 77).any (fun k=>99000 == k) <;> rfl
theorem po_numbered_eq {l : List ApiBlock} {n : Int} (hl : l.length ≤ 100000) (hf : ∀ b ∈ l,fewB b) (hn : IntKind.i64.wrap n = n) : po_numbered l n = some (numV n 0 l) := by
 have key : Tot (po_numbered l n) (fun y=>y = numV n 0 l) := by
  unfold po_numbered
  refine Tot.bind (E := fun y=>y = numV n 0 l) (Tot.guard (okIdx_of (by omega)) (Tot.range (fun i v=>∃ k,v.2 = IntKind.i64.wrap (k + n) ∧ v.1.length ≤ i ∧ v.1 ++ numV n k (l.drop i) = numV n 0 l) _ ⟨0,by rw [Int.zero_add,hn],by simp,by simp⟩ (fun i b v hx hr=>?_) (fun v hr=>.ok ?_))) (fun y hy=>.ok hy)
  ·obtain ⟨k,h1,h2,h3⟩ := hr
   obtain ⟨acc,z⟩ := v
   simp only at h1 h2 h3 ⊢
   subst h1
   have hb := hf b (List.mem_of_getElem? hx)
   have hlt := getElem_lt hx
   rw [bk_Find_eq b 79 (by unfold fewB at hb; omega),bindO_s,find_let]
   refine TotX.bind (E := fun y=>y = (!letV b 79 && !hasV b 77 99000)) (Tot.ite (fun q=>.ok (by rw [q]; rfl)) (fun q=>?_)) (fun y hy=>?_)
   ·rw [po_returns_eq hb,bindO_s,q]; exact .ok rfl
   ·subst hy
    refine TotX.bind (E := fun y=>y.1 = IntKind.i64.wrap ((numB n k b).2 + n) ∧ (⟨b.Skip,y.2,b.Comment⟩ : ApiBlock) = (numB n k b).1) ?_ (fun y hy=>?_)
    ·unfold numB
     refine Tot.ite (fun q=>?_) (fun q=>.ok ?_)
     ·rw [if_pos q]
      unfold po_whole po_word
      rw [bindO_s,bindO_s]
      unfold fewB at hb
      exact Tot.guard (okLen_of (by omega)) (.ok ⟨rfl,rfl⟩)
     ·rw [if_neg (by rw [q]; simp)]
      exact ⟨rfl,rfl⟩
    ·obtain ⟨y1,y2⟩ := hy
     refine TotX.guard (okLen_of (by omega)) (.go ⟨(numB n k b).2,y1,by simp; omega,?_⟩)
     simp only [y2]
     exact numV_drop hx h3
  ·obtain ⟨k,_,_,h3⟩ := hr
   rw [List.drop_length] at h3
   simpa [numV] using h3
 obtain ⟨e,he,rfl⟩ := key
 exact he
def newS : ModalState := ⟨0,90000,54000,49000,98000,0,0,0⟩
def bodyV (l : List ApiStage) (p : ApiPos) (w : Int) (c : Bool) (f : Int) : List ApiBlock :=
 (fun b=>if f = 0 then b else foldJ b f.toNat) (if c = true then cmpV newS (plainV l p w).1 else (plainV l p w).1)
def blocksV (l : List ApiStage) (p : ApiPos) (w : Int) (c : Bool) (n f : Int) : List ApiBlock × Int :=
 if optV w n f ≠ 0 then ([],optV w n f) else if (plainV l p w).2 ≠ 0 then ([],(plainV l p w).2) else ((if n = 0 then bodyV l p w c f else numV n 0 (bodyV l p w c f)),0)
theorem cmpV_few : ∀ (l : List ApiBlock) (s : ModalState),(∀ b ∈ l,goodB b) → ∀ b ∈ cmpV s l,b.Words.length ≤ 7
 | [],_,_,b,hb=>by simp [cmpV] at hb
 | c :: r,s,h,b,hb=>by
  rw [cmpV] at hb
  rcases List.mem_append.1 hb with q | q
  ·unfold cmpB at q
   split at q
   ·simp only [List.mem_cons,List.not_mem_nil,or_false] at q
    subst q
    have h1 := List.length_filter_le (fun w=>!idleW s w) c.Words
    have := (h c (by simp)).2.2
    simp only; omega
   ·simp at q
  ·exact cmpV_few r _ (fun x hx=>h x (by simp [hx])) b q
theorem foldJ_few {l : List ApiBlock} {n : Nat} (h1 : 1 ≤ n) (hl : l.length ≤ 131) (hf : ∀ b ∈ l,b.Words.length ≤ 7) : (foldJ l n).length ≤ 300 ∧ ∀ b ∈ foldJ l n,b.Words.length ≤ 7 := by
 unfold foldJ
 cases ha : atV l n with
 | none=>exact ⟨by simp only; omega,hf⟩
 | some a =>
  have h3 := foldM_len l n a h1 l.length 0
  have h4 := atV_run ha
  refine ⟨by simp; omega,fun b hb=>?_⟩
  simp only [List.mem_append,List.mem_cons,List.not_mem_nil,or_false] at hb
  rcases hb with ((q | q) | q) | q
  ·exact foldM_few hf _ _ b q
  ·subst q; simp [markB]
  ·exact hf b (List.mem_of_mem_drop (List.mem_of_mem_take q))
  ·subst q; simp [markB]
theorem optV_ok {w n f : Int} (h : optV w n f = 0) : grp w = 3 ∧ 0 ≤ n ∧ n ≤ 1000 ∧ (f = 0 ∨ (2 ≤ f ∧ f ≤ 100)) := by
 unfold optV at h
 split at h
 ·omega
 ·rename_i q
  simp only [not_or,not_and,ne_eq,Decidable.not_not] at q
  refine ⟨q.1,by omega,by omega,?_⟩
  by_cases hf : f = 0
  ·exact .inl hf
  ·have := q.2.2.2 hf; right; omega
theorem body_few {l : List ApiStage} {p : ApiPos} {w n f : Int} {c : Bool} (hl : okStages l) (hp : okPos p) (ho : optV w n f = 0) : (bodyV l p w c f).length ≤ 300 ∧ ∀ b ∈ bodyV l p w c f,b.Words.length ≤ 7 := by
 obtain ⟨o1,o2,o3,o4⟩ := optV_ok ho
 obtain ⟨g1,g2⟩ := plain_good hl hp o1
 have hc : (if c = true then cmpV newS (plainV l p w).1 else (plainV l p w).1).length ≤ 131 ∧ ∀ b ∈ (if c = true then cmpV newS (plainV l p w).1 else (plainV l p w).1),b.Words.length ≤ 7 := by
  cases c with
  | true=>exact ⟨by have := cmpV_len (plainV l p w).1 newS; simp only [if_true]; omega,cmpV_few _ _ g2⟩
  | false=>exact ⟨g1,fun b hb=>(g2 b hb).2.2⟩
 unfold bodyV
 by_cases hf : f = 0
 ·simp only [hf,if_true]
  exact ⟨by have := hc.1; omega,hc.2⟩
 ·simp only [hf,if_false]
  exact foldJ_few (by omega) hc.1 hc.2
theorem blocks_few {l : List ApiStage} {p : ApiPos} {w n f : Int} {c : Bool} (hl : okStages l) (hp : okPos p) : (blocksV l p w c n f).1.length ≤ 300 ∧ ∀ b ∈ (blocksV l p w c n f).1,b.Words.length ≤ 8 := by
 unfold blocksV
 split
 ·exact ⟨by simp,fun b hb=>by simp at hb⟩
 ·rename_i ho
  split
  ·exact ⟨by simp,fun b hb=>by simp at hb⟩
  ·obtain ⟨h1,h2⟩ := body_few (c := c) hl hp (n := n) (f := f) (w := w) (by omega)
   by_cases hn : n = 0
   ·simp only [hn,if_true]
    exact ⟨h1,fun b hb=>by have := h2 b hb; omega⟩
   ·simp only [hn,if_false]
    exact ⟨by rw [numV_len]; exact h1,numV_few _ _ _ h2⟩
theorem po_Blocks_eq {l : List ApiStage} {p : ApiPos} {w n f : Int} {c : Bool} (hl : okStages l) (hp : okPos p) : po_Blocks l p ⟨w,c,n,f⟩ = some (blocksV l p w c n f) := by
 unfold po_Blocks blocksV
 rw [po_Valid_eq,bindO_s]
 simp only
 by_cases ho : optV w n f = 0
 ·obtain ⟨o1,o2,o3,o4⟩ := optV_ok ho
  obtain ⟨g1,g2⟩ := plain_good hl hp o1
  have hbf := body_few (c := c) hl hp ho
  rw [ho,if_neg (show ¬ ((0 : Int) != 0) = true by decide),if_neg (show ¬ (0 : Int) ≠ 0 by decide),po_plain_eq hl hp,bindO_s]
  simp only
  by_cases he : (plainV l p w).2 = 0
  ·rw [he,if_neg (show ¬ ((0 : Int) != 0) = true by decide),if_neg (show ¬ (0 : Int) ≠ 0 by decide)]
   have hcm : (if c = true then bindO md_New fun y=>bindO (md_Compress y (plainV l p w).1) fun z=>if (z.2 != 0) = true then some (.ret ([],z.2)) else some (.go z.1) else some (.go (plainV l p w).1)) = (some (.go (if c = true then cmpV newS (plainV l p w).1 else (plainV l p w).1)) : Option (Ex (List ApiBlock × Int) (List ApiBlock))) := by
    cases c with
    | false=>rfl
    | true =>
     simp only [if_true,md_New,bindO_s]
     rw [show ModalState.mk 0 90000 54000 49000 98000 0 0 0 = newS from rfl,md_Compress_tot newS _ (by omega) g2,bindO_s]
     rfl
   rw [hcm,bindX_g]
   have hC : ∀ b ∈ (if c = true then cmpV newS (plainV l p w).1 else (plainV l p w).1),b.Words.length ≤ 7 := by
    cases c with
    | true=>exact cmpV_few _ _ g2
    | false=>exact fun b hb=>(g2 b hb).2.2
   have hCl : (if c = true then cmpV newS (plainV l p w).1 else (plainV l p w).1).length ≤ 131 := by
    cases c with
    | true=>have := cmpV_len (plainV l p w).1 newS; simp only [if_true]; omega
    | false=>exact g1
   have hfo : (if (f != 0) = true then bindO (sp_Fold (if c = true then cmpV newS (plainV l p w).1 else (plainV l p w).1) 1000 f) fun y=>if (y.2 != 0) = true then some (.ret ([],y.2)) else bindO (sp_Join y.1) fun z=>some (.go z) else some (.go (if c = true then cmpV newS (plainV l p w).1 else (plainV l p w).1))) = (some (.go (bodyV l p w c f)) : Option (Ex (List ApiBlock × Int) (List ApiBlock))) := by
    unfold bodyV
    by_cases hf : f = 0
    ·simp [hf]
    ·have hf2 : f = ((f.toNat : Nat) : Int) := by omega
     rw [if_pos (by simpa using hf)]
     simp only [hf,if_false]
     obtain ⟨q,q1,q2⟩ := sp_folded (l := (if c = true then cmpV newS (plainV l p w).1 else (plainV l p w).1)) (n := f.toNat) (by omega) (by omega) (by omega) (fun b hb=>by have := hC b hb; unfold fewB; omega)
     rw [← hf2] at q1
     rw [q1,bindO_s]
     simp only [bne_self_eq_false,Bool.false_eq_true,if_false]
     rw [q2,bindO_s]
   rw [hfo,bindX_g,decide_eq_false (by omega),if_neg (by simp)]
   by_cases hn : n = 0
   ·simp [hn]
   ·rw [if_pos (by simpa using hn),po_numbered_eq (by omega) (fun b hb=>by have := hbf.2 b hb; unfold fewB; omega) (wrap_i64 (by omega) (by omega)),bindO_s,bindO_s,if_neg hn]
  ·rw [if_pos (by simpa using he),if_pos he]
 ·rw [if_pos (by simpa using ho),if_pos ho]
end Go.Proofs.YtjgngikiglhleaaGreatDoor
