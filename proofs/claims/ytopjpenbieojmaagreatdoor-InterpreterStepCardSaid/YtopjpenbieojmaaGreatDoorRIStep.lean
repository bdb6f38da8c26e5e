import Derived.Test.YtopjpenbieojmaaGreatDoorVz
import Derived.Test.YtopjpenbieojmaaGreatDoorGp
import Derived.Test.YtopjpenbieojmaaGreatDoorMLInterpreterStep
namespace Go.Proofs.YtopjpenbieojmaaGreatDoor
open Go.RowKit
set_option linter.unusedVariables false
set_option linter.unusedSimpArgs false
theorem inU8 {n : Int} (h : inInt .u8 n) : 0 ≤ n ∧ n ≤ 255 := by
 simp [inInt,Lit.wf,IntKind.min,IntKind.max,IntKind.signed,IntKind.bits] at h
 omega
theorem in_i64 {n : Int} (h : (inInt .i64) n) : i64P n := by
 simp [inInt,Lit.wf,IntKind.min,IntKind.max,IntKind.signed,IntKind.bits] at h
 unfold i64P; omega
theorem r42_Regular_tot (s : ModalState) : Tot (r42_Regular (backS s)) (fun b=>b = true → regMd s) := by
 unfold r42_Regular
 rw [r42_Group_eq,bindO_s]
 refine Tot.bindX (E := fun _=>regMd s) (TotX.ite (fun _=>.ret (by simp)) (fun h1=>?_)) (fun _ hr=>?_)
 ·rw [r42_Group_eq,bindO_s]
  refine TotX.ite (fun _=>.ret (by simp)) (fun h2=>?_)
  have hr : regMd s := by
   exact ⟨grp_1 (show grp (backS s).Motion = 1 by simpa using h1),grp_2 (show grp (backS s).Distance = 2 by simpa using h2)⟩
  rw [r42_Group_eq,bindO_s]
  refine TotX.ite (fun _=>.ret (by simp)) (fun _=>?_)
  rw [r42_Group_eq,bindO_s]
  refine TotX.ite (fun _=>.ret (by simp)) (fun _=>?_)
  rw [r42_Group_eq,bindO_s]
  exact TotX.ite (fun _=>.ret (by simp)) (fun _=>.go hr)
 ·unfold r42_Line
  rw [bindO_s,r42_Check_eq _ (fun w hw=>?_) (by simp),bindO_s]
  ·exact .ok (fun _=>hr)
  ·simp only [List.mem_cons,List.not_mem_nil,or_false] at hw
   rcases hw with rfl | rfl | rfl | rfl | rfl | rfl | rfl | rfl <;> (unfold u8W; dsimp only; omega)
theorem setB0 {l : List ApiMotion} (h : ∀ m ∈ l,m.Block = 0) : l.map (setB 0) = l := by
 induction l with
 | nil=>rfl
 | cons m l ih =>
  rw [List.map_cons,ih (fun x hx=>h x (by simp [hx]))]
  have := h m (by simp)
  cases m
  simp only at this
  subst this
  rfl
theorem interpreterStep_plain (m : R47Machine) (b : ApiBlock) (t : R45Table) (hm : inR47Machine m) (hb : inApiBlock b) (ht : inR45Table t) : l47_InterpreterStep m b t = some true := by
 obtain ⟨st,cy,at_⟩ := m
 obtain ⟨s,rfl⟩ : ∃ s : ModalState,backS s = st := ⟨⟨st.Motion,st.Distance,st.Work,st.Length,st.Return,st.Feed,st.Tool,st.Offset⟩,rfl⟩
 obtain ⟨c,rfl⟩ : ∃ c : CycleCycle,r44c c = cy := ⟨⟨cy.Code,cy.R,cy.Z,cy.Q,cy.Rate,cy.Initial,cy.High⟩,rfl⟩
 have hF : i64P s.Feed := in_i64 hm.1.2.2.2.2.2.1
 have hu : ∀ w ∈ b.Words,u8W w := fun w hw=>inU8 ((hb.2.1.2 w hw).1)
 suffices h : Tot (l47_InterpreterStep (R47Machine.mk (backS s) (r44c c) at_) b t) (fun b=>b = true) by
  obtain ⟨e,h1,h2⟩ := h
  rw [h1,h2]
 unfold l47_InterpreterStep
 simp only [awake47,bindO_s,if_true]
 refine Tot.bind (E := fun x=>x = true ∨ (fewL [b] ∧ t.Lengths.length ≤ 20 ∧ regMd s)) (Tot.bind (l47_few_tot [b] (L47Setting.mk t (ApiPos.mk 0 0 0)) (by simp)) fun x hx=>Tot.ite (fun hx1=>Tot.bind (r42_Regular_tot s) fun y hy=>.ok ?_) (fun _=>.ok (.inl rfl))) fun x hx=>Tot.ite (fun _=>.ok rfl) (fun hf=>?_)
 ·cases y with
  | true=>exact .inr ⟨(hx hx1).1,(hx hx1).2,hy rfl⟩
  | false=>exact .inl rfl
 ·obtain ⟨hfew,hl,hr⟩ := hx.resolve_left (by simp [hf])
  have hok : okS b := ⟨hu,by have := (hfew.2 b (by simp)).1; omega,by have := (hfew.2 b (by simp)).2; omega⟩
  have hl' : (theirsW t).Lengths.length ≤ 1000 := by simp [theirsW]; omega
  obtain ⟨l,s',d,e,a,h1,h2,h3⟩ := step_same (c := c) (p := at_) (t := t) 0 hok (by omega) hr hF
  have hE := stepT_E (s := s) (c := c) (p := at_) (t := theirsW t) hok hl'
  have h1' := h1
  rw [stepT_eq hok hl'] at h1'
  injection h1' with h1'
  rw [h1'] at hE
  obtain ⟨e1,e2,e3⟩ := hE
  dsimp only at e1 e2 e3
  rw [setB0 e2] at h2
  rw [show l47_state (backS s) = some s from rfl,bindO_s,l47_theirs_eq _ (by omega),bindO_s]
  show Tot (bindO (inp_Step s c b (theirsW t) at_) _) _
  rw [h1,bindO_s]
  show Tot (bindO (r47_Step (R47Machine.mk (backS s) (r44c c) at_) b t ((0 : Nat) : Int)) _) _
  rw [h2,bindO_s]
  dsimp only
  rw [same_self l (by omega),bindO_s,if_neg (by simp),if_pos rfl,show l47_back s' = some (backS s') from rfl,bindO_s]
  simp only [beq_self_eq_true,Bool.and_self,if_true]
  rw [show l47_own d = some (r44c d) from rfl,bindO_s]
  simp only [beq_self_eq_true,Bool.and_self,Bool.not_true,bindO_s,Bool.false_eq_true,if_false]
  refine Tot.bind (E := fun x=>x = true) (Tot.ite (fun _=>.ok rfl) (fun h0=>?_)) (fun x hx=>.ok hx)
  have he : e = 0 := by simpa using h0
  obtain ⟨q1,_,_⟩ := h3 he
  rw [inp_End_eq _ _ (by omega),bindO_s,q1]
  exact .ok (by simp)
end Go.Proofs.YtopjpenbieojmaaGreatDoor
