import Derived.Test.YtopjpenbieojmaaDoorWb
import Derived.Test.YtopjpenbieojmaaDoorVz
import Derived.Test.YtopjpenbieojmaaDoorGp
import Derived.Test.YtopjpenbieojmaaDoorMLInterpreterRelative
namespace Go.Proofs.YtopjpenbieojmaaDoor
open Go.RowKit
set_option linter.unusedVariables false
set_option linter.unusedSimpArgs false
theorem in_i16 {n : Int} (h : (inInt .i16) n) : -32768 ≤ n ∧ n ≤ 32767 := by
 simp [inInt, Lit.wf, IntKind.min, IntKind.max, IntKind.signed, IntKind.bits] at h
 omega
def wayP (e : Arr3I16) : ApiPos := ⟨e.e0, e.e1, e.e2⟩
theorem interpreterRelative_plain (ways : List Arr3I16) (s : L47Setting) (feed : Bool) (h1 : inList inArr3I16 ways) (h2 : inL47Setting s) (h3 : inBool feed) : l47_InterpreterRelative ways s feed = some true := by
 have hway : ∀ e ∈ ways, smallP (wayP e) := fun e he => by
  obtain ⟨a, b, c⟩ := h1.2 e he
  exact ⟨in_i16 a, in_i16 b, in_i16 c⟩
 suffices h : Tot (l47_InterpreterRelative ways s feed) (fun b => b = true) by
  obtain ⟨e, h1, h2⟩ := h
  rw [h1, h2]
 unfold l47_InterpreterRelative
 simp only [awake47, bindO_s, if_true]
 refine Tot.bind (E := fun b => b = true ∨ (ways.length ≤ 20 ∧ s.Table.Lengths.length ≤ 20 ∧ r45_Valid s.Table = some 0 ∧ inR s.From)) (Tot.ite (fun _ => .ok (.inl rfl)) (fun q1 => Tot.ite (fun _ => .ok (.inl rfl)) (fun q2 => ?_))) (fun b hb => Tot.ite (fun _ => .ok rfl) (fun hf => ?_))
 ·simp at q1 q2
  obtain ⟨ev, hev, hev2⟩ := r45_Valid_tot s.Table (by omega)
  rw [hev, bindO_s]
  refine Tot.ite (fun _ => .ok (.inl rfl)) (fun q3 => ?_)
  have e0 : ev = 0 := by simpa using q3
  rw [r47_InRange_eq, bindO_s]
  by_cases hp : inR s.From
  ·exact .ok (.inr ⟨by omega, by omega, by rw [e0], hp⟩)
  ·rw [decide_eq_false hp]; exact .ok (.inl rfl)
 ·obtain ⟨l1, l2, hv, hp⟩ := hb.resolve_left (by simp [hf])
  have ht : (theirsW s.Table).Lengths.length ≤ 1000 := by simp [theirsW]; omega
  have hT : tb_Valid (theirsW s.Table) = some 0 := by rw [valid_same _ (by omega), hv]
  have hW : r45_Work s.Table 54000 0 s.From = some (workV (theirsW s.Table) 54000 0 s.From) := by
   rw [← work_same _ _ _ _ (by omega), workV_eq ht]
  have hc := checked_0 hT hp
  have hwR := workV_in ht 54000 0 s.From
  rw [hW, bindO_s]
  generalize hwv : workV (theirsW s.Table) 54000 0 s.From = wv at hwR
  obtain ⟨pw, e⟩ := wv
  refine Tot.ite (fun _ => .ok rfl) (fun q4 => ?_)
  have e0 : e = 0 := by simpa using q4
  subst e0
  obtain ⟨p1, p2, p3⟩ := hwR rfl
  obtain ⟨k, hk, hk2⟩ : ∃ k : Int, (if feed = true then some (1000 : Int) else some 0) = some k ∧ (k = 0 ∨ k = 1000) := by
   cases feed
   ·exact ⟨0, rfl, .inl rfl⟩
   ·exact ⟨1000, rfl, .inr rfl⟩
  have hword : ∀ a b, l47_word a b = some ⟨a, b⟩ := fun _ _ => rfl
  have hth := l47_theirs_eq s.Table (by omega)
  rw [hk, bindO_s]
  simp only [hword, bindO_s, hth]
  refine Tot.bind (E := fun v => v = (hdB 91000 k :: (ways.map wayP).map bX, hdB 90000 k :: absL pw (ways.map wayP), (ways.map wayP).foldl addP pw)) (Tot.guard (okIdx_of (by omega)) (Tot.range (fun i v => v = (hdB 91000 k :: ((ways.map wayP).take i).map bX, hdB 90000 k :: absL pw ((ways.map wayP).take i), ((ways.map wayP).take i).foldl addP pw) ∧ ((-10000000 - 32768 * (i : Int) ≤ v.2.2.X ∧ v.2.2.X ≤ 10000000 + 32768 * (i : Int)) ∧ (-10000000 - 32768 * (i : Int) ≤ v.2.2.Y ∧ v.2.2.Y ≤ 10000000 + 32768 * (i : Int)) ∧ (-10000000 - 32768 * (i : Int) ≤ v.2.2.Z ∧ v.2.2.Z ≤ 10000000 + 32768 * (i : Int)))) _ ⟨rfl, by simpa using p1, by simpa using p2, by simpa using p3⟩ (fun i x v hx hr => ?_) (fun v hr => .ok ?_))) (fun v hv2 => ?_)
  ·have hlt := getElem_lt hx
   obtain ⟨hr1, b1, b2, b3⟩ := hr
   obtain ⟨x1, x2, x3⟩ := hway x (List.mem_of_getElem? hx)
   have y1 : -32768 ≤ x.e0 ∧ x.e0 ≤ 32767 := x1
   have y2 : -32768 ≤ x.e1 ∧ x.e1 ≤ 32767 := x2
   have y3 : -32768 ≤ x.e2 ∧ x.e2 ≤ 32767 := x3
   have hlen1 : v.1.length ≤ 21 := by rw [hr1]; simp; omega
   have hlen2 : v.2.1.length ≤ 21 := by rw [hr1]; simp [absL_len]; omega
   unfold l47_plus
   rw [wrap_i64 (n := x.e0) (by omega) (by omega), wrap_i64 (n := x.e1) (by omega) (by omega), wrap_i64 (n := x.e2) (by omega) (by omega)]
   dsimp only
   rw [wrap_i64 (n := v.2.2.X + x.e0) (by omega) (by omega), wrap_i64 (n := v.2.2.Y + x.e1) (by omega) (by omega), wrap_i64 (n := v.2.2.Z + x.e2) (by omega) (by omega), bindO_s, okLen_of (by omega), guardO_t, okLen_of (by omega), guardO_t]
   refine .go ⟨?_, ?_⟩
   ·have ht1 : (ways.map wayP).take (i + 1) = (ways.map wayP).take i ++ [wayP x] := by
     rw [List.take_add_one, List.getElem?_map, hx]; rfl
    rw [ht1, List.map_append, absL_snoc, List.foldl_append, hr1]
    rfl
   ·dsimp only
    omega
  ·rw [hr.1]
   have : (ways.map wayP).take ways.length = ways.map wayP := by rw [List.take_of_length_le]; simp
   rw [this]
  ·subst hv2
   dsimp only
   have hsm : ∀ d ∈ ways.map wayP, smallP d := fun d hd => by
    obtain ⟨x, hx, rfl⟩ := List.mem_map.1 hd
    exact hway x hx
   have hL1 : (hdB 91000 k :: (ways.map wayP).map bX ++ [endB]).length = ways.length + 2 := by simp
   have hL2 : (hdB 90000 k :: absL pw (ways.map wayP) ++ [endB]).length = ways.length + 2 := by simp [absL_len]
   have hb1 : ∀ b ∈ hdB 91000 k :: (ways.map wayP).map bX ++ [endB], okS b := fun b hb => by
    simp only [List.cons_append, List.mem_cons, List.mem_append, List.not_mem_nil, or_false] at hb
    rcases hb with rfl | hb | rfl
    ·exact okS_hd _ _
    ·obtain ⟨x, _, rfl⟩ := List.mem_map.1 hb
     exact okS_bX _
    ·exact okS_end
   have hb2 : ∀ b ∈ hdB 90000 k :: absL pw (ways.map wayP) ++ [endB], okS b := fun b hb => by
    simp only [List.cons_append, List.mem_cons, List.mem_append, List.not_mem_nil, or_false] at hb
    rcases hb with rfl | hb | rfl
    ·exact okS_hd _ _
    ·exact absL_ok _ _ _ hb
    ·exact okS_end
   have hB1 := inp_Blocks_eq (hdB 91000 k :: (ways.map wayP).map bX ++ [endB]) (theirsW s.Table) s.From 0 hc (by omega) hb1 ht
   have hB2 := inp_Blocks_eq (hdB 90000 k :: absL pw (ways.map wayP) ++ [endB]) (theirsW s.Table) s.From 0 hc (by omega) hb2 ht
   rw [if_neg (by simp)] at hB1 hB2
   have hall := rel_all hk2 ht hT (ways.length + 2) (ways.map wayP) s.From pw hsm hp hwv
   rw [hL1] at hB1
   rw [hL2, ← hall] at hB2
   obtain ⟨a, _⟩ := runB_ok (theirsW s.Table) (ways.length + 2) s.From ht (hdB 91000 k :: (ways.map wayP).map bX ++ [endB]) 0 ([], s.From, newS, zC) hb1 (by omega) ⟨⟨rfl, by simp, hp⟩, by simp, by simp, by simp⟩ rfl
   have hlen2 := a.2.2.2
   generalize runB (theirsW s.Table) (ways.length + 2) 0 (hdB 91000 k :: (ways.map wayP).map bX ++ [endB]) ([], s.From, newS, zC) = r at hlen2 hB1 hB2
   rw [okLen_of (by simp; omega), guardO_t]
   show Tot (bindO (inp_Blocks (hdB 91000 k :: (ways.map wayP).map bX ++ [endB]) (theirsW s.Table) s.From) _) _
   rw [hB1, bindO_s, okLen_of (by simp [absL_len]; omega), guardO_t]
   show Tot (bindO (inp_Blocks (hdB 90000 k :: absL pw (ways.map wayP) ++ [endB]) (theirsW s.Table) s.From) _) _
   rw [hB2, bindO_s, same_self _ (by omega)]
   simp only [beq_self_eq_true, Bool.and_self, if_true, bindO_s]
   exact .ok rfl
end Go.Proofs.YtopjpenbieojmaaDoor
