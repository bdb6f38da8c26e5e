import Derived.Test.YthljcnchaopncaaGreatDoorSs
namespace Go.Proofs.YthljcnchaopncaaGreatDoor
open Go.RowKit
theorem SrcOk.row {w : World} {base : Nat} {F : Nat → Nat → Value → Prop} {e : TypeId} {sz : Nat} {ys : List (List D)} {v : Value} {xs : List Value} (ho : w.ownsRow base e sz v ys.length xs) (hr : relRow F sz ys xs) : SrcOk w F sz ys v := by
 refine ⟨fun hy=>?_,fun hy=>?_⟩
 ·obtain ⟨A,c,hv⟩ := own_slice ho
  rw [hy] at hv; exact ⟨A,c,hv⟩
 ·obtain ⟨b,cap,rfl,_⟩ := ho.form hy
  refine ⟨b,0,cap,xs,rfl,ho.1,ho.cells rfl,fun u hu=>?_,hr.2⟩
  obtain ⟨q,hq,rfl⟩ := List.getElem_of_mem hu
  have hl := ho.1
  have hz : 0 < sz := Nat.pos_of_ne_zero (fun h=>by subst h; omega)
  have hi : q / sz < ys.length := (Nat.div_lt_iff_lt_mul hz).2 (by omega)
  have he := List.getElem?_eq_getElem hi
  have hm : q % sz < (ys[q / sz]).length := by rw [hr.1 _ _ he]; exact Nat.mod_lt _ hz
  obtain ⟨u,u1,u2⟩ := hr.2 _ _ _ _ he (List.getElem?_eq_getElem hm)
  have e1 : q / sz * sz + q % sz = q := Nat.div_add_mod' q sz
  rw [e1,List.getElem?_eq_getElem hq] at u1
  injection u1 with u1
  rw [u1]; exact relD_one u2
section
variable {P : Program} {g : Pg P} {d : Option Tmp} {t ty : TypeId} {p : String} {af : Array Edge} {gd : Option (Nat × Bool)} {fr : Fr} {s : Sg} {R : V → Sg → Prop}
theorem lns_set {s : Sg} {k : Nat} {c0 c : TypeId × Nat} (h : s.lns[k]? = some c0) : upd (fun k=>s.lns[k]?) k c = fun j=>(s.lns.set k c)[j]? := by
 funext j
 have hk := getElem_lt h
 by_cases e : j = k
 ·subst e; rw [upd_same]; simp [hk]
 ·rw [upd_ne _ _ e,List.getElem?_set_ne (fun y=>e y.symm)]
theorem lns_push (s : Sg) (c : TypeId × Nat) : upd (fun k=>s.lns[k]?) s.lns.length c = fun k=>(s.lns ++ [c])[k]? := by
 funext j
 by_cases e : j = s.lns.length
 ·rw [e,upd_same]; simp
 ·rw [upd_ne _ _ e,List.getElem?_append]
  split
  ·rfl
  ·rename_i q
   rw [List.getElem?_eq_none (by omega),List.getElem?_eq_none (by simp; omega)]
end
mutual
def V.fz (k ver : Nat) (es : List (List D)) : V → V
 | .gr j n=>if j = k ∧ n = ver then .d (.list es) else .gr j n
 | .gs j n off len=>if j = k ∧ n = ver then (if off + len ≤ es.length then .d (.list ((es.drop off).take len)) else .undef) else .gs j n off len
 | .agg cs=>.agg (V.fzs k ver es cs)
 | .tuple cs=>.tuple (V.fzs k ver es cs)
 | x=>x
def V.fzs (k ver : Nat) (es : List (List D)) : List V → List V
 | []=>[]
 | x :: xs=>V.fz k ver es x :: V.fzs k ver es xs
end
end Go.Proofs.YthljcnchaopncaaGreatDoor
