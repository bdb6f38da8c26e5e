/-
  Sm, Sn in one text.
-/
import Derived.Test.YtjgngikiglhleaaGreatDoorSkl
namespace Go.Proofs.YtjgngikiglhleaaGreatDoor
open Go.RowKit
set_option linter.unusedVariables false
set_option linter.unusedSimpArgs false
def cnt (L : Array Bool) : Nat → Nat
 | 0=>0
 | m + 1=>cnt L m + (if L.getD m false = true then 0 else 1)
theorem cnt_le (L : Array Bool) : ∀ m,cnt L m ≤ m
 | 0=>Nat.le_refl _
 | m + 1=>by unfold cnt; have := cnt_le L m; split <;> omega
theorem getD_set (L : Array Bool) (i j : Nat) (hi : i < L.size) : (L.setIfInBounds i true).getD j false = (if j = i then true else L.getD j false) := by
 simp only [Array.getD_eq_getD_getElem?,Array.getElem?_setIfInBounds]
 by_cases e : i = j
 ·subst e; simp [hi]
 ·rw [if_neg e,if_neg (fun q=>e q.symm)]
theorem cnt_set (L : Array Bool) (i : Nat) (hi : i < L.size) (hu : L.getD i false = false) : ∀ m,(i < m → cnt (L.setIfInBounds i true) m + 1 = cnt L m) ∧ (m ≤ i → cnt (L.setIfInBounds i true) m = cnt L m)
 | 0=>⟨fun h=>by omega,fun _=>rfl⟩
 | m + 1=>by
  have ih := cnt_set L i hi hu m
  unfold cnt
  rw [getD_set L i m hi]
  refine ⟨fun h=>?_,fun h=>?_⟩
  ·rcases Nat.lt_or_ge i m with q | q
   ·have := ih.1 q
    rw [if_neg (show ¬ m = i by omega)]
    omega
   ·have e : m = i := by omega
    subst e
    have := ih.2 (Nat.le_refl _)
    rw [if_pos rfl,hu]
    simp
    omega
  ·have := ih.2 (by omega)
   rw [if_neg (show ¬ m = i by omega)]
   omega
theorem cnt_zero (L : Array Bool) : ∀ m,cnt L m = 0 → ∀ i,i < m → L.getD i false = true
 | 0,_,i,h=>by omega
 | m + 1,h,i,hi=>by
  unfold cnt at h
  rcases Nat.lt_or_ge i m with q | q
  ·exact cnt_zero L m (by omega) i q
  ·have : i = m := by omega
   subst this
   cases hb : L.getD i false with
   | true=>rfl
   | false=>rw [hb] at h; simp at h
def cfL (ops : Array Oper) (frs : Nat → Fr) (res : Nat → V) (L : Array Bool) : Fr := (List.range (frs 0).length).map (valAt ops frs res (fun j=>L.getD j false) ops.size)
theorem cf_len (ops : Array Oper) (frs : Nat → Fr) (res : Nat → V) (L : Array Bool) : (cfL ops frs res L).length = (frs 0).length := by simp [cfL]
theorem cf_getD (ops : Array Oper) (frs : Nat → Fr) (res : Nat → V) (L : Array Bool) (t : Nat) : (cfL ops frs res L).getD t .undef = valAt ops frs res (fun j=>L.getD j false) ops.size t := by
 rw [List.getD_eq_getElem?_getD]
 rcases Nat.lt_or_ge t (frs 0).length with q | q
 ·unfold cfL
  rw [List.getElem?_map,List.getElem?_range q]; rfl
 ·rw [List.getElem?_eq_none (by rw [cf_len]; exact q)]
  unfold valAt
  split
  ·rw [List.getD_eq_getElem?_getD,List.getElem?_eq_none q]
  ·rw [if_neg (Nat.not_lt.2 q)]; rfl
def Ef.on (e : Ef) (m k : Nat) : Bool := match e with | .alloc _=>m == k | .store j _=>j == k | _=>false
def Ef.cells (e : Ef) : List V := match e with | .alloc cs=>cs | .store _ cs=>cs | _=>[]
theorem obs_at (e : Ef) (obs : Nat → Option (List V)) (m k : Nat) : e.obs obs m k = if e.on m k = true then some e.cells else obs k := by
 have key : ∀ (j : Nat) (cs : List V),upd obs j cs k = if (j == k) = true then some cs else obs k := by
  intro j cs
  by_cases q : k = j
  ·subst q; rw [upd_same,if_pos (by simp)]
  ·rw [upd_ne _ _ q,if_neg (by simp; exact fun z=>q z.symm)]
 cases e with
 | none=>simp [Ef.obs,Ef.on]
 | alloc cs=>exact key m cs
 | store j cs=>exact key j cs
 | app t e n=>simp [Ef.obs,Ef.on]
def obsR (sgs : Nat → Sg) (eff : Nat → Ef) (L : Array Bool) : Nat → Nat → Option (List V)
 | 0,k=>(sgs 0).obs[k]?
 | m + 1,k=>if L.getD m false = true ∧ (eff m).on (sgs m).obs.length k = true then some (eff m).cells else obsR sgs eff L m k
theorem obsR_congr {sgs : Nat → Sg} {eff : Nat → Ef} {L L' : Array Bool} {k : Nat} : ∀ {n : Nat},(∀ j,j < n → (eff j).on (sgs j).obs.length k = true → L'.getD j false = L.getD j false) → obsR sgs eff L' n k = obsR sgs eff L n k
 | 0,_=>rfl
 | n + 1,h=>by
  unfold obsR
  rw [obsR_congr (n := n) fun j hj=>h j (by omega)]
  by_cases ho : (eff n).on (sgs n).obs.length k = true
  ·rw [h n (by omega) ho]
  ·rw [if_neg (fun q=>ho q.2),if_neg (fun q=>ho q.2)]
theorem obsR_keep {sgs : Nat → Sg} {eff : Nat → Ef} {L : Array Bool} {k i : Nat} : ∀ {n : Nat},i ≤ n → (∀ j,i ≤ j → j < n → (eff j).on (sgs j).obs.length k = true → L.getD j false = false) → obsR sgs eff L n k = obsR sgs eff L i k
  | 0, hi, _ => by have : i = 0 := by omega
                   subst this; rfl
  | n + 1,hi,h=>by
    rcases Nat.eq_or_lt_of_le hi with e | q
    · rw [e]
    · conv=>lhs; unfold obsR
      rw [if_neg (fun q'=>by have := h n (by omega) (by omega) q'.2; rw [this] at q'; cases q'.1)]
      exact obsR_keep (by omega) fun j a b=>h j a (by omega)
theorem obsR_none {sgs : Nat → Sg} {eff : Nat → Ef} {L : Array Bool} {k n : Nat} (h : ∀ j,j < n → (eff j).on (sgs j).obs.length k = true → L.getD j false = false) (h0 : (sgs 0).obs.length ≤ k) : obsR sgs eff L n k = none := by
 rw [obsR_keep (i := 0) (Nat.zero_le _) fun j _ b=>h j b]
 exact List.getElem?_eq_none h0
def lnsL (n : Nat) (sgs : Nat → Sg) (eff : Nat → Ef) (L : Array Bool) : Nat → Option (TypeId × Nat) := if (List.range n).any (fun i=>L.getD i false && (eff i).isApp) = true then lnsOf (sgs n) else lnsOf (sgs 0)
section drawn
variable {P : Program} {g : Pg P} {ops : Array Oper} {frs : Nat → Fr} {sgs : Nat → Sg} {res : Nat → V} {eff : Nat → Ef} (ht : Tr g ops 0 frs sgs res eff) (hd : drawOk ops = true)
 {L : Array Bool} (hs : L.size = ops.size) (hcl : ∀ i o,ops[i]? = some o → L.getD i false = true → ∀ p ∈ preds o,L.getD p false = true)
 {i : Nat} {o : Oper} (ho : ops[i]? = some o) (hu : L.getD i false = false) (hp : ∀ p ∈ preds o,L.getD p false = true)
theorem ops_lt {ops : Array Oper} {i : Nat} {o : Oper} (ho : ops[i]? = some o) : i < ops.size := by
 rcases Nat.lt_or_ge i ops.size with q | q
 ·exact q
 ·rw [Array.getElem?_eq_none q] at ho; cases ho
theorem dst_some {ops : Array Oper} {j : Nat} {t : Tmp} (h : (ops[j]?).bind (·.dst) = some t) : ∃ x,ops[j]? = some x ∧ x.dst = some t := by
 cases hx : ops[j]? with
 | none=>rw [hx] at h; cases h
 | some x=>rw [hx] at h; exact ⟨x,rfl,h⟩
include hcl
theorem clos_lis (j k : Nat) (hk : k ∈ (clos ops.toList []).getD j []) (hj : L.getD j false = true) : L.getD k false = true :=
 clos_ok (ops := ops) (lis := fun j=>L.getD j false = true) hcl ops.toList [] (fun j=>by simp) (fun i k h=>by simp at h) j k hk hj
include ho hp
theorem clos_ready (k : Nat) (hk : k ∈ (clos ops.toList []).getD i []) (hne : k ≠ i) : L.getD k false = true := by
  have := clos_ok (ops := ops) (lis := fun j=>L.getD j false = true ∨ j = i) (fun j x hx hj p hpx=>by
    rcases hj with hj | rfl
    · exact .inl (hcl j x hx hj p hpx)
    · rw [ho] at hx; injection hx with hx; subst hx; exact .inl (hp p hpx)) ops.toList [] (fun j=>by simp) (fun i k h=>by simp at h) i k hk (.inr rfl)
  exact this.resolve_right hne
include ht hd hu
theorem look_same (t : Tmp) (h : t ∈ reads ops o) : (cfL ops frs res L).getD t .undef = (frs i).getD t .undef := by
 have hi := ops_lt ho
 rw [cf_getD,ht.at i (by omega) t]
 unfold valAt
 have e1 : lw ops (fun j=>L.getD j false) t ops.size = lw ops (fun j=>L.getD j false) t i := by
  refine lw_cut i ops.size (by omega) (fun j h1 h2 h3=>?_)
  rcases Nat.eq_or_lt_of_le h1 with e | q
  ·subst e; exact hu
  ·obtain ⟨x,hx,hxd⟩ := dst_some h3
   have hpo := drawOk_pair hd ho hx q
   cases hj : L.getD j false with
   | false=>rfl
   | true =>
    unfold pairOk at hpo
    simp only [Bool.and_eq_true] at hpo
    have h2 := hpo.1.1.2
    rw [hxd] at h2
    simp only [Bool.or_eq_true,beq_iff_eq] at h2
    rcases h2 with h2 | h2
    ·have : (reads ops o).contains t = true := by simpa using h
     rw [this] at h2; cases h2
    ·have := clos_lis hcl j i (by simpa using h2) hj
     rw [hu] at this; cases this
 have e2 : lw ops (fun j=>L.getD j false) t i = lw ops (fun _=>true) t i := by
  refine lw_ext i (fun j hj h3=>⟨fun _=>rfl,fun _=>?_⟩)
  obtain ⟨x,hx,hxd⟩ := dst_some h3
  have hpo := drawOk_pair hd hx ho hj
  unfold pairOk at hpo
  simp only [Bool.and_eq_true] at hpo
  have h2 := hpo.1.1.1
  rw [hxd] at h2
  simp only [Bool.or_eq_true,beq_iff_eq] at h2
  rcases h2 with h2 | h2
  ·have : (reads ops o).contains t = true := by simpa using h
   rw [this] at h2; simp at h2
  ·exact clos_ready hcl ho hp j (by simpa using h2) (by omega)
 rw [e1,e2]
theorem look_operand (x : Operand) (h : x ∈ o.op.operands) : evalO (cfL ops frs res L) x = evalO (frs i) x := by
 cases x with
 | tmp t =>
  refine look_same ht hd hcl ho hu hp t ?_
  unfold reads Oper.looksAt
  exact List.mem_append_left _ (List.mem_filterMap.2 ⟨.tmp t,by simpa using h,rfl⟩)
 | _=>rfl
theorem look_wanted : wantedS ops (cfL ops frs res L) o = wantedS ops (frs i) o := by
 unfold wantedS
 cases hg : o.guard with
 | none=>rfl
 | some jw =>
  obtain ⟨j,want⟩ := jw
  simp only
  cases hb : (ops[j]?).bind (·.dst) with
  | none=>rfl
  | some t =>
   simp only
   rw [look_same ht hd hcl ho hu hp t (by
    unfold reads Oper.looksAt
    refine List.mem_append_right _ ?_
    rw [hg]; simp [hb])]
omit hp ht in
include hs in
theorem cf_put : cfL ops frs res (L.setIfInBounds i true) = putF (cfL ops frs res L) o.dst (res i) := by
  have hi := ops_lt ho
  have hset : ∀ j,(L.setIfInBounds i true).getD j false = (if j = i then true else L.getD j false) := fun j=>getD_set L i j (by omega)
  apply List.ext_getElem?
  intro t
  have hl1 := cf_len ops frs res (L.setIfInBounds i true)
  have hl2 : (putF (cfL ops frs res L) o.dst (res i)).length = (frs 0).length := by unfold putF; split <;> simp [cf_len]
  rcases Nat.lt_or_ge t (frs 0).length with q | q
  · have a1 : (cfL ops frs res (L.setIfInBounds i true))[t]? = some ((cfL ops frs res (L.setIfInBounds i true)).getD t .undef) := by
      rw [List.getD_eq_getElem?_getD,List.getElem?_eq_getElem (by omega)]; rfl
    have a2 : (putF (cfL ops frs res L) o.dst (res i))[t]? = some ((putF (cfL ops frs res L) o.dst (res i)).getD t .undef) := by
      rw [List.getD_eq_getElem?_getD,List.getElem?_eq_getElem (by omega)]; rfl
    rw [a1,a2,cf_getD]
    congr 1
    by_cases e : o.dst = some t
    · have : lw ops (fun j => (L.setIfInBounds i true).getD j false) t ops.size = some i := by
        refine lw_top i ops.size hi (by rw [hset,if_pos rfl]) (by rw [ho]; exact e) (fun j h1 h2 h3=>?_)
        rw [hset,if_neg (by omega)]
        obtain ⟨x,hx,hxd⟩ := dst_some h3
        have hpo := drawOk_pair hd ho hx h1
        cases hj : L.getD j false with
        | false=>rfl
        | true =>
          unfold pairOk at hpo
          simp only [Bool.and_eq_true] at hpo
          have h2 := hpo.1.1.1
          rw [e] at h2
          simp only [Bool.or_eq_true,beq_iff_eq] at h2
          rcases h2 with h2 | h2
          · rw [hxd] at h2; simp at h2
          · have := clos_lis hcl j i (by simpa using h2) hj
            rw [hu] at this; cases this
      unfold valAt
      rw [this]
      simp only [if_pos q,putF,e,List.getD_eq_getElem?_getD,List.getElem?_set]
      have : t < (cfL ops frs res L).length := by rw [cf_len]; exact q
      simp [this]
    · have e1 : (putF (cfL ops frs res L) o.dst (res i)).getD t .undef = (cfL ops frs res L).getD t .undef := by
        unfold putF
        split
        · rename_i d hdd
          simp only [List.getD_eq_getElem?_getD]
          rw [List.getElem?_set_ne (fun z=>e (by rw [hdd,z]))]
        · rfl
      rw [e1,cf_getD]
      unfold valAt
      rw [lw_ext (q := fun j=>L.getD j false) ops.size (fun j hj h3=>by
        show (L.setIfInBounds i true).getD j false = true ↔ L.getD j false = true
        rw [hset]
        by_cases ej : j = i
        · subst ej; rw [ho] at h3; exact absurd h3 e
        · rw [if_neg ej])]
  · rw [List.getElem?_eq_none (by omega),List.getElem?_eq_none (by omega)]
end drawn
end Go.Proofs.YtjgngikiglhleaaGreatDoor
namespace Go.Proofs.YtjgngikiglhleaaGreatDoor
open Go.RowKit
set_option linter.unusedVariables false
set_option linter.unusedSimpArgs false
theorem pair_app {ops : Array Oper} (hd : drawOk ops = true) {i j : Nat} {x y : Oper} (hx : ops[i]? = some x) (hy : ops[j]? = some y) (hij : i < j) : ¬ (opApp x.op = true ∧ opApp y.op = true) := by
 have h := drawOk_pair hd hx hy hij
 unfold pairOk at h
 simp only [Bool.and_eq_true] at h
 have h2 := h.1.2
 intro q
 rw [q.1,q.2] at h2
 simp at h2
theorem store_ptr {P : Program} {g : Pg P} {obs : Nat → Option (List V)} {lns : Nat → Option (TypeId × Nat)} {k t : Nat} {o : Oper} {ρ : Operand → V} {y : V} {j : Nat} {cs : List V} (h : stepS g obs lns k t o ρ = some (y,.store j cs)) : opStore o.op = true ∧ ∃ x off,touchP o.op = some x ∧ ρ x = .ptr j off := by
 have hk := (stepS_kind h).2.1 rfl
 refine ⟨hk,?_⟩
 obtain ⟨dst,op,type,pos,after,guard⟩ := o
 cases op <;> simp [opStore] at hk
 rename_i ty a x
 simp only [stepS,extS,stepS0] at h
 split at h
 ·rename_i j' off hx
  split at h
  ·split at h
   ·injection h with h; injection h with _ h; injection h with h1 h2; subst h1
    exact ⟨a,off,rfl,hx⟩
   ·cases h
  ·cases h
 ·cases h
section drawn
variable {P : Program} {g : Pg P} {ops : Array Oper} {frs : Nat → Fr} {sgs : Nat → Sg} {res : Nat → V} {eff : Nat → Ef} (ht : Tr g ops 0 frs sgs res eff) (hd : drawOk ops = true) (hsp : sepL (seps ops) (frs ops.size) = true)
include ht
theorem Tr.fits (i : Nat) (hi : i < ops.size) : (eff i).fits (sgs i) := by
 obtain ⟨o,ho⟩ : ∃ o,ops[i]? = some o := ⟨ops[i],Array.getElem?_eq_getElem hi⟩
 rcases ht.one i o (Nat.zero_le _) ho with ⟨_,_,h⟩ | ⟨_,p,args,tys,fid,xs,_,_,_,h⟩ | ⟨_,h⟩
 ·rw [h]; trivial
 ·rw [h]; trivial
 ·exact stepS_fits h
theorem Tr.stp {i : Nat} {o : Oper} (ho : ops[i]? = some o) {k : Nat} {cs : List V} (he : eff i = .store k cs) : opStore o.op = true ∧ ∃ x off,touchP o.op = some x ∧ evalO (frs i) x = .ptr k off := by
 rcases ht.one i o (Nat.zero_le _) ho with ⟨_,_,h⟩ | ⟨_,p,args,tys,fid,xs,_,_,_,h⟩ | ⟨_,h⟩
 ·rw [he] at h; cases h
 ·rw [he] at h; cases h
 ·rw [he] at h; exact store_ptr h
theorem Tr.endS {i : Nat} (hi : i ≤ ops.size) {a : Tmp} (h : laterW ops i a = false) : (frs ops.size).getD a .undef = (frs i).getD a .undef := by
 rw [ht.at ops.size (Nat.le_refl _),ht.at i hi]
 unfold valAt
 rw [lw_cut i ops.size hi fun j h1 h2 h3=>?_]
 exfalso
 obtain ⟨x,hx,hxd⟩ := dst_some h3
 unfold laterW at h
 rw [Bool.eq_false_iff] at h
 apply h
 rw [List.any_eq_true]
 refine ⟨x,?_,by simp [hxd]⟩
 refine List.mem_of_getElem? (i := j - i) ?_
 rw [List.getElem?_drop]
 rw [show i + (j - i) = j by omega]
 simpa using hx
include hd hsp
theorem Tr.edge {i j : Nat} {x y : Oper} (hx : ops[i]? = some x) (hy : ops[j]? = some y) (hij : i < j) (hn : needE x.op y.op = true) {p q : Operand} {k o1 o2 : Nat} (h1 : touchP x.op = some p) (h2 : touchP y.op = some q) (e1 : evalO (frs i) p = .ptr k o1) (e2 : evalO (frs j) q = .ptr k o2) : i ∈ (clos ops.toList []).getD j [] := by
 rcases drawOk_sep hd hx hy hij hn with h | ⟨a,b,a1,a2,a3,a4,a5⟩
 ·exact h
 ·exfalso
  have hs := sepL_mem hsp a5
  rw [ht.endS (Nat.le_of_lt (ops_lt hx)) a3,ht.endS (Nat.le_of_lt (ops_lt hy)) a4] at hs
  unfold touchT at a1 a2
  rw [h1] at a1
  rw [h2] at a2
  have ep : p = .tmp a := by
   split at a1
   ·rename_i z hz; injection a1 with a1; injection hz with hz; rw [hz,a1]
   ·cases a1
  have eq : q = .tmp b := by
   split at a2
   ·rename_i z hz; injection a2 with a2; injection hz with hz; rw [hz,a2]
   ·cases a2
  subst ep; subst eq
  have e1' : (frs i).getD a .undef = .ptr k o1 := e1
  have e2' : (frs j).getD b .undef = .ptr k o2 := e2
  rw [e1',e2'] at hs
  simp [sepV] at hs
theorem Tr.onE {i j : Nat} {k : Nat} (hj : j < ops.size) (hij : i < j) (h1 : (eff i).on (sgs i).obs.length k = true) (h2 : (eff j).on (sgs j).obs.length k = true) : i ∈ (clos ops.toList []).getD j [] := by
 obtain ⟨x,hx⟩ : ∃ o,ops[i]? = some o := ⟨ops[i],Array.getElem?_eq_getElem (by omega)⟩
 obtain ⟨y,hy⟩ : ∃ o,ops[j]? = some o := ⟨ops[j],Array.getElem?_eq_getElem hj⟩
 have f1 := ht.fits i (by omega)
 have hm := ht.mono i j (by omega) (by omega)
 cases ej : eff j with
 | none=>rw [ej] at h2; cases h2
 | app=>rw [ej] at h2; cases h2
 | alloc cs =>
  exfalso
  rw [ej] at h2
  simp only [Ef.on,beq_iff_eq] at h2
  cases ei : eff i with
  | none=>rw [ei] at h1; cases h1
  | app=>rw [ei] at h1; cases h1
  | alloc cs' =>
   rw [ei] at h1
   simp only [Ef.on,beq_iff_eq] at h1
   have := ht.toks i j (by omega) hj (by rw [ei]; rfl) (by rw [ej]; rfl) (by omega)
   omega
  | store k' cs' =>
   rw [ei] at h1 f1
   simp only [Ef.on,beq_iff_eq] at h1
   simp only [Ef.fits] at f1
   omega
 | store k2 cs =>
  rw [ej] at h2
  simp only [Ef.on,beq_iff_eq] at h2
  subst h2
  obtain ⟨s2,q,o2,t2,e2⟩ := ht.stp hy ej
  cases ei : eff i with
  | none=>rw [ei] at h1; cases h1
  | app=>rw [ei] at h1; cases h1
  | alloc cs' =>
   have kx := (ht.kind i x hx).1 (by rw [ei]; rfl)
   rcases drawOk_sep hd hx hy hij (by unfold needE; rw [s2,kx]; simp) with h | ⟨a,b,a1,_⟩
   ·exact h
   ·exfalso
    unfold touchT at a1
    cases hop : x.op <;> rw [hop] at kx a1 <;> simp [opNew,touchP] at kx a1
  | store k' cs' =>
   rw [ei] at h1
   simp only [Ef.on,beq_iff_eq] at h1
   subst h1
   obtain ⟨s1,p,o1,t1,e1⟩ := ht.stp hx ei
   exact ht.edge hd hsp hx hy hij (by unfold needE; rw [s2,s1]; simp) t1 t2 e1 e2
omit hd hsp in
theorem obsR_all {L : Array Bool} {k : Nat} : ∀ {i : Nat},i ≤ ops.size → (∀ j,j < i → (eff j).on (sgs j).obs.length k = true → L.getD j false = true) → obsR sgs eff L i k = (sgs i).obs[k]?
 | 0,_,_=>rfl
 | i + 1,hi,h=>by
  obtain ⟨o,ho⟩ : ∃ o,ops[i]? = some o := ⟨ops[i],Array.getElem?_eq_getElem (by omega)⟩
  have h1 : ((eff i).sg (sgs i)).obs[k]? = (eff i).obs (fun k=>(sgs i).obs[k]?) (sgs i).obs.length k := congrFun (sg_obs (eff i) (sgs i) (ht.fits i (by omega))) k
  rw [ht.sg i o (Nat.zero_le _) ho,h1,obs_at]
  unfold obsR
  rw [obsR_all (by omega) fun j hj=>h j (by omega)]
  by_cases ho : (eff i).on (sgs i).obs.length k = true
  ·rw [if_pos ⟨h i (by omega) ho,ho⟩,if_pos ho]
  ·rw [if_neg (fun q=>ho q.2),if_neg ho]
omit hd hsp in
theorem obsR_at {L : Array Bool} {k i : Nat} (hi : i ≤ ops.size) (h1 : ∀ j,j < i → (eff j).on (sgs j).obs.length k = true → L.getD j false = true) (h2 : ∀ j,i ≤ j → j < ops.size → (eff j).on (sgs j).obs.length k = true → L.getD j false = false) : obsR sgs eff L ops.size k = (sgs i).obs[k]? := by
 rw [obsR_keep hi h2,obsR_all ht hi h1]
end drawn
theorem reg_drawn {P : Program} {g : Pg P} {ops : Array Oper} {frs : Nat → Fr} {sgs : Nat → Sg} {res : Nat → V} {eff : Nat → Ef} (ht : Tr g ops 0 frs sgs res eff) (hd : drawOk ops = true) {w0 : World} {G0 : Cx} {Q : Exit → Act → World → Prop} {K : Fr → Sg → Prop}
    (hQ : ∀ a w,Post g w0 G0 K a w → Q .normal a w) (hK : K (frs ops.size) (sgs ops.size)) (hsp : sepL (seps ops) (frs ops.size) = true) :
    ∀ (fuel : Nat) (L : Array Bool) (G : Cx) (a : Act) (w : World),L.size = ops.size → (∀ i o,ops[i]? = some o → L.getD i false = true → ∀ p ∈ preds o,L.getD p false = true) → cnt L ops.size ≤ fuel → G0.le G → HRp P w0 w G (obsR sgs eff L ops.size) (lnsL ops.size sgs eff L) → FR G (cfL ops frs res L) a → a.defers = [] →
    wpAny P .any ops Q fuel L a w := by
  have hop : ∀ i,i < ops.size → ∃ o,ops[i]? = some o := fun i hi=>⟨ops[i],Array.getElem?_eq_getElem hi⟩
  have happ : ∀ i j,i < ops.size → j < ops.size → (eff i).isApp = true → (eff j).isApp = true → i = j := by
    intro i j hi hj h1 h2
    obtain ⟨x,hx⟩ := hop i hi
    obtain ⟨y,hy⟩ := hop j hj
    have k1 := (ht.kind i x hx).2.2 h1
    have k2 := (ht.kind j y hy).2.2 h2
    rcases Nat.lt_trichotomy i j with a | a | a
    · exact absurd ⟨k1,k2⟩ (pair_app hd hx hy a)
    · exact a
    · exact absurd ⟨k2,k1⟩ (pair_app hd hy hx a)
  -- the end
  have hend : ∀ (L : Array Bool) (G : Cx) (a : Act) (w : World),(∀ i,i < ops.size → L.getD i false = true) → G0.le G → HRp P w0 w G (obsR sgs eff L ops.size) (lnsL ops.size sgs eff L) → FR G (cfL ops frs res L) a → a.defers = [] → Q .normal a w := by
    intro L G a w hall h0 hH hfr hdf
    refine hQ a w ⟨G,frs ops.size,sgs ops.size,h0,?_,?_,hdf,hK⟩
    · have e1 : obsR sgs eff L ops.size = obsOf (sgs ops.size) := by
        funext k
        exact obsR_all ht (Nat.le_refl _) fun j hj _=>hall j hj
      have e2 : lnsL ops.size sgs eff L = lnsOf (sgs ops.size) := by
        unfold lnsL
        split
        · rfl
        · rename_i hl
          have : (sgs ops.size).lns = (sgs 0).lns := ht.lnsq 0 ops.size (Nat.zero_le _) (Nat.le_refl _) (fun m _ hm=>by
            cases h : (eff m).isApp with
            | false=>rfl
            | true =>
              exfalso; apply hl
              rw [List.any_eq_true]
              refine ⟨m,List.mem_range.2 hm,?_⟩
              rw [hall m hm,h]; rfl)
          unfold lnsOf; rw [this]
      rw [e1,e2] at hH
      exact hH
    · have : cfL ops frs res L = frs ops.size := by
        apply List.ext_getElem?
        intro t
        have hl1 := cf_len ops frs res L
        have hl2 := ht.len ops.size (Nat.le_refl _)
        rcases Nat.lt_or_ge t (frs 0).length with z | z
        · have a1 : (cfL ops frs res L)[t]? = some ((cfL ops frs res L).getD t .undef) := by
            rw [List.getD_eq_getElem?_getD,List.getElem?_eq_getElem (by omega)]; rfl
          have a2 : (frs ops.size)[t]? = some ((frs ops.size).getD t .undef) := by
            rw [List.getD_eq_getElem?_getD,List.getElem?_eq_getElem (by omega)]; rfl
          rw [a1,a2,cf_getD,ht.at ops.size (Nat.le_refl _) t]
          unfold valAt
          rw [lw_ext (q := fun _=>true) ops.size (fun j hj _=>⟨fun _=>rfl,fun _=>hall j hj⟩)]
        · rw [List.getElem?_eq_none (by omega),List.getElem?_eq_none (by omega)]
      rw [← this]; exact hfr
  intro fuel
  induction fuel with
  | zero =>
    intro L G a w hs hcl hc h0 hH hfr hdf
    have hall := cnt_zero L ops.size (by omega)
    refine ⟨?_,hend L G a w hall h0 hH hfr hdf⟩
    cases hr : Region.ready .any ops L with
    | nil=>rfl
    | cons j js =>
      exfalso
      have hj : j ∈ Region.ready .any ops L := by rw [hr]; simp
      obtain ⟨h1,o,ho,_⟩ := mem_ready.1 hj
      have := hall j (ops_lt ho)
      rw [Array.getD_eq_getD_getElem?,Array.getElem?_eq_getElem (by have := ops_lt ho; omega)] at h1 this
      simp at h1 this
      rw [this] at h1; cases h1
  | succ fuel ih =>
    intro L G a w hs hcl hc h0 hH hfr hdf
    refine ⟨fun hr=>?_,fun i hi=>?_⟩
    · refine hend L G a w ?_ h0 hH hfr hdf
      intro i
      induction i using Nat.strongRecOn with
      | _ i ihi =>
        intro hlt
        cases hb : L.getD i false with
        | true=>rfl
        | false =>
          exfalso
          obtain ⟨o,ho⟩ := hop i hlt
          have : i ∈ Region.ready .any ops L := by
            rw [mem_ready]
            refine ⟨?_,o,ho,fun e he hbd=>?_⟩
            · rw [Array.getD_eq_getD_getElem?,Array.getElem?_eq_getElem (by omega)] at hb ⊢
              simpa using hb
            · have hp : e.on ∈ preds o := by
                unfold preds
                exact List.mem_map.2 ⟨e,List.mem_filter.2 ⟨by simpa using he,hbd⟩,rfl⟩
              have := drawOk_pred hd ho hp
              exact ihi e.on this (by omega)
          rw [hr] at this; simp at this
    · obtain ⟨h1,o,ho,hpr⟩ := mem_ready.1 hi
      have hlt := ops_lt ho
      have hu : L.getD i false = false := by
        rw [Array.getD_eq_getD_getElem?,Array.getElem?_eq_getElem (by omega)] at h1 ⊢
        simpa using h1
      have hp : ∀ p ∈ preds o,L.getD p false = true := by
        intro p hpp
        obtain ⟨e,he,rfl⟩ := List.mem_map.1 hpp
        obtain ⟨he1,he2⟩ := List.mem_filter.1 he
        exact hpr e (by simpa using he1) he2
      have hset : ∀ j,(L.setIfInBounds i true).getD j false = (if j = i then true else L.getD j false) := fun j=>getD_set L i j (by omega)
      have hcf := cf_put (res := res) (frs := frs) hd hs hcl ho hu
      have honL : ∀ k j,i < j → j < ops.size → (eff i).on (sgs i).obs.length k = true → (eff j).on (sgs j).obs.length k = true → L.getD j false = false := by
        intro k j h1 h2 h3 h4
        cases hj : L.getD j false with
        | false=>rfl
        | true =>
          have := clos_lis hcl j i (ht.onE hd hsp h2 h1 h3 h4) hj
          rw [hu] at this; cases this
      -- the next state
      have hnext : ∀ (G' : Cx) (a' : Act) (w' : World),G.le G' → HRp P w0 w' G' ((eff i).obs (obsR sgs eff L ops.size) (sgs i).obs.length) ((eff i).lns (lnsL ops.size sgs eff L)) → FR G' (putF (cfL ops frs res L) o.dst (res i)) a' → a'.defers = [] → wpAny P .any ops Q fuel (L.setIfInBounds i true) a' w' := by
        intro G' a' w' hle hH' hfr' hdf'
        refine ih (L.setIfInBounds i true) G' a' w' (by simpa using hs) ?_ ?_ (h0.trans hle) ?_ (by rw [hcf]; exact hfr') hdf'
        · intro j x hx hj p hpp
          rw [hset] at hj ⊢
          split
          · rfl
          · by_cases ej : j = i
            · subst ej
              rw [ho] at hx; injection hx with hx; subst hx
              exact hp p hpp
            · rw [if_neg ej] at hj
              exact hcl j x hx hj p hpp
        · have := (cnt_set L i (by omega) hu ops.size).1 hlt
          omega
        · have e1 : obsR sgs eff (L.setIfInBounds i true) ops.size = (eff i).obs (obsR sgs eff L ops.size) (sgs i).obs.length := by
            funext k
            rw [obs_at]
            by_cases hon : (eff i).on (sgs i).obs.length k = true
            · rw [if_pos hon, obsR_keep (i := i + 1) (by omega) fun j j1 j2 j3 => by
                rw [hset,if_neg (by omega)]; exact honL k j (by omega) j2 hon j3]
              unfold obsR
              rw [if_pos ⟨by rw [hset,if_pos rfl],hon⟩]
            · rw [if_neg hon]
              refine obsR_congr fun j _ hj=>?_
              rw [hset]
              split
              · rename_i e; subst e; exact absurd hj hon
              · rfl
          have e2 : lnsL ops.size sgs eff (L.setIfInBounds i true) = (eff i).lns (lnsL ops.size sgs eff L) := by
            by_cases hap : (eff i).isApp = true
            · have hno : (List.range ops.size).any (fun i => L.getD i false && (eff i).isApp) = false := by
                rw [Bool.eq_false_iff]
                intro h
                rw [List.any_eq_true] at h
                obtain ⟨j,hj,hj2⟩ := h
                simp only [Bool.and_eq_true] at hj2
                have := happ i j hlt (List.mem_range.1 hj) hap hj2.2
                subst this
                rw [hu] at hj2; cases hj2.1
              have hyes : (List.range ops.size).any (fun j=>(L.setIfInBounds i true).getD j false && (eff j).isApp) = true := by
                rw [List.any_eq_true]
                exact ⟨i,List.mem_range.2 hlt,by rw [hset,if_pos rfl,hap]; rfl⟩
              unfold lnsL
              rw [hno,hyes]
              simp only [if_true,Bool.false_eq_true,if_false]
              have hfit : (eff i).fits (sgs i) := by
                rcases ht.one i o (Nat.zero_le _) ho with ⟨_,_,h⟩ | ⟨_,p,args,tys,fid,xs,_,_,_,h⟩ | ⟨_,h⟩
                · rw [h] at hap; cases hap
                · rw [h] at hap; cases hap
                · exact stepS_fits h
              have q1 : (sgs i).lns = (sgs 0).lns := ht.lnsq 0 i (Nat.zero_le _) (by omega) (fun m _ hm=>by
                cases h : (eff m).isApp with
                | false=>rfl
                | true=>have := happ m i (by omega) hlt h hap; omega)
              have q2 : (sgs ops.size).lns = (sgs (i + 1)).lns := ht.lnsq (i + 1) ops.size (by omega) (Nat.le_refl _) (fun m hm1 hm=>by
                cases h : (eff m).isApp with
                | false=>rfl
                | true=>have := happ m i hm hlt h hap; omega)
              have q3 := sg_lns (eff i) (sgs i) hfit
              have q4 : lnsOf (sgs 0) = lnsOf (sgs i) := by unfold lnsOf; rw [q1]
              rw [q4]
              show (fun k=>(sgs ops.size).lns[k]?) = _
              rw [q2,ht.sg i o (Nat.zero_le _) ho]
              exact q3
            · have hid : (eff i).lns (lnsL ops.size sgs eff L) = lnsL ops.size sgs eff L := by
                cases he : eff i with
                | app t e n=>rw [he] at hap; simp [Ef.isApp] at hap
                | _=>rfl
              rw [hid]
              unfold lnsL
              have : (List.range ops.size).any (fun j=>(L.setIfInBounds i true).getD j false && (eff j).isApp) = (List.range ops.size).any (fun j=>L.getD j false && (eff j).isApp) := by
                rw [Bool.eq_iff_iff,List.any_eq_true,List.any_eq_true]
                refine ⟨fun ⟨j,h1,h2⟩=>⟨j,h1,?_⟩,fun ⟨j,h1,h2⟩=>⟨j,h1,?_⟩⟩
                · simp only [Bool.and_eq_true] at h2 ⊢
                  rw [hset] at h2
                  by_cases ej : j = i
                  · subst ej; exact absurd h2.2 hap
                  · rw [if_neg ej] at h2; exact h2
                · simp only [Bool.and_eq_true] at h2 ⊢
                  rw [hset]
                  split
                  · exact ⟨rfl,h2.2⟩
                  · exact h2
              rw [this]
          rw [e1,e2]
          exact hH'
      unfold wpOp
      rw [ho]
      simp only
      have hlw := look_wanted (frs := frs) (res := res) ht hd hcl ho hu hp
      rcases ht.one i o (Nat.zero_le _) ho with ⟨h1,h2,h3⟩ | ⟨h1,p,args,tys,fid,xs,h2,h3,h4,h5⟩ | ⟨h1,h2⟩
      · rw [wanted_ok hfr (hlw.trans h1),if_neg (by simp)]
        refine hnext G _ w (Cx.le.refl G) ?_ ?_ (by rw [put_defers]; exact hdf)
        · rw [h3]; exact hH
        · rw [h2]; exact FR_put hfr .skip o.dst
      · rw [wanted_ok hfr (hlw.trans h1),if_pos rfl]
        left
        have hc : callS (cfL ops frs res L) ⟨.value p,args,tys⟩ = some (fid,xs) := by
          rw [← h3]
          unfold callS
          simp only
          rw [look_operand ht hd hcl ho hu hp p (by rw [h2]; simp [Op.operands,Call.operands])]
          have : args.toList.map (evalO (cfL ops frs res L)) = args.toList.map (evalO (frs i)) := List.map_congr_left fun x hx=>look_operand ht hd hcl ho hu hp x (by rw [h2]; simp at hx; simp [Op.operands,Call.operands,hx])
          rw [this]
        obtain ⟨vs,r1,r2⟩ := exec_call hfr h2 hc h4.1 w
        unfold Oper.wp
        rw [r1]
        refine (h4.2 w G.F vs hH.fs (hH.gb.kp hH.kp) ?_).mono ?_
        · refine ⟨by simp [r2.1],fun m x v a1 a2=>?_⟩
          rw [List.getElem?_map] at a1
          cases hx : xs[m]? with
          | none=>rw [hx] at a1; cases a1
          | some y=>rw [hx] at a1; simp at a1; subst a1; exact cleanF_rel (r2.2 m y v hx a2) G.F (fun _ _ _ q=>q)
        · rintro e w' ⟨v,rfl,hk,hv⟩
          have hv' : rel (G.withF (fresh w w')) (res i) v := by
            have : ∀ {x : V} {u : Value},rel (bareG fun b o u=>G.F b o u ∨ fresh w w' b o u) x u → rel (G.withF (fresh w w')) x u := by
              intro x u q
              induction q with
              | undef v=>exact .undef v
              | d q=>exact .d q
              | agg cs vs hl _ ih=>exact .agg cs vs hl ih
              | tuple cs vs hl _ ih=>exact .tuple cs vs hl ih
              | ptr k off b q=>cases q
              | iptr cs off b o u q1 q2=>exact .iptr cs off b o u q1 q2
              | own t es v q L hL _ _=>cases hL
              | full es A q=>exact .full es A q
              | nil=>exact .nil
              | skip=>exact .skip
              | sl k off len cap b q=>cases q
              | mp k b q=>cases q
              | gr k n v h1 L hL=>cases hL
              | gp k n i off v h1 L hL=>cases hL
              | adr k v b q=>cases q
              | gs k n off len v h1 L hL=>cases hL
              | fn f cs vs hl _ ih=>exact .fn f cs vs hl ih
            exact this hv
          refine hnext (G.withF (fresh w w')) _ w' (G.le_withF _) ?_ (FR_put (FR_mono (G.le_withF _) hfr) hv' o.dst) (by rw [put_defers]; exact hdf)
          rw [h5]
          exact hH.grow hk
      · rw [wanted_ok hfr (hlw.trans h1),if_pos rfl]
        left
        have hkd := stepS_kind h2
        -- the same step in the state at hand
        have hst : stepS g (obsR sgs eff L ops.size) (lnsL ops.size sgs eff L) (if (eff i).isAlloc = true then (sgs i).obs.length else (sgs ops.size).obs.length) (if opApp o.op = true then (sgs i).lns.length else (sgs ops.size).lns.length + (sgs 0).lns.length) o (evalO (cfL ops frs res L)) = some (res i,eff i) := by
          refine stepS_same h2 (fun x hx=>(look_operand ht hd hcl ho hu hp x hx).symm) ?_ ?_ ?_
          · intro j off x cs hx hxp hcs
            have hls : opLoad o.op = true ∨ opStore o.op = true := by
              cases hop' : o.op <;> rw [hop'] at hx <;> simp [touchP,opLoad,opStore] at hx ⊢
            have hxo : x ∈ o.op.operands := by
              cases hop' : o.op <;> rw [hop'] at hx <;> simp [touchP] at hx <;> subst hx <;> simp [Op.operands]
            have hr := evalO_rel hfr x
            rw [look_operand ht hd hcl ho hu hp x hxo,hxp] at hr
            obtain ⟨b,hb,_⟩ := inv_ptr hr
            have hne := hH.obd j b hb
            have hji : j < (sgs i).obs.length := getElem_lt hcs
            have key : obsR sgs eff L ops.size j = (sgs i).obs[j]? := by
              refine obsR_at ht (Nat.le_of_lt hlt) (fun m hm hon=>?_) (fun m hm1 hm2 hon=>?_)
              · obtain ⟨y,hy⟩ := hop m (by omega)
                cases em : eff m with
                | none=>rw [em] at hon; cases hon
                | app=>rw [em] at hon; cases hon
                | alloc c =>
                  cases hL : L.getD m false with
                  | true=>rfl
                  | false =>
                    exfalso
                    have hon' := hon
                    rw [em] at hon
                    simp only [Ef.on,beq_iff_eq] at hon
                    refine hne (obsR_none (fun m' hm' hon2=>?_) (by have := ht.mono 0 m (Nat.zero_le _) (by omega); omega))
                    rcases Nat.lt_trichotomy m m' with z | z | z
                    · cases hL' : L.getD m' false with
                      | false=>rfl
                      | true =>
                        have := clos_lis hcl m' m (ht.onE hd hsp hm' z hon' hon2) hL'
                        rw [hL] at this; cases this
                    · rw [← z]; exact hL
                    · exfalso
                      have hf := ht.fits m' hm'
                      have hmm := ht.mono (m' + 1) m (by omega) (by omega)
                      have hg := ht.grow m' hm'
                      cases em' : eff m' with
                      | none=>rw [em'] at hon2; cases hon2
                      | app=>rw [em'] at hon2; cases hon2
                      | alloc c' =>
                        rw [em'] at hon2
                        simp only [Ef.on,beq_iff_eq] at hon2
                        have := hg.2.1 (by rw [em']; rfl)
                        omega
                      | store k' c' =>
                        rw [em'] at hon2 hf
                        simp only [Ef.on,beq_iff_eq] at hon2
                        simp only [Ef.fits] at hf
                        omega
                | store k' c =>
                  have hon' := hon
                  rw [em] at hon
                  simp only [Ef.on,beq_iff_eq] at hon
                  subst hon
                  obtain ⟨s1,p,o1,t1,e1⟩ := ht.stp hy em
                  have hn : needE y.op o.op = true := by unfold needE; rw [s1]; rcases hls with z | z <;> rw [z] <;> simp
                  exact clos_ready hcl ho hp m (ht.edge hd hsp hy ho hm hn t1 hx e1 hxp) (by omega)
              · rcases Nat.eq_or_lt_of_le hm1 with z | z
                · rw [← z]; exact hu
                · obtain ⟨y,hy⟩ := hop m hm2
                  cases em : eff m with
                  | none=>rw [em] at hon; cases hon
                  | app=>rw [em] at hon; cases hon
                  | alloc c =>
                    exfalso
                    rw [em] at hon
                    simp only [Ef.on,beq_iff_eq] at hon
                    have := ht.mono i m (by omega) (by omega)
                    omega
                  | store k' c =>
                    rw [em] at hon
                    simp only [Ef.on,beq_iff_eq] at hon
                    subst hon
                    obtain ⟨s1,p,o1,t1,e1⟩ := ht.stp hy em
                    have hn : needE o.op y.op = true := by unfold needE; rw [s1]; rcases hls with z | z <;> rw [z] <;> simp
                    cases hL : L.getD m false with
                    | false=>rfl
                    | true =>
                      have := clos_lis hcl m i (ht.edge hd hsp ho hy z hn hx t1 hxp e1) hL
                      rw [hu] at this; cases this
            rw [key]; exact hcs
          · intro hap
            rw [if_pos hap]
            have hno : ∀ m,m < ops.size → m ≠ i → (eff m).isApp = false := by
              intro m hm hmi
              cases h : (eff m).isApp with
              | false=>rfl
              | true =>
                obtain ⟨x,hx⟩ := hop m hm
                have kx := (ht.kind m x hx).2.2 h
                rcases Nat.lt_trichotomy m i with z | z | z
                · exact absurd ⟨kx,hap⟩ (pair_app hd hx ho z)
                · exact absurd z hmi
                · exact absurd ⟨hap,kx⟩ (pair_app hd ho hx z)
            have q1 : (sgs i).lns = (sgs 0).lns := ht.lnsq 0 i (Nat.zero_le _) (by omega) (fun m _ hm=>hno m (by omega) (by omega))
            refine ⟨?_,rfl⟩
            unfold lnsL
            have hno2 : (List.range ops.size).any (fun i=>L.getD i false && (eff i).isApp) = false := by
              rw [Bool.eq_false_iff]
              intro h
              rw [List.any_eq_true] at h
              obtain ⟨j,hj,hj2⟩ := h
              simp only [Bool.and_eq_true] at hj2
              by_cases ej : j = i
              · subst ej; rw [hu] at hj2; cases hj2.1
              · rw [hno j (List.mem_range.1 hj) ej] at hj2; cases hj2.2
            rw [hno2]
            simp only [Bool.false_eq_true,if_false]
            unfold lnsOf
            rw [q1]
          · intro hal
            rw [if_pos hal]
        have hk0 : obsR sgs eff L ops.size (if (eff i).isAlloc = true then (sgs i).obs.length else (sgs ops.size).obs.length) = none := by
          split
          · rename_i hal
            have hia : (eff i).on (sgs i).obs.length (sgs i).obs.length = true := by cases he : eff i <;> rw [he] at hal <;> simp [Ef.isAlloc] at hal; simp [Ef.on]
            refine obsR_none (fun m hm hon=>?_) (by have := ht.mono 0 i (Nat.zero_le _) (by omega); omega)
            rcases Nat.lt_trichotomy i m with z | z | z
            · exact honL _ m z hm hia hon
            · rw [← z]; exact hu
            · exfalso
              have hf := ht.fits m hm
              have hmm := ht.mono (m + 1) i (by omega) (by omega)
              have hg := ht.grow m hm
              cases em : eff m with
              | none=>rw [em] at hon; cases hon
              | app=>rw [em] at hon; cases hon
              | alloc c' =>
                rw [em] at hon
                simp only [Ef.on,beq_iff_eq] at hon
                have := hg.2.1 (by rw [em]; rfl)
                omega
              | store k' c' =>
                rw [em] at hon hf
                simp only [Ef.on,beq_iff_eq] at hon
                simp only [Ef.fits] at hf
                omega
          · refine obsR_none (fun m hm hon=>?_) (by have := ht.mono 0 ops.size (Nat.zero_le _) (Nat.le_refl _); omega)
            exfalso
            have hf := ht.fits m hm
            have hmm := ht.mono (m + 1) ops.size (by omega) (Nat.le_refl _)
            have hg := ht.grow m hm
            cases em : eff m with
            | none=>rw [em] at hon; cases hon
            | app=>rw [em] at hon; cases hon
            | alloc c' =>
              rw [em] at hon
              simp only [Ef.on,beq_iff_eq] at hon
              have := hg.2.1 (by rw [em]; rfl)
              omega
            | store k' c' =>
              rw [em] at hon hf
              simp only [Ef.on,beq_iff_eq] at hon
              simp only [Ef.fits] at hf
              omega
        have ht0 : lnsL ops.size sgs eff L (if opApp o.op = true then (sgs i).lns.length else (sgs ops.size).lns.length + (sgs 0).lns.length) = none := by
          split
          · rename_i hap
            have hno : ∀ m,m < ops.size → m ≠ i → (eff m).isApp = false := by
              intro m hm hmi
              cases h : (eff m).isApp with
              | false=>rfl
              | true =>
                obtain ⟨x,hx⟩ := hop m hm
                have kx := (ht.kind m x hx).2.2 h
                rcases Nat.lt_trichotomy m i with z | z | z
                · exact absurd ⟨kx,hap⟩ (pair_app hd hx ho z)
                · exact absurd z hmi
                · exact absurd ⟨hap,kx⟩ (pair_app hd ho hx z)
            have q1 : (sgs i).lns = (sgs 0).lns := ht.lnsq 0 i (Nat.zero_le _) (by omega) (fun m _ hm=>hno m (by omega) (by omega))
            unfold lnsL
            have hno2 : (List.range ops.size).any (fun i=>L.getD i false && (eff i).isApp) = false := by
              rw [Bool.eq_false_iff]
              intro h
              rw [List.any_eq_true] at h
              obtain ⟨j,hj,hj2⟩ := h
              simp only [Bool.and_eq_true] at hj2
              by_cases ej : j = i
              · subst ej; rw [hu] at hj2; cases hj2.1
              · rw [hno j (List.mem_range.1 hj) ej] at hj2; cases hj2.2
            rw [hno2]
            simp only [Bool.false_eq_true,if_false]
            unfold lnsOf
            rw [q1]
            exact List.getElem?_eq_none (Nat.le_refl _)
          · unfold lnsL
            split
            · unfold lnsOf; rw [List.getElem?_eq_none (by omega)]
            · unfold lnsOf; rw [List.getElem?_eq_none (by omega)]
        obtain ⟨nx,w',G',r1,r2,r3,r4⟩ := stepS_ok hH hk0 ht0 hfr hst
        have eo : (eff i).obs (obsR sgs eff L ops.size) (if (eff i).isAlloc = true then (sgs i).obs.length else (sgs ops.size).obs.length) = (eff i).obs (obsR sgs eff L ops.size) (sgs i).obs.length := by
          cases he : eff i <;> simp [Ef.obs,Ef.isAlloc]
        rw [eo] at r4
        unfold Oper.wp
        rw [r1]
        rcases r2 with ⟨v,rfl,hv⟩ | ⟨rfl,hv⟩
        · exact hnext G' _ w' r3 r4 (FR_put (FR_mono r3 hfr) hv o.dst) (by rw [put_defers]; exact hdf)
        · exact hnext G' _ w' r3 r4 (by rw [hv]; exact FR_put (FR_mono r3 hfr) (.undef _) o.dst) (by rw [put_defers]; exact hdf)
end Go.Proofs.YtjgngikiglhleaaGreatDoor
