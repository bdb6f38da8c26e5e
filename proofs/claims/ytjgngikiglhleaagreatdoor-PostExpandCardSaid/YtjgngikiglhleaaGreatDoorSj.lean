import Derived.Test.YtjgngikiglhleaaGreatDoorSi
namespace Go.Proofs.YtjgngikiglhleaaGreatDoor
open Go.RowKit
set_option linter.unusedVariables false
def enterable (P : Program) (f : FuncId) : Bool := match P.funcs[f]? with | some fn => !(fn.name == "runtime.NumGoroutine") && fn.body.isSome | none => false
theorem run_callFunc {P : Program} {f : FuncId} (h : enterable P f = true) (args : Array Value) (w : World) : (callFunc f args).run P w = .ok (.enter f args) w := by
 unfold enterable at h
 cases hf : P.funcs[f]? with
 | none=>rw [hf] at h; cases h
 | some fn =>
  rw [hf] at h
  simp only [Bool.and_eq_true,Bool.not_eq_true',Option.isSome_iff_ne_none] at h
  have h2 : fn.body.isNone = false := by cases hb : fn.body <;> simp_all
  have h3 : (program : Sem Program).run P w = .ok P w := rfl
  simp only [callFunc,Sem.run_bind,h3,Result.andThen_ok,hf,h.1,Bool.false_eq_true,if_false,h2,Sem.run_pure]
def bareG (F : Nat → Nat → Value → Prop) : Cx := ⟨F,F,fun _=>none,fun _=>none,fun _=>none,fun _=>none,fun _=>none⟩
mutual
def V.clean : V → V
 | .own _ es=>.d (.list es)
 | .full es=>.d (.list es)
 | .agg cs=>.agg (V.cleans cs)
 | .tuple cs=>.tuple (V.cleans cs)
 | .fn f cs=>.fn f (V.cleans cs)
 | .ptr _ _=>.undef
 | .sl _ _ _ _=>.undef
 | .undef=>.undef
 | .d x=>.d x
 | .iptr cs off=>.iptr cs off
 | .nil=>.d (.list [])
 | .skip=>.skip
 | .mp _=>.undef
 | .mapc _ _=>.undef
 | .gr _ _=>.undef
 | .gp _ _ _ _=>.undef
 | .adr _=>.undef
 | .gs _ _ _ _=>.undef
 | .rowc _ _ _=>.undef
def V.cleans : List V → List V
 | []=>[]
 | x :: xs=>V.clean x :: V.cleans xs
end
theorem cleans_eq : ∀ cs : List V,V.cleans cs = cs.map V.clean
 | []=>rfl
 | x :: xs=>by rw [V.cleans,cleans_eq xs]; rfl
theorem clean_rel {G : Cx} {x : V} {v : Value} (r : rel G x v) : ∀ F' : Nat → Nat → Value → Prop,(∀ b o v,G.F b o v → F' b o v) → rel (bareG F') x.clean v := by
 intro F' hF
 induction r with
 | undef v=>rw [V.clean]; exact .undef v
 | d q=>rw [V.clean]; exact .d (relD_mono hF q)
 | agg cs vs hl _ ih =>
  rw [V.clean,cleans_eq]
  refine .agg _ _ (by simp [hl]) (fun i x v h1 h2=>?_)
  rw [List.getElem?_map] at h1
  cases hq : cs[i]? with
  | none=>rw [hq] at h1; cases h1
  | some y=>rw [hq] at h1; simp at h1; subst h1; exact ih i y v hq h2
 | tuple cs vs hl _ ih =>
  rw [V.clean,cleans_eq]
  refine .tuple _ _ (by simp [hl]) (fun i x v h1 h2=>?_)
  rw [List.getElem?_map] at h1
  cases hq : cs[i]? with
  | none=>rw [hq] at h1; cases h1
  | some y=>rw [hq] at h1; simp at h1; subst h1; exact ih i y v hq h2
 | ptr k off b q=>rw [V.clean]; exact .undef _
 | iptr cs off b o u q1 q2=>rw [V.clean]; exact .iptr cs off b o u (fun j x h=>hF _ _ _ (q1 j x h)) (fun j x h=>relD_mono hF (q2 j x h))
 | own t es v q L hL hs hl=>rw [V.clean]; exact .d (relD_mono hF q)
 | full es A q=>rw [V.clean]; exact .d (relD_mono hF q)
 | nil=>rw [V.clean]; exact .d (.nil _ _)
 | skip=>rw [V.clean]; exact .skip
 | sl k off len cap b q=>rw [V.clean]; exact .undef _
 | mp k b q=>rw [V.clean]; exact .undef _
 | gr k n v=>rw [V.clean]; exact .undef _
 | gp k n i off v=>rw [V.clean]; exact .undef _
 | adr k v=>rw [V.clean]; exact .undef _
 | gs k n off len v=>rw [V.clean]; exact .undef _
 | fn f cs vs hl _ ih =>
  rw [V.clean,cleans_eq]
  refine .fn f _ _ (by simp [hl]) (fun i x v h1 h2=>?_)
  rw [List.getElem?_map] at h1
  cases hq : cs[i]? with
  | none=>rw [hq] at h1; cases h1
  | some y=>rw [hq] at h1; simp at h1; subst h1; exact ih i y v hq h2
mutual
def V.cleanF : V → V
 | .own _ es=>.d (.list es)
 | .full es=>.full es
 | .agg cs=>.agg (V.cleansF cs)
 | .tuple cs=>.tuple (V.cleansF cs)
 | .fn f cs=>.fn f (V.cleansF cs)
 | .ptr _ _=>.undef
 | .sl _ _ _ _=>.undef
 | .undef=>.undef
 | .d x=>.d x
 | .iptr cs off=>.iptr cs off
 | .nil=>.d (.list [])
 | .skip=>.skip
 | .mp _=>.undef
 | .mapc _ _=>.undef
 | .gr _ _=>.undef
 | .gp _ _ _ _=>.undef
 | .adr _=>.undef
 | .gs _ _ _ _=>.undef
 | .rowc _ _ _=>.undef
def V.cleansF : List V → List V
 | []=>[]
 | x :: xs=>V.cleanF x :: V.cleansF xs
end
theorem cleansF_eq : ∀ cs : List V,V.cleansF cs = cs.map V.cleanF
 | []=>rfl
 | x :: xs=>by rw [V.cleansF,cleansF_eq xs]; rfl
theorem cleanF_rel {G : Cx} {x : V} {v : Value} (r : rel G x v) : ∀ F' : Nat → Nat → Value → Prop,(∀ b o v,G.F b o v → F' b o v) → rel (bareG F') x.cleanF v := by
 intro F' hF
 induction r with
 | undef v=>rw [V.cleanF]; exact .undef v
 | d q=>rw [V.cleanF]; exact .d (relD_mono hF q)
 | agg cs vs hl _ ih =>
  rw [V.cleanF,cleansF_eq]
  refine .agg _ _ (by simp [hl]) (fun i x v h1 h2=>?_)
  rw [List.getElem?_map] at h1
  cases hq : cs[i]? with
  | none=>rw [hq] at h1; cases h1
  | some y=>rw [hq] at h1; simp at h1; subst h1; exact ih i y v hq h2
 | tuple cs vs hl _ ih =>
  rw [V.cleanF,cleansF_eq]
  refine .tuple _ _ (by simp [hl]) (fun i x v h1 h2=>?_)
  rw [List.getElem?_map] at h1
  cases hq : cs[i]? with
  | none=>rw [hq] at h1; cases h1
  | some y=>rw [hq] at h1; simp at h1; subst h1; exact ih i y v hq h2
 | ptr k off b q=>rw [V.cleanF]; exact .undef _
 | iptr cs off b o u q1 q2=>rw [V.cleanF]; exact .iptr cs off b o u (fun j x h=>hF _ _ _ (q1 j x h)) (fun j x h=>relD_mono hF (q2 j x h))
 | own t es v q L hL hs hl=>rw [V.cleanF]; exact .d (relD_mono hF q)
 | full es A q=>rw [V.cleanF]; exact .full es A (relD_mono hF q)
 | nil=>rw [V.cleanF]; exact .d (.nil _ _)
 | skip=>rw [V.cleanF]; exact .skip
 | sl k off len cap b q=>rw [V.cleanF]; exact .undef _
 | mp k b q=>rw [V.cleanF]; exact .undef _
 | gr k n v=>rw [V.cleanF]; exact .undef _
 | gp k n i off v=>rw [V.cleanF]; exact .undef _
 | adr k v=>rw [V.cleanF]; exact .undef _
 | gs k n off len v=>rw [V.cleanF]; exact .undef _
 | fn f cs vs hl _ ih =>
  rw [V.cleanF,cleansF_eq]
  refine .fn f _ _ (by simp [hl]) (fun i x v h1 h2=>?_)
  rw [List.getElem?_map] at h1
  cases hq : cs[i]? with
  | none=>rw [hq] at h1; cases h1
  | some y=>rw [hq] at h1; simp at h1; subst h1; exact ih i y v hq h2
def Spec {P : Program} (g : Pg P) (f : FuncId) (args : List V) (r : V) : Prop :=
 enterable P f = true ∧ ∀ (w : World) (F : Nat → Nat → Value → Prop) (vs : List Value),(∀ b o v,F b o v → b < w.heap.size ∧ w.cell? ⟨b,o,none⟩ = some v) → GlobOk w F → rels (bareG F) args vs →
  Calls P f ⟨vs⟩ w fun e w'=>∃ v,e = .returned v ∧ Kp w w' ∧ rel (bareG fun b o u=>F b o u ∨ fresh w w' b o u) r v
theorem Spec.weak {P : Program} {g : Pg P} {f : FuncId} {args : List V} {r : V} (h : Spec g f (args.map V.clean) r) : Spec g f args r := by
 refine ⟨h.1,fun w F vs hF hgl hr=>h.2 w F vs hF hgl ?_⟩
 refine ⟨by simp [hr.1],fun i x v h1 h2=>?_⟩
 rw [List.getElem?_map] at h1
 cases hq : args[i]? with
 | none=>rw [hq] at h1; cases h1
 | some y=>rw [hq] at h1; simp at h1; subst h1; exact clean_rel (hr.2 i y v hq h2) F (fun _ _ _ q=>q)
def SpecS {P : Program} (g : Pg P) (f : FuncId) (args : List V) (s : Sg) (R : V → Sg → Prop) : Prop :=
 enterable P f = true ∧ ∀ (w0 w : World) (G : Cx) (vs : List Value),HR P w0 w G s → rels G args vs →
  Calls P f ⟨vs⟩ w fun e w'=>∃ v y s' G',e = .returned v ∧ G.le G' ∧ HR P w0 w' G' s' ∧ rel G' y v ∧ R y s'
theorem Spec.toS {P : Program} {g : Pg P} {f : FuncId} {args : List V} {r : V} {s : Sg} {R : V → Sg → Prop} (h : Spec g f (args.map V.clean) r) (hR : R r s) : SpecS g f args s R := by
 refine ⟨h.1,fun w0 w G vs hH hr=>?_⟩
 refine (h.2 w G.F vs hH.fs (hH.gb.kp hH.kp) ?_).mono ?_
 ·refine ⟨by simp [hr.1],fun i x v h1 h2=>?_⟩
  rw [List.getElem?_map] at h1
  cases hq : args[i]? with
  | none=>rw [hq] at h1; cases h1
  | some y=>rw [hq] at h1; simp at h1; subst h1; exact clean_rel (hr.2 i y v hq h2) G.F (fun _ _ _ q=>q)
 ·rintro e w' ⟨v,rfl,hk,hv⟩
  refine ⟨v,r,s,G.withF (fresh w w'),rfl,G.le_withF _,hH.grow hk,?_,hR⟩
  have : ∀ {x : V} {u : Value},rel (bareG fun b o u=>G.F b o u ∨ fresh w w' b o u) x u → rel (G.withF (fresh w w')) x u := by
   intro x u q
   induction q with
   | undef v=>exact .undef v
   | d q=>exact .d q
   | agg cs vs hl _ ih=>exact .agg cs vs hl ih
   | tuple cs vs hl _ ih=>exact .tuple cs vs hl ih
   | ptr k off b q=>cases q
   | iptr cs off b o u q1 q2=>exact .iptr cs off b o u q1 q2
   | own t es v q L hL _ _=>cases hL
   | full es A q=>exact .full es A q
   | nil=>exact .nil
   | skip=>exact .skip
   | sl k off len cap b q=>cases q
   | mp k b q=>cases q
   | gr k n v h1 L hL=>cases hL
   | gp k n i off v h1 L hL=>cases hL
   | adr k v b q=>cases q
   | gs k n off len v h1 L hL=>cases hL
   | fn f cs vs hl _ ih=>exact .fn f cs vs hl ih
  exact this hv
theorem Spec.toSF {P : Program} {g : Pg P} {f : FuncId} {args : List V} {r : V} {s : Sg} {R : V → Sg → Prop} (h : Spec g f (args.map V.cleanF) r) (hR : R r s) : SpecS g f args s R := by
 refine ⟨h.1,fun w0 w G vs hH hr=>?_⟩
 refine (h.2 w G.F vs hH.fs (hH.gb.kp hH.kp) ?_).mono ?_
 ·refine ⟨by simp [hr.1],fun i x v h1 h2=>?_⟩
  rw [List.getElem?_map] at h1
  cases hq : args[i]? with
  | none=>rw [hq] at h1; cases h1
  | some y=>rw [hq] at h1; simp at h1; subst h1; exact cleanF_rel (hr.2 i y v hq h2) G.F (fun _ _ _ q=>q)
 ·rintro e w' ⟨v,rfl,hk,hv⟩
  refine ⟨v,r,s,G.withF (fresh w w'),rfl,G.le_withF _,hH.grow hk,?_,hR⟩
  have : ∀ {x : V} {u : Value},rel (bareG fun b o u=>G.F b o u ∨ fresh w w' b o u) x u → rel (G.withF (fresh w w')) x u := by
   intro x u q
   induction q with
   | undef v=>exact .undef v
   | d q=>exact .d q
   | agg cs vs hl _ ih=>exact .agg cs vs hl ih
   | tuple cs vs hl _ ih=>exact .tuple cs vs hl ih
   | ptr k off b q=>cases q
   | iptr cs off b o u q1 q2=>exact .iptr cs off b o u q1 q2
   | own t es v q L hL _ _=>cases hL
   | full es A q=>exact .full es A q
   | nil=>exact .nil
   | skip=>exact .skip
   | sl k off len cap b q=>cases q
   | mp k b q=>cases q
   | gr k n v h1 L hL=>cases hL
   | gp k n i off v h1 L hL=>cases hL
   | adr k v b q=>cases q
   | gs k n off len v h1 L hL=>cases hL
   | fn f cs vs hl _ ih=>exact .fn f cs vs hl ih
  exact this hv
def wantedS (ops : Array Oper) (fr : Fr) (o : Oper) : Option Bool :=
 match o.guard with
 | none=>some true
 | some (j,want)=>match (ops[j]?).bind (·.dst) with
  | some t=>match fr.getD t .undef with
   | .d (.bool b)=>some (b == want)
   | .skip=>some false
   | _=>none
  | none=>some false
theorem wanted_ok {G : Cx} {ops : Array Oper} {fr : Fr} {a : Act} {o : Oper} {b : Bool} (hfr : FR G fr a) (h : wantedS ops fr o = some b) : Region.wanted o (yielded ops a.tmps) = b := by
 unfold wantedS at h
 unfold Region.wanted
 cases hg : o.guard with
 | none=>rw [hg] at h; simp at h; simp [h]
 | some jw =>
  obtain ⟨j,want⟩ := jw
  rw [hg] at h
  simp only at h ⊢
  unfold yielded
  cases hd : (ops[j]?).bind (·.dst) with
  | none=>rw [hd] at h; simp at h; simp [← h]
  | some t =>
   rw [hd] at h
   simp only at h
   have hr := hfr.2 t
   simp only [Option.bind_some]
   split at h
   ·rename_i b' hb
    rw [hb] at hr
    have hv := inv_bool hr
    injection h with h
    rw [Array.getD_eq_getD_getElem?] at hv
    cases ht : a.tmps[t]? with
    | none=>rw [ht] at hv; simp [Go.undef] at hv
    | some u=>rw [ht] at hv; simp at hv; subst hv; simp [← h]
   ·rename_i hb
    rw [hb] at hr
    injection h with h
    subst h
    cases ht : a.tmps[t]? with
    | none=>simp
    | some u =>
     rw [Array.getD_eq_getD_getElem?,ht] at hr
     simp at hr
     cases hr
     simp [Go.undef]
   ·cases h
def Ef.sg (f : Ef) (s : Sg) : Sg :=
 match f with
 | .none=>s
 | .alloc cs=>⟨s.obs ++ [cs],s.lns⟩
 | .store j cs=>⟨s.obs.set j cs,s.lns⟩
 | .app t e n=>if t < s.lns.length then ⟨s.obs,s.lns.set t (e,n)⟩ else ⟨s.obs,s.lns ++ [(e,n)]⟩
def Ef.fits (f : Ef) (s : Sg) : Prop :=
 match f with
 | .none=>True
 | .alloc _=>True
 | .store j _=>j < s.obs.length
 | .app t _ _=>t ≤ s.lns.length
theorem sg_obs (f : Ef) (s : Sg) (h : f.fits s) : (fun k=>(f.sg s).obs[k]?) = f.obs (fun k=>s.obs[k]?) s.obs.length := by
 funext k
 cases f with
 | none=>rfl
 | alloc cs =>
  simp only [Ef.sg,Ef.obs]
  by_cases e : k = s.obs.length
  ·subst e; rw [upd_same]; simp
  ·rw [upd_ne _ _ e]
   rcases Nat.lt_or_ge k s.obs.length with q | q
   ·rw [List.getElem?_append_left q]
   ·rw [List.getElem?_eq_none (by simp; omega),List.getElem?_eq_none (by omega)]
 | store j cs =>
  simp only [Ef.sg,Ef.obs]
  by_cases e : k = j
  ·subst e; rw [upd_same]; simp only [Ef.fits] at h; simp [h]
  ·rw [upd_ne _ _ e,List.getElem?_set_ne (fun q=>e q.symm)]
 | app t e n=>simp only [Ef.sg,Ef.obs]; split <;> rfl
theorem sg_lns (f : Ef) (s : Sg) (h : f.fits s) : (fun k=>(f.sg s).lns[k]?) = f.lns (fun k=>s.lns[k]?) := by
 funext k
 cases f with
 | none=>rfl
 | alloc cs=>rfl
 | store j cs=>rfl
 | app t e n =>
  simp only [Ef.sg,Ef.lns]
  simp only [Ef.fits] at h
  split
  ·rename_i hlt
   by_cases q : k = t
   ·subst q; rw [upd_same]; simp [hlt]
   ·rw [upd_ne _ _ q,List.getElem?_set_ne (fun z=>q z.symm)]
  ·have ht : t = s.lns.length := by omega
   subst ht
   by_cases q : k = s.lns.length
   ·subst q; rw [upd_same]; simp
   ·rw [upd_ne _ _ q]
    rcases Nat.lt_or_ge k s.lns.length with z | z
    ·rw [List.getElem?_append_left z]
    ·rw [List.getElem?_eq_none (by simp; omega),List.getElem?_eq_none (by omega)]
theorem stepS0_fits {P : Program} {g : Pg P} {s : Sg} {o : Oper} {ρ : Operand → V} {y : V} {f : Ef} (h : stepS0 g (fun k=>s.obs[k]?) (fun t=>s.lns[t]?) s.obs.length s.lns.length o ρ = some (y,f)) : f.fits s := by
 unfold stepS0 at h
 split at h
 ·split at h
  ·split at h
   ·injection h with h; injection h with _ h; subst h; trivial
   ·cases h
  ·cases h
 ·split at h
  ·injection h with h; injection h with _ h; subst h; trivial
  ·cases h
 ·split at h
  ·split at h
   ·split at h
    ·injection h with h; injection h with _ h; subst h; trivial
    ·cases h
   ·cases h
  ·split at h
   ·injection h with h; injection h with _ h; subst h; trivial
   ·cases h
  ·split at h
   ·split at h
    ·injection h with h; injection h with _ h; subst h; trivial
    ·cases h
   ·cases h
  ·cases h
 ·split at h
  ·split at h
   ·rename_i hcs _ _
    split at h
    ·injection h with h; injection h with _ h; subst h; exact getElem_lt hcs
    ·cases h
   ·cases h
  ·cases h
 ·unfold rowV at h
  split at h
  ·split at h
   ·split at h
    ·split at h
     ·split at h
      ·split at h <;> (injection h with h; injection h with _ h; subst h; trivial)
      ·cases h
     ·cases h
    ·cases h
   ·cases h
  ·cases h
 ·split at h
  ·split at h
   ·unfold appV at h
    split at h
    ·split at h
     ·split at h
      ·split at h
       ·injection h with h; injection h with _ h; subst h; exact Nat.le_refl _
       ·cases h
      ·split at h
       ·rename_i hl
        split at h
        ·injection h with h; injection h with _ h; subst h; exact Nat.le_of_lt (getElem_lt hl)
        ·cases h
       ·cases h
      ·split at h
       ·injection h with h; injection h with _ h; subst h; exact Nat.le_refl _
       ·split at h
        ·injection h with h; injection h with _ h; subst h; trivial
        ·cases h
      ·cases h
     ·cases h
    ·cases h
   ·cases h
  ·split at h
   ·injection h with h; injection h with _ h; subst h; trivial
   ·cases h
  ·cases h
 ·split at h
  ·injection h with h; injection h with _ h; subst h; trivial
  ·cases h
theorem stepS_fits {P : Program} {g : Pg P} {s : Sg} {o : Oper} {ρ : Operand → V} {y : V} {f : Ef} (h : stepS g (fun k=>s.obs[k]?) (fun t=>s.lns[t]?) s.obs.length s.lns.length o ρ = some (y,f)) : f.fits s := by
 unfold stepS at h
 split at h
 ·injection h with h; injection h with _ h; subst h; trivial
 ·exact stepS0_fits h
def callS (fr : Fr) (c : Call) : Option (FuncId × List V) :=
 match c.callee with
 | .value f=>match evalO fr f with
  | .fn fid caps=>some (fid,c.args.toList.map (evalO fr) ++ caps)
  | _=>none
 | _=>none
def contK (F : Fr → Sg → (Fr → Sg → Prop) → Prop) (K : Fr → Sg → Prop) (fr : Fr) (dst : Option Tmp) (r : V) (s : Sg) : Prop := F (putF fr dst r) s K
def contD (F : Fr → Sg → (Fr → Sg → Prop) → Prop) (K : Fr → Sg → Prop) (fr : Fr) (dst : Option Tmp) (s : Sg) (r : V) : Prop := F (putF fr dst r) s K
def callD {P : Program} (g : Pg P) (f : FuncId) (args : List V) (K : V → Prop) : Prop := ∃ r,Spec g f args r ∧ K r
def regS {P : Program} (g : Pg P) (dr : Bool) (ops : Array Oper) : List Oper → Fr → Sg → (Fr → Sg → Prop) → Prop
 | [],fr,s,K=>K fr s
 | o :: rest,fr,s,K =>
  match wantedS ops fr o with
  | none=>False
  | some b=>if b = true then
    match o.op with
    | .call ⟨.value f,args,tys⟩ =>
     match callS fr ⟨.value f,args,tys⟩ with
     | some (fid,xs)=>if dr = true then callD g fid (xs.map V.cleanF) (contD (regS g dr ops rest) K fr o.dst s) else SpecS g fid xs s (contK (regS g dr ops rest) K fr o.dst)
     | none=>False
    | _ =>
     match stepS g (fun k=>s.obs[k]?) (fun t=>s.lns[t]?) s.obs.length s.lns.length o (evalO fr) with
     | some (y,f)=>regS g dr ops rest (putF fr o.dst y) (f.sg s) K
     | none=>False
   else regS g dr ops rest (putF fr o.dst .skip) s K
def Post {P : Program} (g : Pg P) (w0 : World) (G0 : Cx) (K : Fr → Sg → Prop) (a : Act) (w : World) : Prop := ∃ G fr s,G0.le G ∧ HR P w0 w G s ∧ FR G fr a ∧ a.defers = [] ∧ K fr s
theorem put_defers (a : Act) (d : Option Tmp) (v : Value) : (a.put d v).defers = a.defers := by cases d <;> rfl
theorem exec_call {P : Program} {G : Cx} {fr : Fr} {a : Act} (hfr : FR G fr a) {o : Oper} {f : Operand} {args : Array Operand} {tys : Array TypeId} (hop : o.op = .call ⟨.value f,args,tys⟩) {fid : FuncId} {xs : List V} (hc : callS fr ⟨.value f,args,tys⟩ = some (fid,xs)) (he : enterable P fid = true) (w : World) :
  ∃ vs,(execOp a.eval o).run P w = .ok (.enter fid ⟨vs⟩) w ∧ rels G xs vs := by
 unfold callS at hc
 simp only at hc
 split at hc
 ·rename_i fid' caps hf
  injection hc with hc; injection hc with e1 e2; subst e1; subst e2
  have hr := evalO_rel hfr f
  rw [hf] at hr
  generalize hv : a.eval f = fv at hr
  cases hr with
  | fn _ _ us hl hu =>
   refine ⟨args.toList.map a.eval ++ us,?_,?_⟩
   ·have hex := run_callFunc he (⟨args.toList.map a.eval ++ us⟩ : Array Value) w
    have e1 : ((#[] : Array Value) ++ args.map a.eval) ++ (⟨us⟩ : Array Value) = ⟨args.toList.map a.eval ++ us⟩ := by apply Array.ext'; simp
    simp only [execOp,hop,resolve,hv,Deferred.ofValue,Sem.run_bind,Sem.run_pure,Result.andThen_ok,invoke,e1,hex]
   ·refine ⟨by simp [hl],fun i x v h1 h2=>?_⟩
    rcases Nat.lt_or_ge i args.toList.length with q | q
    ·rw [List.getElem?_append_left (by simpa using q)] at h1
     rw [List.getElem?_append_left (by simpa using q)] at h2
     rw [List.getElem?_map] at h1 h2
     cases hq : args.toList[i]? with
     | none=>rw [hq] at h1; cases h1
     | some z=>rw [hq] at h1 h2; simp at h1 h2; subst h1; subst h2; exact evalO_rel hfr z
    ·rw [List.getElem?_append_right (by simpa using q)] at h1
     rw [List.getElem?_append_right (by simpa using q)] at h2
     simp only [List.length_map] at h1 h2
     exact hu _ x v h1 h2
 ·cases hc
theorem reg_seq {P : Program} {g : Pg P} {w0 : World} {G0 : Cx} {ops : Array Oper} {K : Fr → Sg → Prop} {Q : Exit → Act → World → Prop} (hQ : ∀ a w,Post g w0 G0 K a w → Q .normal a w) :
  ∀ (l : List Oper) (fr : Fr) (s : Sg) (G : Cx) (a : Act) (w : World),regS g false ops l fr s K → G0.le G → HR P w0 w G s → FR G fr a → a.defers = [] → wpList P ops Q l a w
 | [],fr,s,G,a,w,h,h0,hH,hfr,hd=>hQ a w ⟨G,fr,s,h0,hH,hfr,hd,h⟩
 | o :: rest,fr,s,G,a,w,h,h0,hH,hfr,hd=>by
  unfold regS at h
  unfold wpList
  cases hw : wantedS ops fr o with
  | none=>rw [hw] at h; exact h.elim
  | some b =>
   rw [hw] at h
   rw [wanted_ok hfr hw]
   simp only at h
   cases b with
   | false =>
    rw [if_neg (by simp)] at h
    rw [if_neg (by simp)]
    exact reg_seq hQ rest _ s G _ w h h0 hH (FR_put hfr .skip o.dst) (by rw [put_defers]; exact hd)
   | true =>
    rw [if_pos rfl] at h
    rw [if_pos rfl]
    left
    have step : (∃ y f,stepS g (fun k=>s.obs[k]?) (fun t=>s.lns[t]?) s.obs.length s.lns.length o (evalO fr) = some (y,f) ∧ regS g false ops rest (putF fr o.dst y) (f.sg s) K) → o.wp P a w (wpList P ops Q rest) Q := by
     rintro ⟨y,f,hs,hrest⟩
     obtain ⟨nx,w',G',r1,r2,r3,r4⟩ := stepS_ok hH (by simp) (by simp) hfr hs
     have hfit := stepS_fits hs
     rw [← sg_obs f s hfit,← sg_lns f s hfit] at r4
     unfold Oper.wp
     rw [r1]
     rcases r2 with ⟨v,rfl,hv⟩ | ⟨rfl,rfl⟩
     ·exact reg_seq hQ rest _ _ G' _ w' hrest (h0.trans r3) r4 (FR_put (FR_mono r3 hfr) hv o.dst) (by rw [put_defers]; exact hd)
     ·exact reg_seq hQ rest _ _ G' _ w' hrest (h0.trans r3) r4 (FR_put (FR_mono r3 hfr) (.undef _) o.dst) (by rw [put_defers]; exact hd)
    split at h
    ·rename_i f args tys hop
     split at h
     ·rename_i fid xs hc
      rw [if_neg (by simp)] at h
      obtain ⟨he,hcall⟩ := h
      obtain ⟨vs,r1,r2⟩ := exec_call hfr hop hc he w
      unfold Oper.wp
      rw [r1]
      refine (hcall w0 w G vs hH r2).mono ?_
      rintro e w' ⟨v,y,s',G',rfl,q1,q2,q3,q4⟩
      exact reg_seq hQ rest _ s' G' _ w' q4 (h0.trans q1) q2 (FR_put (FR_mono q1 hfr) q3 o.dst) (by rw [put_defers]; exact hd)
     ·exact h.elim
    ·split at h
     ·rename_i y f hs
      exact step ⟨y,f,hs,h⟩
     ·exact h.elim
end Go.Proofs.YtjgngikiglhleaaGreatDoor
