/-
  Sk, Sl in one text.
-/
import Derived.Test.YtjgngikiglhleaaGreatDoorSj
import Derived.Orders
namespace Go.Proofs.YtjgngikiglhleaaGreatDoor
open Go.RowKit
set_option linter.unusedVariables false
set_option linter.unusedSimpArgs false
theorem pureS_congr {P : Program} (g : Pg P) (o : Oper) (ρ ρ' : Operand → V) (h : ∀ x ∈ o.op.operands,ρ x = ρ' x) : pureS g o ρ = pureS g o ρ' := by
 obtain ⟨dst,op,type,pos,after,guard⟩ := o
 have pairs : ∀ ps : Array (Nat × Operand),(∀ x ∈ ps.map (·.2),ρ x = ρ' x) → (ps.toList.map fun p=>(p.1,ρ p.2)) = (ps.toList.map fun p=>(p.1,ρ' p.2)) := fun ps hp =>
  List.map_congr_left fun p hm=>by
   obtain ⟨i,x⟩ := p
   simp only [hp x (Array.mem_map.2 ⟨(i,x),by simpa using hm,rfl⟩)]
 cases op <;> simp only [Op.operands] at h <;> simp only [pureS]
 case build t ps=>rw [pairs ps fun x hx=>h x (by simpa using hx)]
 case makeFunc fn first captured =>
  cases fn <;> simp only
  rw [List.map_congr_left (l := captured.toList) fun x hx=>h x (by simp at hx; simp [hx])]
 case slice t x lo hi mx=>cases lo <;> cases hi <;> cases mx <;> simp_all
 case call c =>
  split
  ·rename_i x t hcal hargs htys
   rw [h x (by
    have ha : c.args = #[x] := by apply Array.ext'; simp [hargs]
    simp [Call.operands,ha])]
  ·rfl
 all_goals (first | rfl | (simp_all; done))
def opLoad : Op → Bool
 | .load _ _=>true
 | _=>false
def opStore : Op → Bool
 | .store _ _ _=>true
 | _=>false
def opApp : Op → Bool
 | .call ⟨.builtin .append,_,_⟩=>true
 | _=>false
def opNew : Op → Bool
 | .alloc _=>true
 | .box _ _=>true
 | .buildSlice _ _ _=>true
 | _=>false
def touchP : Op → Option Operand
 | .load _ a=>some a
 | .store _ a _=>some a
 | _=>none
def Ef.isAlloc : Ef → Bool
 | .alloc _=>true
 | _=>false
def Ef.isStore : Ef → Bool
 | .store _ _=>true
 | _=>false
def Ef.isApp : Ef → Bool
 | .app _ _ _=>true
 | _=>false
theorem stepS0_kind {P : Program} {g : Pg P} {obs : Nat → Option (List V)} {lns : Nat → Option (TypeId × Nat)} {k t : Nat} {o : Oper} {ρ : Operand → V} {y : V} {f : Ef} (h : stepS0 g obs lns k t o ρ = some (y,f)) :
  (f.isAlloc = true → opNew o.op = true) ∧ (f.isStore = true → opStore o.op = true) ∧ (f.isApp = true → opApp o.op = true) := by
 unfold stepS0 at h
 split at h <;> rename_i hop
 ·split at h
  ·split at h
   ·injection h with h; injection h with _ h; subst h; simp [Ef.isAlloc,Ef.isStore,Ef.isApp,hop,opNew]
   ·cases h
  ·cases h
 ·split at h
  ·injection h with h; injection h with _ h; subst h; simp [Ef.isAlloc,Ef.isStore,Ef.isApp,hop,opNew]
  ·cases h
 ·split at h
  ·split at h
   ·split at h
    ·injection h with h; injection h with _ h; subst h; simp [Ef.isAlloc,Ef.isStore,Ef.isApp]
    ·cases h
   ·cases h
  ·split at h
   ·injection h with h; injection h with _ h; subst h; simp [Ef.isAlloc,Ef.isStore,Ef.isApp]
   ·cases h
  ·split at h
   ·split at h
    ·injection h with h; injection h with _ h; subst h; simp [Ef.isAlloc,Ef.isStore,Ef.isApp]
    ·cases h
   ·cases h
  ·cases h
 ·split at h
  ·split at h
   ·split at h
    ·injection h with h; injection h with _ h; subst h; simp [Ef.isAlloc,Ef.isStore,Ef.isApp,hop,opStore]
    ·cases h
   ·cases h
  ·cases h
 ·unfold rowV at h
  split at h
  ·split at h
   ·split at h
    ·split at h
     ·split at h
      ·split at h <;> (injection h with h; injection h with _ h; subst h; simp [Ef.isAlloc,Ef.isStore,Ef.isApp,hop,opNew])
      ·cases h
     ·cases h
    ·cases h
   ·cases h
  ·cases h
 ·rename_i c
  split at h
  ·rename_i x y' tt tt' hcal hargs htys
   have hA : opApp o.op = true := by
    obtain ⟨cal,args,tys⟩ := c
    simp only at hcal
    subst hcal
    rw [hop]; rfl
   split at h
   ·unfold appV at h
    split at h
    ·split at h
     ·split at h
      ·split at h
       ·injection h with h; injection h with _ h; subst h; simp [Ef.isAlloc,Ef.isStore,Ef.isApp,hA]
       ·cases h
      ·split at h
       ·split at h
        ·injection h with h; injection h with _ h; subst h; simp [Ef.isAlloc,Ef.isStore,Ef.isApp,hA]
        ·cases h
       ·cases h
      ·split at h
       ·injection h with h; injection h with _ h; subst h; simp [Ef.isAlloc,Ef.isStore,Ef.isApp,hA]
       ·split at h
        ·injection h with h; injection h with _ h; subst h; simp [Ef.isAlloc,Ef.isStore,Ef.isApp]
        ·cases h
      ·cases h
     ·cases h
    ·cases h
   ·cases h
  ·split at h
   ·injection h with h; injection h with _ h; subst h; simp [Ef.isAlloc,Ef.isStore,Ef.isApp]
   ·cases h
  ·cases h
 ·split at h
  ·injection h with h; injection h with _ h; subst h; simp [Ef.isAlloc,Ef.isStore,Ef.isApp]
  ·cases h
theorem stepS_kind {P : Program} {g : Pg P} {obs : Nat → Option (List V)} {lns : Nat → Option (TypeId × Nat)} {k t : Nat} {o : Oper} {ρ : Operand → V} {y : V} {f : Ef} (h : stepS g obs lns k t o ρ = some (y,f)) :
  (f.isAlloc = true → opNew o.op = true) ∧ (f.isStore = true → opStore o.op = true) ∧ (f.isApp = true → opApp o.op = true) := by
 unfold stepS at h
 split at h
 ·injection h with h; injection h with _ h; subst h; simp [Ef.isAlloc,Ef.isStore,Ef.isApp]
 ·exact stepS0_kind h
theorem extS_congr {P : Program} (o : Oper) (ρ ρ' : Operand → V) (h : ∀ x ∈ o.op.operands,ρ x = ρ' x) : extS P o ρ = extS P o ρ' := by
 obtain ⟨dst,op,type,pos,after,guard⟩ := o
 cases op
 case convert a b x=>simp only [extS]; rw [h x (by simp [Op.operands])]
 case binOp op t x y t'=>simp only [extS]; rw [h x (by simp [Op.operands]),h y (by simp [Op.operands])]
 case call c =>
  have : c.args.toList.map ρ = c.args.toList.map ρ' := List.map_congr_left fun x hx=>h x (by simp only [Op.operands,Call.operands]; cases c.callee <;> simp_all)
  simp only [extS,this]
 all_goals rfl
theorem stepS0_same {P : Program} {g : Pg P} {obs obs' : Nat → Option (List V)} {lns lns' : Nat → Option (TypeId × Nat)} {k k' t t' : Nat} {o : Oper} {ρ ρ' : Operand → V} {y : V} {f : Ef} (h : stepS0 g obs lns k t o ρ = some (y,f))
  (hρ : ∀ x ∈ o.op.operands,ρ x = ρ' x) (ho : ∀ j off x cs,touchP o.op = some x → ρ x = .ptr j off → obs j = some cs → obs' j = some cs) (hl : opApp o.op = true → lns' = lns ∧ t' = t) (hk : f.isAlloc = true → k' = k) :
  stepS0 g obs' lns' k' t' o ρ' = some (y,f) := by
 obtain ⟨dst,op,type,pos,after,guard⟩ := o
 have hpure := pureS_congr g ⟨dst,op,type,pos,after,guard⟩ ρ ρ' hρ
 have pairs : ∀ ps : Array (Nat × Operand),(∀ x ∈ ps.map (·.2),ρ x = ρ' x) → (ps.toList.map fun p=>(p.1,ρ p.2)) = (ps.toList.map fun p=>(p.1,ρ' p.2)) := fun ps hp =>
  List.map_congr_left fun p hm=>by
   obtain ⟨i,x⟩ := p
   simp only [hp x (Array.mem_map.2 ⟨(i,x),by simpa using hm,rfl⟩)]
 cases op
 case alloc e =>
  simp only [stepS0] at h ⊢
  split at h
  ·split at h
   ·injection h with h; injection h with h1 h2; subst h1; subst h2
    rw [hk rfl]
   ·cases h
  ·cases h
 case box e x =>
  simp only [stepS0] at h ⊢
  rw [← hρ x (by simp [Op.operands])]
  split at h
  ·injection h with h; injection h with h1 h2; subst h1; subst h2
   rw [hk rfl]
  ·cases h
 case load ty x =>
  simp only [stepS0] at h ⊢
  rw [← hρ x (by simp [Op.operands])]
  split at h
  ·rename_i j off hx
   split at h
   ·rename_i cs hcs
    try simp only [hx]
    rw [ho j off x cs rfl hx hcs]
    exact h
   ·cases h
  ·rename_i cs off hx
   try simp only [hx]
   exact h
  ·rename_i b off hx
   try simp only [hx]
   exact h
  ·cases h
 case store ty x z =>
  simp only [stepS0] at h ⊢
  rw [← hρ x (by simp [Op.operands]),← hρ z (by simp [Op.operands])]
  split at h
  ·rename_i j off hx
   split at h
   ·rename_i cs xs n hcs hxs hn
    try simp only [hx]
    rw [ho j off x cs rfl hx hcs,hxs,hn]
    exact h
   ·cases h
  ·cases h
 case buildSlice ty len parts =>
  simp only [stepS0] at h ⊢
  rw [← pairs parts fun x hx=>hρ x (by simpa [Op.operands] using hx)]
  unfold rowV at h ⊢
  split at h
  ·split at h
   ·split at h
    ·split at h
     ·rename_i hc
      split at h
      ·rename_i out hf
       split at h
       ·rename_i ds hd
        try simp only [hf,hd]
        rw [if_pos hc]
        exact h
       ·rename_i hd
        try simp only [hf,hd]
        rw [if_pos hc]
        injection h with h; injection h with h1 h2; subst h1; subst h2
        rw [hk rfl]
      ·cases h
     ·cases h
    ·cases h
   ·cases h
  ·cases h
 case call c =>
  simp only [stepS0] at h ⊢
  split at h
  ·rename_i x z tt tt' hcal hargs htys
   have ha : c.args = #[x,z] := by apply Array.ext'; simp [hargs]
   rw [← hρ x (by simp [Op.operands,Call.operands,ha]),← hρ z (by simp [Op.operands,Call.operands,ha])]
   have hA : opApp (.call c) = true := by
    obtain ⟨cal,args,tys⟩ := c
    simp only at hcal
    subst hcal
    rfl
   obtain ⟨e1,e2⟩ := hl hA
   rw [e1,e2]
   exact h
  ·rename_i x ty hcal hargs htys
   have ha : c.args = #[x] := by apply Array.ext'; simp [hargs]
   rw [← hρ x (by simp [Op.operands,Call.operands,ha])]
   exact h
  ·cases h
 all_goals
  simp only [stepS0] at h ⊢
  rw [← hpure]
  exact h
theorem stepS_same {P : Program} {g : Pg P} {obs obs' : Nat → Option (List V)} {lns lns' : Nat → Option (TypeId × Nat)} {k k' t t' : Nat} {o : Oper} {ρ ρ' : Operand → V} {y : V} {f : Ef} (h : stepS g obs lns k t o ρ = some (y,f))
  (hρ : ∀ x ∈ o.op.operands,ρ x = ρ' x) (ho : ∀ j off x cs,touchP o.op = some x → ρ x = .ptr j off → obs j = some cs → obs' j = some cs) (hl : opApp o.op = true → lns' = lns ∧ t' = t) (hk : f.isAlloc = true → k' = k) :
  stepS g obs' lns' k' t' o ρ' = some (y,f) := by
 unfold stepS at h ⊢
 rw [← extS_congr o ρ ρ' hρ]
 split at h
 ·exact h
 ·exact stepS0_same h hρ ho hl hk
def preds (o : Oper) : List Nat := (o.after.toList.filter (Region.binds .any ·)).map (·.on)
def clos : List Oper → List (List Nat) → List (List Nat)
 | [],acc=>acc
 | o :: rest,acc=>clos rest (acc ++ [(preds o ++ (preds o).flatMap fun k=>acc.getD k []).eraseDups])
theorem clos_ok {ops : Array Oper} {lis : Nat → Prop} (hcl : ∀ i o,ops[i]? = some o → lis i → ∀ p ∈ preds o,lis p) :
  ∀ (rest : List Oper) (acc : List (List Nat)),(∀ j,rest[j]? = ops[acc.length + j]?) → (∀ i k,k ∈ acc.getD i [] → lis i → lis k) → ∀ i k,k ∈ (clos rest acc).getD i [] → lis i → lis k
 | [],acc,_,h=>h
 | o :: rest,acc,hr,h=>by
  unfold clos
  refine clos_ok hcl rest _ (fun j=>?_) ?_
  ·have := hr (j + 1)
   simp only [List.getElem?_cons_succ] at this
   rw [this]
   congr 1
   simp; omega
  ·intro i k hk hi
   rw [List.getD_eq_getElem?_getD] at hk
   rcases Nat.lt_or_ge i acc.length with q | q
   ·rw [List.getElem?_append_left q] at hk
    exact h i k (by rw [List.getD_eq_getElem?_getD]; exact hk) hi
   ·rcases Nat.eq_or_lt_of_le q with e | q
    ·subst e
     rw [List.getElem?_append_right (Nat.le_refl _)] at hk
     simp only [Nat.sub_self,List.getElem?_cons_zero,Option.getD_some,List.mem_eraseDups,List.mem_append,List.mem_flatMap] at hk
     have ho : ops[acc.length]? = some o := by have := hr 0; simpa using this.symm
     rcases hk with hk | ⟨p,hp,hk⟩
     ·exact hcl _ o ho hi k hk
     ·exact h p k hk (hcl _ o ho hi p hp)
    ·rw [List.getElem?_eq_none (by simp; omega)] at hk
     simp at hk
def reads (ops : Array Oper) (o : Oper) : List Tmp := o.looksAt ops
def touchT (o : Op) : Option Tmp := match touchP o with | some (.tmp a)=>some a | _=>none
def laterW (ops : Array Oper) (i : Nat) (t : Tmp) : Bool := (ops.toList.drop i).any fun o=>o.dst == some t
def sepPair (ops : Array Oper) (i j : Nat) (x y : Oper) : Option (Tmp × Tmp) :=
 match touchT x.op,touchT y.op with
 | some a,some b=>if laterW ops i a || laterW ops j b then none else some (a,b)
 | _,_=>none
def needE (x y : Op) : Bool := (opStore y && (opLoad x || opNew x || opStore x)) || (opStore x && opLoad y)
def pairOk (ops : Array Oper) (C : List (List Nat)) (i j : Nat) (x y : Oper) : Bool :=
 ((match x.dst with | some d=>(reads ops y).contains d || y.dst == some d | none=>false) == false || (C.getD j []).contains i) &&
 ((match y.dst with | some d=>(reads ops x).contains d | none=>false) == false || (C.getD j []).contains i) &&
 !(opApp x.op && opApp y.op) &&
 (!needE x.op y.op || (C.getD j []).contains i || (sepPair ops i j x y).isSome)
def drawOk (ops : Array Oper) : Bool :=
 let C := clos ops.toList []
 (ops.toList.zipIdx.all fun p=>(preds p.1).all fun k=>decide (k < p.2)) &&
 ops.toList.zipIdx.all fun p=>ops.toList.zipIdx.all fun q=>!decide (p.2 < q.2) || pairOk ops C p.2 q.2 p.1 q.1
def seps (ops : Array Oper) : List (Tmp × Tmp) :=
 let C := clos ops.toList []
 ops.toList.zipIdx.flatMap fun p=>ops.toList.zipIdx.filterMap fun q=>if (decide (p.2 < q.2) && needE p.1.op q.1.op && !(C.getD q.2 []).contains p.2) = true then sepPair ops p.2 q.2 p.1 q.1 else none
def sepV : V → V → Bool
 | .ptr k _,.ptr k' _=>k != k'
 | _,_=>true
def sepL : List (Tmp × Tmp) → Fr → Bool
 | [],_=>true
 | (a,b) :: r,fr=>sepV (fr.getD a .undef) (fr.getD b .undef) && sepL r fr
theorem sepL_mem : ∀ {l : List (Tmp × Tmp)} {fr : Fr} {a b : Tmp},sepL l fr = true → (a,b) ∈ l → sepV (fr.getD a .undef) (fr.getD b .undef) = true
 | [],_,_,_,_,h=>by cases h
 | (c,d) :: r,fr,a,b,h,hm=>by
  simp only [sepL,Bool.and_eq_true] at h
  rcases List.mem_cons.1 hm with e | e
  ·injection e with e1 e2; subst e1; subst e2; exact h.1
  ·exact sepL_mem h.2 e
theorem drawOk_pred {ops : Array Oper} (h : drawOk ops = true) {i : Nat} {o : Oper} (ho : ops[i]? = some o) {k : Nat} (hk : k ∈ preds o) : k < i := by
 unfold drawOk at h
 simp only [Bool.and_eq_true,List.all_eq_true] at h
 have := h.1 (o,i) (by rw [List.mem_zipIdx_iff_getElem?]; simpa using ho) k hk
 simpa using this
theorem drawOk_pair {ops : Array Oper} (h : drawOk ops = true) {i j : Nat} {x y : Oper} (hx : ops[i]? = some x) (hy : ops[j]? = some y) (hij : i < j) : pairOk ops (clos ops.toList []) i j x y = true := by
 unfold drawOk at h
 simp only [Bool.and_eq_true,List.all_eq_true] at h
 have := h.2 (x,i) (by rw [List.mem_zipIdx_iff_getElem?]; simpa using hx) (y,j) (by rw [List.mem_zipIdx_iff_getElem?]; simpa using hy)
 simpa [hij] using this
theorem drawOk_sep {ops : Array Oper} (h : drawOk ops = true) {i j : Nat} {x y : Oper} (hx : ops[i]? = some x) (hy : ops[j]? = some y) (hij : i < j) (hn : needE x.op y.op = true) :
  i ∈ (clos ops.toList []).getD j [] ∨ ∃ a b,touchT x.op = some a ∧ touchT y.op = some b ∧ laterW ops i a = false ∧ laterW ops j b = false ∧ (a,b) ∈ seps ops := by
 have hp := drawOk_pair h hx hy hij
 unfold pairOk at hp
 simp only [Bool.and_eq_true] at hp
 have h2 := hp.2
 rw [hn] at h2
 simp only [Bool.not_true,Bool.false_or,Bool.or_eq_true] at h2
 by_cases hc : ((clos ops.toList []).getD j []).contains i = true
 ·exact .inl (by simpa using hc)
 ·right
  have hs := h2.resolve_left hc
  cases hsp : sepPair ops i j x y with
  | none=>rw [hsp] at hs; cases hs
  | some ab =>
   obtain ⟨a,b⟩ := ab
   have hsp' := hsp
   unfold sepPair at hsp
   split at hsp
   ·rename_i a' b' e1 e2
    split at hsp
    ·cases hsp
    ·rename_i hw
     injection hsp with hsp; injection hsp with z1 z2; subst z1; subst z2
     simp only [Bool.or_eq_true,not_or,Bool.not_eq_true] at hw
     refine ⟨a',b',e1,e2,hw.1,hw.2,?_⟩
     unfold seps
     refine List.mem_flatMap.2 ⟨(x,i),by rw [List.mem_zipIdx_iff_getElem?]; simpa using hx,List.mem_filterMap.2 ⟨(y,j),by rw [List.mem_zipIdx_iff_getElem?]; simpa using hy,?_⟩⟩
     simp only
     rw [if_pos (by rw [hn,Bool.not_eq_true _ |>.mp hc]; simp [hij])]
     exact hsp'
   ·cases hsp
end Go.Proofs.YtjgngikiglhleaaGreatDoor
namespace Go.Proofs.YtjgngikiglhleaaGreatDoor
open Go.RowKit
set_option linter.unusedVariables false
set_option linter.unusedSimpArgs false
def obsOf (s : Sg) : Nat → Option (List V) := fun k=>s.obs[k]?
def lnsOf (s : Sg) : Nat → Option (TypeId × Nat) := fun k=>s.lns[k]?
def One {P : Program} (g : Pg P) (ops : Array Oper) (fr : Fr) (s : Sg) (o : Oper) (y : V) (f : Ef) : Prop :=
 (wantedS ops fr o = some false ∧ y = .skip ∧ f = .none) ∨
 (wantedS ops fr o = some true ∧ ∃ p args tys fid xs,o.op = .call ⟨.value p,args,tys⟩ ∧ callS fr ⟨.value p,args,tys⟩ = some (fid,xs) ∧ Spec g fid (xs.map V.cleanF) y ∧ f = .none) ∨
 (wantedS ops fr o = some true ∧ stepS g (obsOf s) (lnsOf s) s.obs.length s.lns.length o (evalO fr) = some (y,f))
structure Tr {P : Program} (g : Pg P) (ops : Array Oper) (m : Nat) (frs : Nat → Fr) (sgs : Nat → Sg) (res : Nat → V) (eff : Nat → Ef) : Prop where
 one : ∀ i o,m ≤ i → ops[i]? = some o → One g ops (frs i) (sgs i) o (res i) (eff i)
 fr : ∀ i o,m ≤ i → ops[i]? = some o → frs (i + 1) = putF (frs i) o.dst (res i)
 sg : ∀ i o,m ≤ i → ops[i]? = some o → sgs (i + 1) = (eff i).sg (sgs i)
theorem trace_of {P : Program} {g : Pg P} {ops : Array Oper} {K : Fr → Sg → Prop} : ∀ (l : List Oper) (m : Nat) (fr : Fr) (s : Sg),l = ops.toList.drop m → m ≤ ops.size → regS g true ops l fr s K →
  ∃ frs sgs res eff,frs m = fr ∧ sgs m = s ∧ Tr g ops m frs sgs res eff ∧ K (frs ops.size) (sgs ops.size)
 | [],m,fr,s,hl,hm,h=>by
  have : m = ops.size := by
   have := congrArg List.length hl
   simp at this; omega
  subst this
  refine ⟨fun _=>fr,fun _=>s,fun _=>.undef,fun _=>.none,rfl,rfl,⟨?_,?_,?_⟩,h⟩
  all_goals (intro i o h1 h2; rw [Array.getElem?_eq_none h1] at h2; cases h2)
 | o :: rest,m,fr,s,hl,hm,h=>by
  have hlt : m < ops.size := by
   have := congrArg List.length hl
   simp at this; omega
  have ho : ops[m]? = some o := by
   have : (ops.toList.drop m)[0]? = some o := by rw [← hl]; rfl
   simpa using this
  have hrest : rest = ops.toList.drop (m + 1) := by
   rw [← List.drop_drop,← hl]; rfl
  have fin : ∀ (y : V) (f : Ef),One g ops fr s o y f → regS g true ops rest (putF fr o.dst y) (f.sg s) K → ∃ frs sgs res eff,frs m = fr ∧ sgs m = s ∧ Tr g ops m frs sgs res eff ∧ K (frs ops.size) (sgs ops.size) := by
   intro y f hone hr
   obtain ⟨frs,sgs,res,eff,e1,e2,ht,hK⟩ := trace_of rest (m + 1) _ _ hrest (by omega) hr
   refine ⟨fun i=>if i ≤ m then fr else frs i,fun i=>if i ≤ m then s else sgs i,fun i=>if i ≤ m then y else res i,fun i=>if i ≤ m then f else eff i,by simp,by simp,⟨?_,?_,?_⟩,?_⟩
   ·intro i o' h1 h2
    rcases Nat.eq_or_lt_of_le h1 with e | q
    ·subst e
     rw [ho] at h2; injection h2 with h2; subst h2
     simpa using hone
    ·simp only [if_neg (show ¬ i ≤ m by omega)]
     exact ht.one i o' (by omega) h2
   ·intro i o' h1 h2
    rcases Nat.eq_or_lt_of_le h1 with e | q
    ·subst e
     rw [ho] at h2; injection h2 with h2; subst h2
     simp only [Nat.le_refl,if_true,if_neg (show ¬ m + 1 ≤ m by omega)]
     exact e1
    ·simp only [if_neg (show ¬ i ≤ m by omega),if_neg (show ¬ i + 1 ≤ m by omega)]
     exact ht.fr i o' (by omega) h2
   ·intro i o' h1 h2
    rcases Nat.eq_or_lt_of_le h1 with e | q
    ·subst e
     rw [ho] at h2; injection h2 with h2; subst h2
     simp only [Nat.le_refl,if_true,if_neg (show ¬ m + 1 ≤ m by omega)]
     exact e2
    ·simp only [if_neg (show ¬ i ≤ m by omega),if_neg (show ¬ i + 1 ≤ m by omega)]
     exact ht.sg i o' (by omega) h2
   ·simp only [if_neg (show ¬ ops.size ≤ m by omega)]
    exact hK
  unfold regS at h
  cases hw : wantedS ops fr o with
  | none=>rw [hw] at h; exact h.elim
  | some b =>
   rw [hw] at h
   simp only at h
   cases b with
   | false =>
    rw [if_neg (by simp)] at h
    exact fin .skip .none (.inl ⟨hw,rfl,rfl⟩) h
   | true =>
    rw [if_pos rfl] at h
    split at h
    ·rename_i p args tys hop
     split at h
     ·rename_i fid xs hc
      simp only [if_true] at h
      obtain ⟨r,hs,hr⟩ := h
      exact fin r .none (.inr (.inl ⟨hw,p,args,tys,fid,xs,hop,hc,hs,rfl⟩)) hr
     ·exact h.elim
    ·split at h
     ·rename_i y f hs
      exact fin y f (.inr (.inr ⟨hw,hs⟩)) h
     ·exact h.elim
def lw (ops : Array Oper) (p : Nat → Bool) (t : Tmp) : Nat → Option Nat
 | 0=>none
 | i + 1=>if p i = true ∧ (ops[i]?).bind (·.dst) = some t then some i else lw ops p t i
theorem lw_ext {ops : Array Oper} {p q : Nat → Bool} {t : Tmp} : ∀ n,(∀ j,j < n → (ops[j]?).bind (·.dst) = some t → (p j = true ↔ q j = true)) → lw ops p t n = lw ops q t n
 | 0,_=>rfl
 | n + 1,h=>by
  unfold lw
  rw [lw_ext n (fun j hj=>h j (by omega))]
  by_cases hd : (ops[n]?).bind (·.dst) = some t
  ·have := h n (by omega) hd
   by_cases hp : p n = true
   ·rw [if_pos ⟨hp,hd⟩,if_pos ⟨this.1 hp,hd⟩]
   ·rw [if_neg (fun q=>hp q.1),if_neg (fun q=>hp (this.2 q.1))]
  ·rw [if_neg (fun q=>hd q.2),if_neg (fun q=>hd q.2)]
theorem lw_cut {ops : Array Oper} {p : Nat → Bool} {t : Tmp} (i : Nat) : ∀ n,i ≤ n → (∀ j,i ≤ j → j < n → (ops[j]?).bind (·.dst) = some t → p j = false) → lw ops p t n = lw ops p t i
 | 0,h,_=>by
  have : i = 0 := by omega
  subst this; rfl
 | n + 1,h,hq=>by
  rcases Nat.eq_or_lt_of_le h with e | h'
  ·rw [e]
  ·conv=>lhs; unfold lw
   rw [if_neg (fun q=>by have := hq n (by omega) (by omega) q.2; rw [this] at q; simp at q)]
   exact lw_cut i n (by omega) (fun j a b=>hq j a (by omega))
theorem lw_top {ops : Array Oper} {p : Nat → Bool} {t : Tmp} (i n : Nat) (hi : i < n) (hp : p i = true) (hd : (ops[i]?).bind (·.dst) = some t) (h : ∀ j,i < j → j < n → (ops[j]?).bind (·.dst) = some t → p j = false) : lw ops p t n = some i := by
 rw [lw_cut (i + 1) n (by omega) (fun j a b=>h j (by omega) b)]
 unfold lw
 rw [if_pos ⟨hp,hd⟩]
section drawn
variable {P : Program} {g : Pg P} {ops : Array Oper} {frs : Nat → Fr} {sgs : Nat → Sg} {res : Nat → V} {eff : Nat → Ef} (ht : Tr g ops 0 frs sgs res eff) (hd : drawOk ops = true)
include ht
theorem Tr.len (i : Nat) (hi : i ≤ ops.size) : (frs i).length = (frs 0).length := by
 induction i with
 | zero=>rfl
 | succ i ih =>
  obtain ⟨o,ho⟩ : ∃ o,ops[i]? = some o := ⟨ops[i],Array.getElem?_eq_getElem (by omega)⟩
  rw [ht.fr i o (Nat.zero_le _) ho,← ih (by omega)]
  unfold putF
  split <;> simp
def valAt (ops : Array Oper) (frs : Nat → Fr) (res : Nat → V) (p : Nat → Bool) (n : Nat) (t : Tmp) : V :=
 match lw ops p t n with
 | none=>(frs 0).getD t .undef
 | some j=>if t < (frs 0).length then res j else .undef
theorem Tr.at (i : Nat) (hi : i ≤ ops.size) (t : Tmp) : (frs i).getD t .undef = valAt ops frs res (fun _=>true) i t := by
 induction i with
 | zero=>rfl
 | succ i ih =>
  obtain ⟨o,ho⟩ : ∃ o,ops[i]? = some o := ⟨ops[i],Array.getElem?_eq_getElem (by omega)⟩
  have hl := ht.len i (by omega)
  rw [ht.fr i o (Nat.zero_le _) ho]
  unfold valAt lw
  rw [ho]
  simp only [Option.bind_some,true_and]
  by_cases e : o.dst = some t
  ·rw [if_pos e]
   simp only [putF,e,List.getD_eq_getElem?_getD,List.getElem?_set]
   simp only [if_true]
   by_cases hlt : t < (frs 0).length
   ·have hlt' : t < (frs i).length := by rw [hl]; exact hlt
    rw [if_pos hlt',if_pos hlt]; rfl
   ·have hlt' : ¬ t < (frs i).length := by rw [hl]; exact hlt
    rw [if_neg hlt',if_neg hlt]; rfl
  ·rw [if_neg e]
   have : (putF (frs i) o.dst (res i)).getD t .undef = (frs i).getD t .undef := by
    unfold putF
    split
    ·rename_i d hdd
     simp only [List.getD_eq_getElem?_getD]
     rw [List.getElem?_set_ne (fun q=>e (by rw [hdd,q]))]
    ·rfl
   rw [this,ih (by omega)]
   rfl
theorem Tr.kind (i : Nat) (o : Oper) (ho : ops[i]? = some o) : ((eff i).isAlloc = true → opNew o.op = true) ∧ ((eff i).isStore = true → opStore o.op = true) ∧ ((eff i).isApp = true → opApp o.op = true) := by
 rcases ht.one i o (Nat.zero_le _) ho with ⟨_,_,h⟩ | ⟨_,p,args,tys,fid,xs,_,_,_,h⟩ | ⟨_,h⟩
 ·rw [h]; simp [Ef.isAlloc,Ef.isStore,Ef.isApp]
 ·rw [h]; simp [Ef.isAlloc,Ef.isStore,Ef.isApp]
 ·exact stepS_kind h
theorem Tr.grow (i : Nat) (hi : i < ops.size) : (sgs i).obs.length ≤ (sgs (i + 1)).obs.length ∧ ((eff i).isAlloc = true → (sgs (i + 1)).obs.length = (sgs i).obs.length + 1) ∧ ((eff i).isAlloc = false → (sgs (i + 1)).obs.length = (sgs i).obs.length) ∧ ((eff i).isStore = false → ∀ k,k < (sgs i).obs.length → (sgs (i + 1)).obs[k]? = (sgs i).obs[k]?) ∧ ((eff i).isApp = false → (sgs (i + 1)).lns = (sgs i).lns) := by
 obtain ⟨o,ho⟩ : ∃ o,ops[i]? = some o := ⟨ops[i],Array.getElem?_eq_getElem (by omega)⟩
 rw [ht.sg i o (Nat.zero_le _) ho]
 cases he : eff i with
 | none=>simp [Ef.sg,Ef.isAlloc]
 | alloc cs =>
  simp only [Ef.sg,Ef.isAlloc]
  refine ⟨by simp,fun _=>by simp,fun h=>(by cases h),fun _ k hk=>List.getElem?_append_left hk,fun _=>trivial⟩
 | store j cs=>simp [Ef.sg,Ef.isAlloc,Ef.isStore]
 | app t e n=>simp only [Ef.sg]; split <;> simp [Ef.isAlloc,Ef.isApp]
theorem Tr.mono (i j : Nat) (hij : i ≤ j) (hj : j ≤ ops.size) : (sgs i).obs.length ≤ (sgs j).obs.length := by
  induction j with
  | zero => have : i = 0 := by omega
            subst this; exact Nat.le_refl _
  | succ j ih =>
    rcases Nat.eq_or_lt_of_le hij with e | q
    · rw [e]; exact Nat.le_refl _
    · exact Nat.le_trans (ih (by omega) (by omega)) (ht.grow j (by omega)).1
theorem Tr.toks (i j : Nat) (hi : i < ops.size) (hj : j < ops.size) (ai : (eff i).isAlloc = true) (aj : (eff j).isAlloc = true) (h : (sgs i).obs.length = (sgs j).obs.length) : i = j := by
 rcases Nat.lt_trichotomy i j with q | q | q
 ·have h1 := (ht.grow i hi).2.1 ai
  have h2 := ht.mono (i + 1) j (by omega) (by omega)
  omega
 ·exact q
 ·have h1 := (ht.grow j hj).2.1 aj
  have h2 := ht.mono (j + 1) i (by omega) (by omega)
  omega
theorem Tr.lnsq (i j : Nat) (hij : i ≤ j) (hj : j ≤ ops.size) (hst : ∀ m,i ≤ m → m < j → (eff m).isApp = false) : (sgs j).lns = (sgs i).lns := by
  induction j with
  | zero => have : i = 0 := by omega
            subst this; rfl
  | succ j ih =>
    rcases Nat.eq_or_lt_of_le hij with e | q
    · rw [e]
    · rw [(ht.grow j (by omega)).2.2.2.2 (hst j (by omega) (by omega))]
      exact ih (by omega) (by omega) (fun m a b=>hst m a (by omega))
end drawn
end Go.Proofs.YtjgngikiglhleaaGreatDoor
