/-
  Sc, Sd in one text.
-/
import Derived.Test.YtjgngikiglhleaaGreatDoorSab
namespace Go.Proofs.YtjgngikiglhleaaGreatDoor
open Go.RowKit
inductive SK where
 | int (k : IntKind)
 | bool
 | str
 deriving DecidableEq
def D.kind? : D → Option SK
 | .int k _=>some (.int k)
 | .bool _=>some .bool
 | .str _=>some .str
 | _=>none
def eqD : D → D → Bool
 | .int _ a,.int _ b=>a == b
 | .bool a,.bool b=>a == b
 | .str a,.str b=>a == b
 | _,_=>false
def eqAll : List D → List D → Bool
 | [],[]=>true
 | x :: xs,y :: ys=>eqD x y && eqAll xs ys
 | _,_=>false
def EqOk (P : Program) (t : TypeId) (ks : List SK) : Prop :=
 P.eqGuardType P.depth t = false ∧ ∀ xs ys : List D,xs.map D.kind? = ks.map some → ys.map D.kind? = ks.map some → ∀ w,(Op.equal t (.agg ⟨xs.map D.val⟩) (.agg ⟨ys.map D.val⟩)).run P w = .ok (eqAll xs ys) w
structure Pg (P : Program) where
 mixed : P.follows .mixedOrders = true
 E : TypeId → Option (List SK)
 hE : ∀ t ks,E t = some ks → EqOk P t ks
def litC : Value → V
 | .int k n=>.d (.int k n)
 | .bool b=>.d (.bool b)
 | .string s=>.d (.str s.data.toList)
 | .slice none n c=>if n = 0 ∧ c = 0 then .nil else .d (.other (.slice none n c))
 | .func (.func f) fs cs=>if fs.toList = [] ∧ cs.toList = [] then .fn f [] else .d (.other (.func (.func f) fs cs))
 | v=>if v.oneCell' = true then .d (.other v) else .undef
def lit : Value → V
 | .agg cs=>.agg (cs.toList.map litC)
 | v=>litC v
theorem litC_rel (G : Cx) (v : Value) : rel G (litC v) v := by
 unfold litC
 split
 ·exact .d (.int _ _)
 ·exact .d (.bool _)
 ·rename_i s
  have : (⟨s.data.toList.toArray⟩ : ByteArray) = s := by cases s; simp
  exact .d (by have h := relD.str (F := G.F) s.data.toList; rw [this] at h; exact h)
 ·split
  ·rename_i h; obtain ⟨rfl,rfl⟩ := h; exact .nil
  ·exact .d (.other _ rfl)
 ·rename_i f fs cs
  split
  ·rename_i h
   obtain ⟨h1,h2⟩ := h
   have e1 : fs = #[] := by cases fs; simp_all
   have e2 : cs = #[] := by cases cs; simp_all
   subst e1; subst e2
   exact .fn _ [] [] rfl (fun i x v h=>by simp at h)
  ·exact .d (.other _ rfl)
 ·split
  ·exact .d (.other _ ‹_›)
  ·exact .undef _
theorem lit_rel (G : Cx) (v : Value) : rel G (lit v) v := by
  unfold lit
  split
  · rename_i cs
    have h := rel.agg (G := G) (cs.toList.map litC) cs.toList (by simp) (fun i x v h1 h2=>by
      rw [List.getElem?_map,h2] at h1
      simp at h1; subst h1; exact litC_rel G v)
    simpa using h
  · exact litC_rel G _
abbrev Fr := List V
def FR (G : Cx) (fr : Fr) (a : Act) : Prop := fr.length = a.tmps.size ∧ ∀ t,rel G (fr.getD t .undef) (a.tmps.getD t undef)
def evalO (fr : Fr) : Operand → V
 | .tmp t=>fr.getD t .undef
 | .const v=>lit v
 | .global g=>.d (.other (.pointer (some ⟨g,0,none⟩)))
 | .func f=>.fn f []
theorem evalO_rel {G : Cx} {fr : Fr} {a : Act} (h : FR G fr a) (x : Operand) : rel G (evalO fr x) (a.eval x) := by
 cases x with
 | tmp t=>exact h.2 t
 | const v=>exact lit_rel G v
 | global g=>exact .d (.other _ rfl)
 | func f=>exact .fn _ [] [] rfl (fun i x v h=>by simp at h)
theorem FR_mono {G G' : Cx} (h : G.le G') {fr : Fr} {a : Act} (r : FR G fr a) : FR G' fr a := ⟨r.1,fun t=>rel_mono h (r.2 t)⟩
def putF (fr : Fr) (dst : Option Tmp) (x : V) : Fr := match dst with | some d=>fr.set d x | none=>fr
theorem FR_put {G : Cx} {fr : Fr} {a : Act} (h : FR G fr a) {x : V} {v : Value} (r : rel G x v) (dst : Option Tmp) : FR G (putF fr dst x) (a.put dst v) := by
 cases dst with
 | none=>exact h
 | some d =>
  refine ⟨by simp [putF,Act.put,h.1],fun t=>?_⟩
  simp only [putF,Act.put,List.getD_eq_getElem?_getD,Array.getD_eq_getD_getElem?,List.getElem?_set,Array.getElem?_setIfInBounds]
  by_cases e : d = t
  ·subst e
   rw [if_pos rfl,if_pos rfl]
   by_cases hl : d < fr.length
   ·rw [if_pos hl,if_pos (h.1 ▸ hl)]; exact r
   ·rw [if_neg hl]; exact .undef _
  ·rw [if_neg e,if_neg e]
   have := h.2 t
   simpa only [List.getD_eq_getElem?_getD,Array.getD_eq_getD_getElem?] using this
def V.one : V → Bool
 | .undef=>false
 | .skip=>false
 | .agg _=>false
 | .tuple _=>false
 | _=>true
theorem one_rel {G : Cx} {x : V} {v : Value} (r : rel G x v) (h : x.one = true) : v.oneCell' = true := by
 cases r with
 | undef v=>simp [V.one] at h
 | skip=>simp [V.one] at h
 | d q=>cases q <;> first | rfl | assumption
 | agg cs vs _ _=>simp [V.one] at h
 | tuple cs vs _ _=>simp [V.one] at h
 | own t es v q=>cases q <;> rfl
 | gr k n v h1=>exact h1
 | gp k n i off v h1=>exact h1
 | adr k v b _ _ q=>rcases q with rfl | rfl <;> rfl
 | gs k n off len v h1=>exact h1
 | _=>rfl
def V.cells? : V → Option (List V)
 | .agg cs=>some cs
 | x=>if x.one then some [x] else none
theorem cells_one {v : Value} (h : v.oneCell' = true) : v.cells = #[v] := by cases v <;> first | rfl | (simp [Value.oneCell'] at h)
theorem cells_rel {G : Cx} {x : V} {v : Value} {cs : List V} (r : rel G x v) (h : x.cells? = some cs) : rels G cs v.cells.toList := by
 cases x with
 | agg c =>
  simp only [V.cells?] at h
  injection h with h; subst h
  cases r with
  | agg _ vs hl hr=>exact ⟨hl,hr⟩
 | _ =>
  simp only [V.cells?] at h
  split at h
  ·rename_i ho
   injection h with h; subst h
   rw [cells_one (one_rel r ho)]
   exact rels_cons r (rels_nil G)
  ·cases h
def V.data? : V → Option D
 | .d x=>some x
 | .own _ es=>some (.list es)
 | .full es=>some (.list es)
 | .nil=>some (.list [])
 | .fn f []=>some (.other (.func (.func f) #[] #[]))
 | _=>none
theorem data_rel {G : Cx} {x : V} {v : Value} {y : D} (r : rel G x v) (h : x.data? = some y) : relD G.F y v := by
 cases r with
 | d q=>simp only [V.data?] at h; injection h with h; subst h; exact q
 | own t es v q=>simp only [V.data?] at h; injection h with h; subst h; exact q
 | full es A q=>simp only [V.data?] at h; injection h with h; subst h; exact q
 | nil=>simp only [V.data?] at h; injection h with h; subst h; exact .nil _ _
 | fn f cs vs hl hr =>
  cases cs with
  | nil =>
   simp only [V.data?] at h; injection h with h; subst h
   have : vs = [] := List.eq_nil_of_length_eq_zero hl.symm
   subst this; exact .other _ rfl
  | cons=>simp [V.data?] at h
 | _=>simp [V.data?] at h
def V.list? (x : V) : Option (List (List D)) := match x.data? with | some (.list es)=>some es | some (.other (.slice _ 0 _))=>some [] | _=>none
theorem list_rel {G : Cx} {x : V} {v : Value} {es : List (List D)} (r : rel G x v) (h : x.list? = some es) : relD G.F (.list es) v := by
 unfold V.list? at h
 split at h
 ·rename_i es' h'
  injection h with h; subst h
  exact data_rel r h'
 ·rename_i A c h'
  injection h with h; subst h
  have := data_rel r h'
  cases this
  exact .nil _ _
 ·cases h
def intBin (op : BinOp) (k : IntKind) (a b : Int) : Option D :=
 match op with
 | .add=>some (.int k (k.wrap (a + b)))
 | .sub=>some (.int k (k.wrap (a - b)))
 | .mul=>some (.int k (k.wrap (a * b)))
 | .quo=>if b = 0 then none else some (.int k (k.wrap (a.tdiv b)))
 | .rem=>if b = 0 then none else some (.int k (a.tmod b))
 | .and=>some (.int k (k.wrap (BitVec.ofInt k.bits a &&& BitVec.ofInt k.bits b).toNat))
 | .or=>some (.int k (k.wrap (BitVec.ofInt k.bits a ||| BitVec.ofInt k.bits b).toNat))
 | .xor=>some (.int k (k.wrap (BitVec.ofInt k.bits a ^^^ BitVec.ofInt k.bits b).toNat))
 | .andNot=>some (.int k (k.wrap (BitVec.ofInt k.bits a &&& ~~~BitVec.ofInt k.bits b).toNat))
 | .eql=>some (.bool (a == b))
 | .neq=>some (.bool (a != b))
 | .lss=>some (.bool (decide (a < b)))
 | .leq=>some (.bool (decide (a ≤ b)))
 | .gtr=>some (.bool (decide (a > b)))
 | .geq=>some (.bool (decide (a ≥ b)))
 | .shl=>none
 | .shr=>none
def shiftBin (op : BinOp) (k : IntKind) (a b : Int) : Option D :=
 if b < 0 then none else
 match op with
 | .shl=>some (.int k (k.wrap (a * 2 ^ (min b.toNat k.bits))))
 | .shr=>some (.int k (a.fdiv (2 ^ (min b.toNat k.bits))))
 | _=>none
def strBin (op : BinOp) (a b : List UInt8) : Option D :=
 match op with
 | .add=>if a.length + b.length ≤ 9223372036854775807 then some (.str (a ++ b)) else none
 | .eql=>some (.bool (a == b))
 | .neq=>some (.bool (!(a == b)))
 | .lss=>some (.bool (Op.bytesLess a b))
 | .leq=>some (.bool (Op.bytesLess a b || a == b))
 | .gtr=>some (.bool (!(Op.bytesLess a b || a == b)))
 | .geq=>some (.bool (!(Op.bytesLess a b)))
 | _=>none
def binD (op : BinOp) (x y : D) : Option D :=
 match x,y with
 | .int k a,.int k' b =>
  match op with
  | .shl=>shiftBin .shl k a b
  | .shr=>shiftBin .shr k a b
  | _=>if k = k' then intBin op k a b else none
 | .str a,.str b=>strBin op a b
 | _,_=>none
theorem binD_ok {P : Program} {F : Nat → Nat → Value → Prop} {op : BinOp} {t : TypeId} {xo yo : Operand} {x y z : D} {v u : Value} (hx : relD F x v) (hy : relD F y u) (h : binD op x y = some z) (w : World) :
    ∃ r,((do eqGuard op t xo yo v u; binOp op t v u) : Sem Value).run P w = .ok r w ∧ relD F z r := by
  cases hx with
  | int k a =>
    cases hy with
    | int k' b =>
      have hg : (eqGuard op t xo yo (.int k a) (.int k' b)).run P w = .ok () w := by
        unfold eqGuard; cases op <;> simp
      simp only [binD] at h
      cases op
      case shl =>
        simp only [shiftBin] at h
        split at h
        · cases h
        · rename_i hn; injection h with h; subst h; exact ⟨_,by simp [hg,binOp,Op.shift,hn],.int _ _⟩
      case shr =>
        simp only [shiftBin] at h
        split at h
        · cases h
        · rename_i hn; injection h with h; subst h; exact ⟨_,by simp [hg,binOp,Op.shift,hn],.int _ _⟩
      all_goals
        simp only at h
        split at h
        · rename_i hk
          subst hk
          simp only [intBin] at h
          first
            | (injection h with h; subst h; exact ⟨_,by simp only [Sem.run_bind,hg,Result.andThen_ok,binOp,ne_eq,not_true_eq_false,if_false,Op.intArith,Op.intBits,Op.intCmp]; rfl,by constructor⟩)
            | (split at h
               · cases h
               · rename_i hn; injection h with h; subst h; exact ⟨_,by simp [hg,binOp,Op.intDiv,hn]; rfl,by constructor⟩)
        · cases h
    | _=>simp [binD] at h
  | str a =>
    cases hy with
    | str b =>
      have hg : (eqGuard op t xo yo (.string ⟨a.toArray⟩) (.string ⟨b.toArray⟩)).run P w = .ok () w := by
        unfold eqGuard; cases op <;> simp
      have hl : ∀ l : List UInt8,(⟨l.toArray⟩ : ByteArray).toList = l := fun l=>by rw [ByteArray.toList_eq]
      simp only [binD,strBin] at h
      cases op
      case add =>
        simp only at h
        split at h
        · rename_i hle
          injection h with h; subst h
          refine ⟨_,?_,.str _⟩
          have hs : ¬ (((⟨a.toArray⟩ : ByteArray).size + (⟨b.toArray⟩ : ByteArray).size : Nat) : Int) > IntKind.i64.max := by
            simp only [ByteArray.size,List.size_toArray]; simp [IntKind.max,IntKind.bits]; omega
          have hap : (⟨a.toArray⟩ : ByteArray) ++ ⟨b.toArray⟩ = ⟨(a ++ b).toArray⟩ := by
            apply ByteArray.ext; simp
          simp only [Sem.run_bind,hg,Result.andThen_ok,binOp,Op.stringOp,hs,if_false,hap]
          rfl
        · cases h
      all_goals
        first
          | (simp only at h; cases h; done)
          | (injection h with h; subst h; exact ⟨_,by simp only [Sem.run_bind,hg,Result.andThen_ok,binOp,Op.stringOp,hl]; rfl,by constructor⟩)
    | _=>simp [binD] at h
  | _=>simp [binD] at h
end Go.Proofs.YtjgngikiglhleaaGreatDoor
namespace Go.Proofs.YtjgngikiglhleaaGreatDoor
open Go.RowKit
def aggT (P : Program) (t : TypeId) : Option Bool :=
 match P.underlying t with
 | some (.struct _)=>some true
 | some (.array _ _)=>some true
 | some _=>some false
 | none=>none
def sizeT (P : Program) (t : TypeId) : Option Nat := (P.info? t).map (·.size)
theorem run_size {P : Program} {t : TypeId} {n : Nat} (h : sizeT P t = some n) (w : World) : (sizeOf t).run P w = .ok n w := by
 unfold sizeT at h
 cases hi : P.info? t with
 | none=>rw [hi] at h; cases h
 | some i=>rw [hi] at h; simp at h; simp [sizeOf,typeInfo,hi,h,program,Sem.run]
theorem run_agg {P : Program} {t : TypeId} {b : Bool} (h : aggT P t = some b) (w : World) : (isAgg t).run P w = .ok b w := by
 unfold aggT at h
 cases hu : P.underlying t with
 | none=>rw [hu] at h; cases h
 | some d =>
  rw [hu] at h
  simp only [isAgg,Sem.run_bind,run_underlying hu,Result.andThen_ok]
  cases d <;> simp_all
def partV (P : Program) (t : TypeId) (cs : List V) (off : Nat) : Option V :=
 match aggT P t with
 | some true=>match sizeT P t with
  | some n=>if off + n ≤ cs.length then some (.agg ((cs.drop off).take n)) else none
  | none=>none
 | some false=>cs[off]?
 | none=>none
theorem rels_take_drop {G : Cx} {cs : List V} {vs : List Value} (r : rels G cs vs) (off n : Nat) : rels G ((cs.drop off).take n) ((vs.drop off).take n) := by
 refine ⟨by simp [r.1],fun i x v h1 h2=>?_⟩
 rw [List.getElem?_take] at h1 h2
 split at h1
 ·rename_i hi
  rw [if_pos hi] at h2
  rw [List.getElem?_drop] at h1 h2
  exact r.2 _ x v h1 h2
 ·cases h1
theorem partV_ok {P : Program} {G : Cx} {t : TypeId} {cs : List V} {off : Nat} {x : V} {vs : List Value} (h : partV P t cs off = some x) (r : rels G cs vs) (w : World) : ∃ v,(part t ⟨vs⟩ off).run P w = .ok v w ∧ rel G x v := by
 unfold partV at h
 cases ha : aggT P t with
 | none=>rw [ha] at h; cases h
 | some b =>
  rw [ha] at h
  cases b with
  | true =>
   cases hs : sizeT P t with
   | none=>rw [hs] at h; cases h
   | some n =>
    rw [hs] at h
    simp only at h
    split at h
    ·rename_i hle
     injection h with h; subst h
     refine ⟨.agg ⟨(vs.drop off).take n⟩,?_,?_⟩
     ·simp only [part,Sem.run_bind,run_agg ha,Result.andThen_ok,if_true,run_size hs,Sem.run_pure]
      congr 2
      apply Array.ext'
      simp
     ·have := rels_take_drop r off n
      exact .agg _ _ this.1 this.2
    ·cases h
  | false =>
   simp only at h
   have hlt : off < cs.length := by
    rcases Nat.lt_or_ge off cs.length with q | q
    ·exact q
    ·rw [List.getElem?_eq_none q] at h; cases h
   have hv : vs[off]? = some (vs[off]'(r.1 ▸ hlt)) := List.getElem?_eq_getElem _
   refine ⟨vs[off]'(r.1 ▸ hlt),?_,r.2 off x _ h hv⟩
   simp [part,run_agg ha,r.1 ▸ hlt]
theorem loadF_ok {P : Program} {G : Cx} {t : TypeId} {cs : List V} {off : Nat} {x : V} {vs : List Value} {b o : Nat} {w : World} (h : partV P t cs off = some x) (r : rels G cs vs) (hc : ∀ (j : Nat) v, vs[j]? = some v → w.cell? ⟨b, o + j, none⟩ = some v) :
    ∃ v,(loadVar t ⟨b,o + off,none⟩).run P w = .ok v w ∧ rel G x v := by
  unfold partV at h
  cases ha : aggT P t with
  | none=>rw [ha] at h; cases h
  | some q =>
    rw [ha] at h
    cases q with
    | true =>
      cases hs : sizeT P t with
      | none=>rw [hs] at h; cases h
      | some n =>
        rw [hs] at h
        simp only at h
        split at h
        · rename_i hle
          injection h with h; subst h
          refine ⟨.agg ⟨(vs.drop off).take n⟩,?_,?_⟩
          · have hl : ((vs.drop off).take n).length = n := by simp; have := r.1; omega
            have := run_loadCells_list (P := P) w ⟨b,o + off,none⟩ ((vs.drop off).take n) (fun j v hj=>by
              rw [Addr.add_lit]
              rw [List.getElem?_take] at hj
              split at hj
              · rw [List.getElem?_drop] at hj
                have := hc _ _ hj
                rwa [← Nat.add_assoc] at this
              · cases hj)
            rw [hl] at this
            simp only [loadVar,Sem.run_bind,run_agg ha,Result.andThen_ok,if_true,run_size hs,this,Sem.run_pure]
          · have := rels_take_drop r off n
            exact .agg _ _ this.1 this.2
        · cases h
    | false =>
      simp only at h
      have hlt : off < cs.length := by
        rcases Nat.lt_or_ge off cs.length with q | q
        · exact q
        · rw [List.getElem?_eq_none q] at h; cases h
      have hv : vs[off]? = some (vs[off]'(r.1 ▸ hlt)) := List.getElem?_eq_getElem _
      refine ⟨vs[off]'(r.1 ▸ hlt),?_,r.2 off x _ h hv⟩
      simp [loadVar,run_agg ha,hc _ _ hv]
def dcells (cs : List D) : List V := cs.map .d
theorem iptr_cells {G : Cx} {cs : List D} {u : Nat → Value} (hr : ∀ (j : Nat) (x : D),cs[j]? = some x → relD G.F x (u j)) : rels G (dcells cs) ((List.range cs.length).map u) := by
 refine ⟨by simp [dcells],fun i x v h1 h2=>?_⟩
 unfold dcells at h1
 rw [List.getElem?_map] at h1
 cases hq : cs[i]? with
 | none=>rw [hq] at h1; cases h1
 | some y =>
  rw [hq] at h1; simp at h1; subst h1
  have hlt : i < cs.length := by
   rcases Nat.lt_or_ge i cs.length with q | q
   ·exact q
   ·rw [List.getElem?_eq_none q] at hq; cases hq
  rw [List.getElem?_map,List.getElem?_range hlt] at h2
  simp at h2; subst h2
  exact .d (hr i y hq)
def fieldOf (P : Program) (t : TypeId) (f : Nat) : Option (Nat × TypeId) := match P.underlying t with | some (.struct fs)=>(fs[f]?).map fun fd=>(fd.offset,fd.type) | _=>none
theorem fieldOf_ok {P : Program} {t : TypeId} {f off : Nat} {ty : TypeId} (h : fieldOf P t f = some (off,ty)) : ∃ fs fd,P.underlying t = some (.struct fs) ∧ fs[f]? = some fd ∧ fd.offset = off ∧ fd.type = ty := by
 unfold fieldOf at h
 cases hu : P.underlying t with
 | none=>rw [hu] at h; cases h
 | some d =>
  rw [hu] at h
  cases d with
  | struct fs =>
   simp only at h
   cases hf : fs[f]? with
   | none=>rw [hf] at h; cases h
   | some fd=>rw [hf] at h; simp at h; exact ⟨fs,fd,rfl,hf,h.1,h.2⟩
  | _=>simp at h
def fieldAddrV (P : Program) (t : TypeId) (x : V) (f : Nat) : Option V :=
 match fieldOf P t f with
 | none=>none
 | some (fo,ty) =>
  match sizeT P ty with
  | none=>none
  | some n=>if n = 0 then none else
   match x with
   | .ptr k off=>some (.ptr k (off + fo))
   | .iptr cs off=>some (.iptr cs (off + fo))
   | _=>none
theorem fieldAddrV_ok {P : Program} {G : Cx} {t : TypeId} {x y : V} {f : Nat} {v : Value} (r : rel G x v) (h : fieldAddrV P t x f = some y) (w : World) : ∃ u,(Instr.fieldAt t v f).run P w = .ok u w ∧ rel G y u := by
 unfold fieldAddrV at h
 split at h
 ·cases h
 ·rename_i fo ty hf
  obtain ⟨fs,fd,hu,hfd,h1,h2⟩ := fieldOf_ok hf
  subst h1; subst h2
  cases hs : sizeT P fd.type with
  | none=>rw [hs] at h; cases h
  | some n =>
   rw [hs] at h
   simp only at h
   split at h
   ·cases h
   ·rename_i hn
    cases r with
    | ptr k off b q =>
     simp only at h; injection h with h; subst h
     refine ⟨_,?_,.ptr k (off + fd.offset) b q⟩
     simp [Instr.fieldAt,run_underlying hu,hfd,Instr.sureAddr,fieldPlace,run_size hs,hn,Addr.add_lit]
    | iptr cs off b o u hF hr =>
     simp only at h; injection h with h; subst h
     refine ⟨_,?_,.iptr cs (off + fd.offset) b o u hF hr⟩
     simp [Instr.fieldAt,run_underlying hu,hfd,Instr.sureAddr,fieldPlace,run_size hs,hn,Addr.add_lit,Nat.add_assoc]
    | _=>simp at h
def fieldV (P : Program) (t : TypeId) (x : V) (f : Nat) : Option V :=
 match fieldOf P t f,x with
 | some (fo,ty),.agg cs=>partV P ty cs fo
 | _,_=>none
theorem fieldV_ok {P : Program} {G : Cx} {t : TypeId} {x y : V} {f : Nat} {v : Value} (r : rel G x v) (h : fieldV P t x f = some y) (w : World) : ∃ u,(Instr.field t v f).run P w = .ok u w ∧ rel G y u := by
 unfold fieldV at h
 split at h
 ·rename_i fo ty cs hf
  obtain ⟨fs,fd,hu,hfd,h1,h2⟩ := fieldOf_ok hf
  subst h1; subst h2
  cases r with
  | agg _ vs hl hr =>
   obtain ⟨u,h1,h2⟩ := partV_ok h ⟨hl,hr⟩ w
   exact ⟨u,by simp [Instr.field,run_underlying hu,hfd,asAgg,h1],h2⟩
 ·cases h
def extractV (x : V) (i : Nat) : Option V := match x with | .tuple vs=>vs[i]? | _=>none
theorem extractV_ok {P : Program} {G : Cx} {x y : V} {i : Nat} {v : Value} (r : rel G x v) (h : extractV x i = some y) (w : World) : ∃ u,(Instr.extract v i).run P w = .ok u w ∧ rel G y u := by
 unfold extractV at h
 cases r with
 | tuple cs vs hl hr =>
  simp only at h
  have hlt : i < cs.length := by
   rcases Nat.lt_or_ge i cs.length with q | q
   ·exact q
   ·rw [List.getElem?_eq_none q] at h; cases h
  have hv : vs[i]? = some (vs[i]'(hl ▸ hlt)) := List.getElem?_eq_getElem _
  exact ⟨_,by simp [Instr.extract,hl ▸ hlt],hr i y _ h hv⟩
 | _=>simp at h
def globA (x : V) (k : Nat) : Option V := match x with
 | .d (.other (.pointer (some ⟨b,off,none⟩)))=>some (.d (.other (.pointer (some ⟨b,off + k,none⟩))))
 | _=>none
def indexAddrV (P : Program) (t : TypeId) (x i : V) : Option V :=
 match i with
 | .d (.int _ n) =>
  if n < 0 then none else
  match P.underlying t with
  | some (.slice e) =>
   match sizeT P e with
   | none=>none
   | some sz =>
    match x with
    | .sl k off len _=>if n.toNat < len then some (.ptr k (off + n.toNat * sz)) else none
    | _=>match x.list? with
     | some es=>match es[n.toNat]? with
      | some c=>if c.length = sz then some (.iptr c 0) else none
      | none=>none
     | none=>none
  | some (.array len e) =>
   match sizeT P e with
   | none=>none
   | some sz=>if n.toNat < len then
     match x with
     | .ptr k off=>some (.ptr k (off + n.toNat * sz))
     | .iptr cs off=>some (.iptr cs (off + n.toNat * sz))
     | x=>globA x (n.toNat * sz)
    else none
  | _=>none
 | _=>none
end Go.Proofs.YtjgngikiglhleaaGreatDoor
