/-
  The operations of the shadow that touch no memory of the call's own, and that they are those of the model.
-/
import Derived.Test.YtijihbegfmkceaaGreatDoorSb
namespace Go.Proofs.YtijihbegfmkceaaGreatDoor
open Go.RowKit

inductive SK where
  | int (k : IntKind)
  | bool
  | str
  deriving DecidableEq
def D.kind? : D → Option SK
  | .int k _ => some (.int k)
  | .bool _ => some .bool
  | .str _ => some .str
  | _ => none
def eqD : D → D → Bool
  | .int _ a, .int _ b => a == b
  | .bool a, .bool b => a == b
  | .str a, .str b => a == b
  | _, _ => false
def eqAll : List D → List D → Bool
  | [], [] => true
  | x :: xs, y :: ys => eqD x y && eqAll xs ys
  | _, _ => false
def EqOk (P : Program) (t : TypeId) (ks : List SK) : Prop :=
  P.eqGuardType P.depth t = false ∧ ∀ xs ys : List D, xs.map D.kind? = ks.map some → ys.map D.kind? = ks.map some → ∀ w, (Op.equal t (.agg ⟨xs.map D.val⟩) (.agg ⟨ys.map D.val⟩)).run P w = .ok (eqAll xs ys) w

/-- A program, and facts on it. -/
structure Pg (P : Program) where
  mixed : P.follows .mixedOrders = true
  E : TypeId → Option (List SK)
  hE : ∀ t ks, E t = some ks → EqOk P t ks

def litC : Value → V
  | .int k n => .d (.int k n)
  | .bool b => .d (.bool b)
  | .string s => .d (.str s.data.toList)
  | .slice none n c => if n = 0 ∧ c = 0 then .nil else .d (.other (.slice none n c))
  | .func (.func f) fs cs => if fs.toList = [] ∧ cs.toList = [] then .fn f [] else .d (.other (.func (.func f) fs cs))
  | v => if v.oneCell' = true then .d (.other v) else .undef
def lit : Value → V
  | .agg cs => .agg (cs.toList.map litC)
  | v => litC v
theorem litC_rel (G : Cx) (v : Value) : rel G (litC v) v := by
  unfold litC
  split
  · exact .d (.int _ _)
  · exact .d (.bool _)
  · rename_i s
    have : (⟨s.data.toList.toArray⟩ : ByteArray) = s := by cases s; simp
    exact .d (by have h := relD.str (F := G.F) s.data.toList; rw [this] at h; exact h)
  · split
    · rename_i h; obtain ⟨rfl, rfl⟩ := h; exact .nil
    · exact .d (.other _ rfl)
  · rename_i f fs cs
    split
    · rename_i h
      obtain ⟨h1, h2⟩ := h
      have e1 : fs = #[] := by cases fs; simp_all
      have e2 : cs = #[] := by cases cs; simp_all
      subst e1; subst e2
      exact .fn _ [] [] rfl (fun i x v h => by simp at h)
    · exact .d (.other _ rfl)
  · split
    · exact .d (.other _ ‹_›)
    · exact .undef _
theorem lit_rel (G : Cx) (v : Value) : rel G (lit v) v := by
  unfold lit
  split
  · rename_i cs
    have h := rel.agg (G := G) (cs.toList.map litC) cs.toList (by simp) (fun i x v h1 h2 => by
      rw [List.getElem?_map, h2] at h1
      simp at h1; subst h1; exact litC_rel G v)
    simpa using h
  · exact litC_rel G _

abbrev Fr := List V
def FR (G : Cx) (fr : Fr) (a : Act) : Prop := fr.length = a.tmps.size ∧ ∀ t, rel G (fr.getD t .undef) (a.tmps.getD t undef)
def evalO (fr : Fr) : Operand → V
  | .tmp t => fr.getD t .undef
  | .const v => lit v
  | .global g => .d (.other (.pointer (some ⟨g, 0, none⟩)))
  | .func f => .fn f []
theorem evalO_rel {G : Cx} {fr : Fr} {a : Act} (h : FR G fr a) (x : Operand) : rel G (evalO fr x) (a.eval x) := by
  cases x with
  | tmp t => exact h.2 t
  | const v => exact lit_rel G v
  | global g => exact .d (.other _ rfl)
  | func f => exact .fn _ [] [] rfl (fun i x v h => by simp at h)
theorem FR_mono {G G' : Cx} (h : G.le G') {fr : Fr} {a : Act} (r : FR G fr a) : FR G' fr a := ⟨r.1, fun t => rel_mono h (r.2 t)⟩
def putF (fr : Fr) (dst : Option Tmp) (x : V) : Fr := match dst with | some d => fr.set d x | none => fr
theorem FR_put {G : Cx} {fr : Fr} {a : Act} (h : FR G fr a) {x : V} {v : Value} (r : rel G x v) (dst : Option Tmp) : FR G (putF fr dst x) (a.put dst v) := by
  cases dst with
  | none => exact h
  | some d =>
    refine ⟨by simp [putF, Act.put, h.1], fun t => ?_⟩
    simp only [putF, Act.put, List.getD_eq_getElem?_getD, Array.getD_eq_getD_getElem?, List.getElem?_set, Array.getElem?_setIfInBounds]
    by_cases e : d = t
    · subst e
      rw [if_pos rfl, if_pos rfl]
      by_cases hl : d < fr.length
      · rw [if_pos hl, if_pos (h.1 ▸ hl)]; exact r
      · rw [if_neg hl]; exact .undef _
    · rw [if_neg e, if_neg e]
      have := h.2 t
      simpa only [List.getD_eq_getElem?_getD, Array.getD_eq_getD_getElem?] using this

/-- One cell. -/
def V.one : V → Bool
  | .undef => false
  | .skip => false
  | .agg _ => false
  | .tuple _ => false
  | _ => true
theorem one_rel {G : Cx} {x : V} {v : Value} (r : rel G x v) (h : x.one = true) : v.oneCell' = true := by
  cases r with
  | undef v => simp [V.one] at h
  | skip => simp [V.one] at h
  | d q => cases q <;> first | rfl | assumption
  | agg cs vs _ _ => simp [V.one] at h
  | tuple cs vs _ _ => simp [V.one] at h
  | own t es v q => cases q <;> rfl
  | gr k n v h1 => exact h1
  | gp k n i off v h1 => exact h1
  | adr k v b _ _ q => rcases q with rfl | rfl <;> rfl
  | gs k n off len v h1 => exact h1
  | _ => rfl
def V.cells? : V → Option (List V)
  | .agg cs => some cs
  | x => if x.one then some [x] else none
theorem cells_one {v : Value} (h : v.oneCell' = true) : v.cells = #[v] := by cases v <;> first | rfl | (simp [Value.oneCell'] at h)
theorem cells_rel {G : Cx} {x : V} {v : Value} {cs : List V} (r : rel G x v) (h : x.cells? = some cs) : rels G cs v.cells.toList := by
  cases x with
  | agg c =>
    simp only [V.cells?] at h
    injection h with h; subst h
    cases r with
    | agg _ vs hl hr => exact ⟨hl, hr⟩
  | _ =>
    simp only [V.cells?] at h
    split at h
    · rename_i ho
      injection h with h; subst h
      rw [cells_one (one_rel r ho)]
      exact rels_cons r (rels_nil G)
    · cases h

/-- As data: a list as what it holds. -/
def V.data? : V → Option D
  | .d x => some x
  | .own _ es => some (.list es)
  | .full es => some (.list es)
  | .nil => some (.list [])
  | .fn f [] => some (.other (.func (.func f) #[] #[]))
  | _ => none
theorem data_rel {G : Cx} {x : V} {v : Value} {y : D} (r : rel G x v) (h : x.data? = some y) : relD G.F y v := by
  cases r with
  | d q => simp only [V.data?] at h; injection h with h; subst h; exact q
  | own t es v q => simp only [V.data?] at h; injection h with h; subst h; exact q
  | full es A q => simp only [V.data?] at h; injection h with h; subst h; exact q
  | nil => simp only [V.data?] at h; injection h with h; subst h; exact .nil _ _
  | fn f cs vs hl hr =>
    cases cs with
    | nil =>
      simp only [V.data?] at h; injection h with h; subst h
      have : vs = [] := List.eq_nil_of_length_eq_zero hl.symm
      subst this; exact .other _ rfl
    | cons => simp [V.data?] at h
  | _ => simp [V.data?] at h
def V.list? (x : V) : Option (List (List D)) := match x.data? with | some (.list es) => some es | some (.other (.slice _ 0 _)) => some [] | _ => none
theorem list_rel {G : Cx} {x : V} {v : Value} {es : List (List D)} (r : rel G x v) (h : x.list? = some es) : relD G.F (.list es) v := by
  unfold V.list? at h
  split at h
  · rename_i es' h'
    injection h with h; subst h
    exact data_rel r h'
  · rename_i A c h'
    injection h with h; subst h
    have := data_rel r h'
    cases this
    exact .nil _ _
  · cases h

def intBin (op : BinOp) (k : IntKind) (a b : Int) : Option D :=
  match op with
  | .add => some (.int k (k.wrap (a + b)))
  | .sub => some (.int k (k.wrap (a - b)))
  | .mul => some (.int k (k.wrap (a * b)))
  | .quo => if b = 0 then none else some (.int k (k.wrap (a.tdiv b)))
  | .rem => if b = 0 then none else some (.int k (a.tmod b))
  | .and => some (.int k (k.wrap (BitVec.ofInt k.bits a &&& BitVec.ofInt k.bits b).toNat))
  | .or => some (.int k (k.wrap (BitVec.ofInt k.bits a ||| BitVec.ofInt k.bits b).toNat))
  | .xor => some (.int k (k.wrap (BitVec.ofInt k.bits a ^^^ BitVec.ofInt k.bits b).toNat))
  | .andNot => some (.int k (k.wrap (BitVec.ofInt k.bits a &&& ~~~BitVec.ofInt k.bits b).toNat))
  | .eql => some (.bool (a == b))
  | .neq => some (.bool (a != b))
  | .lss => some (.bool (decide (a < b)))
  | .leq => some (.bool (decide (a ≤ b)))
  | .gtr => some (.bool (decide (a > b)))
  | .geq => some (.bool (decide (a ≥ b)))
  | .shl => none
  | .shr => none
def shiftBin (op : BinOp) (k : IntKind) (a b : Int) : Option D :=
  if b < 0 then none else
  match op with
  | .shl => some (.int k (k.wrap (a * 2 ^ (min b.toNat k.bits))))
  | .shr => some (.int k (a.fdiv (2 ^ (min b.toNat k.bits))))
  | _ => none
def strBin (op : BinOp) (a b : List UInt8) : Option D :=
  match op with
  | .add => if a.length + b.length ≤ 9223372036854775807 then some (.str (a ++ b)) else none
  | .eql => some (.bool (a == b))
  | .neq => some (.bool (!(a == b)))
  | .lss => some (.bool (Op.bytesLess a b))
  | .leq => some (.bool (Op.bytesLess a b || a == b))
  | .gtr => some (.bool (!(Op.bytesLess a b || a == b)))
  | .geq => some (.bool (!(Op.bytesLess a b)))
  | _ => none
def binD (op : BinOp) (x y : D) : Option D :=
  match x, y with
  | .int k a, .int k' b =>
    match op with
    | .shl => shiftBin .shl k a b
    | .shr => shiftBin .shr k a b
    | _ => if k = k' then intBin op k a b else none
  | .str a, .str b => strBin op a b
  | _, _ => none

theorem binD_ok {P : Program} {F : Nat → Nat → Value → Prop} {op : BinOp} {t : TypeId} {xo yo : Operand} {x y z : D} {v u : Value} (hx : relD F x v) (hy : relD F y u) (h : binD op x y = some z) (w : World) :
    ∃ r, ((do eqGuard op t xo yo v u; binOp op t v u) : Sem Value).run P w = .ok r w ∧ relD F z r := by
  cases hx with
  | int k a =>
    cases hy with
    | int k' b =>
      have hg : (eqGuard op t xo yo (.int k a) (.int k' b)).run P w = .ok () w := by
        unfold eqGuard; cases op <;> simp
      simp only [binD] at h
      cases op
      case shl =>
        simp only [shiftBin] at h
        split at h
        · cases h
        · rename_i hn; injection h with h; subst h; exact ⟨_, by simp [hg, binOp, Op.shift, hn], .int _ _⟩
      case shr =>
        simp only [shiftBin] at h
        split at h
        · cases h
        · rename_i hn; injection h with h; subst h; exact ⟨_, by simp [hg, binOp, Op.shift, hn], .int _ _⟩
      all_goals
        simp only at h
        split at h
        · rename_i hk
          subst hk
          simp only [intBin] at h
          first
            | (injection h with h; subst h; exact ⟨_, by simp only [Sem.run_bind, hg, Result.andThen_ok, binOp, ne_eq, not_true_eq_false, if_false, Op.intArith, Op.intBits, Op.intCmp]; rfl, by constructor⟩)
            | (split at h
               · cases h
               · rename_i hn; injection h with h; subst h; exact ⟨_, by simp [hg, binOp, Op.intDiv, hn]; rfl, by constructor⟩)
        · cases h
    | _ => simp [binD] at h
  | str a =>
    cases hy with
    | str b =>
      have hg : (eqGuard op t xo yo (.string ⟨a.toArray⟩) (.string ⟨b.toArray⟩)).run P w = .ok () w := by
        unfold eqGuard; cases op <;> simp
      have hl : ∀ l : List UInt8, (⟨l.toArray⟩ : ByteArray).toList = l := fun l => by rw [ByteArray.toList_eq]
      simp only [binD, strBin] at h
      cases op
      case add =>
        simp only at h
        split at h
        · rename_i hle
          injection h with h; subst h
          refine ⟨_, ?_, .str _⟩
          have hs : ¬ (((⟨a.toArray⟩ : ByteArray).size + (⟨b.toArray⟩ : ByteArray).size : Nat) : Int) > IntKind.i64.max := by
            simp only [ByteArray.size, List.size_toArray]; simp [IntKind.max, IntKind.bits]; omega
          have hap : (⟨a.toArray⟩ : ByteArray) ++ ⟨b.toArray⟩ = ⟨(a ++ b).toArray⟩ := by
            apply ByteArray.ext; simp
          simp only [Sem.run_bind, hg, Result.andThen_ok, binOp, Op.stringOp, hs, if_false, hap]
          rfl
        · cases h
      all_goals
        first
          | (simp only at h; cases h; done)
          | (injection h with h; subst h; exact ⟨_, by simp only [Sem.run_bind, hg, Result.andThen_ok, binOp, Op.stringOp, hl]; rfl, by constructor⟩)
    | _ => simp [binD] at h
  | _ => simp [binD] at h

end Go.Proofs.YtijihbegfmkceaaGreatDoor
