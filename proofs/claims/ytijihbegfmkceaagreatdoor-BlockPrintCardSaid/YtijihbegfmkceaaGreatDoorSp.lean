/-
  Rules of the walk in the shadow, for simp; loops.
-/
import Derived.Test.YtijihbegfmkceaaGreatDoorSo
namespace Go.Proofs.YtijihbegfmkceaaGreatDoor
open Go.RowKit

/-- An equation that simp does not take for a mere reduction. -/
theorem nr {α : Sort _} {a b : α} (h : a = b) : a = b := Eq.trans h (Eq.trans rfl rfl)
def condS (v : V) (a b : Prop) : Prop := match v with | .d (.bool t) => if t = true then a else b | _ => False

section
variable {P : Program} {g : Pg P} {Q : SQ} {fr : Fr} {s : Sg}
theorem SW_skip : SW g .skip Q fr s = Q .normal fr s := nr rfl
theorem SW_region {id : Nat} {ops : Array Oper} {dr : Bool} : SW g (.region id ops dr) Q fr s = regS g dr ops ops.toList fr s (Q .normal) := nr rfl
theorem SW_seq {a b : Code} : SW g (.seq a b) Q fr s = SW g a (seqQ (SW g b Q) Q) fr s := nr rfl
theorem SW_cond {c : Operand} {x y : Code} : SW g (.cond c x y) Q fr s = condS (evalO fr c) (SW g x Q fr s) (SW g y Q fr s) := by
  rw [SW]
  generalize evalO fr c = v
  cases v with
  | d x => cases x <;> rfl
  | _ => rfl
theorem SW_block {id : Nat} {c : Code} : SW g (.block id c) Q fr s = SW g c (blockQ id Q) fr s := nr rfl
theorem SW_exit {id : Nat} : SW g (.exit id) Q fr s = Q (.exit id) fr s := nr rfl
theorem SW_ret : SW g .ret Q fr s = Q .ret fr s := nr rfl
theorem regS_nil {dr : Bool} {ops : Array Oper} {K : Fr → Sg → Prop} : regS g dr ops [] fr s K = K fr s := nr rfl
theorem regS_cons {dr : Bool} {ops : Array Oper} {K : Fr → Sg → Prop} {o : Oper} {rest : List Oper} : regS g dr ops (o :: rest) fr s K = (match wantedS ops fr o with
    | none => False
    | some b => if b = true then
        match o.op with
        | .call ⟨.value f, args, tys⟩ =>
          match callS fr ⟨.value f, args, tys⟩ with
          | some (fid, xs) => if dr = true then callD g fid (xs.map V.clean) (contD (regS g dr ops rest) K fr o.dst s) else SpecS g fid xs s (contK (regS g dr ops rest) K fr o.dst)
          | none => False
        | _ =>
          match stepS g (fun k => s.obs[k]?) (fun t => s.lns[t]?) s.obs.length s.lns.length o (evalO fr) with
          | some (y, f) => regS g dr ops rest (putF fr o.dst y) (f.sg s) K
          | none => False
      else regS g dr ops rest (putF fr o.dst .skip) s K) := nr (by rw [regS]; rfl)
theorem seqQ_normal {K : Fr → Sg → Prop} : seqQ K Q .normal fr s = K fr s := nr rfl
theorem seqQ_ret {K : Fr → Sg → Prop} : seqQ K Q .ret fr s = Q .ret fr s := nr rfl
theorem seqQ_exit {K : Fr → Sg → Prop} {j : Nat} : seqQ K Q (.exit j) fr s = Q (.exit j) fr s := nr rfl
theorem blockQ_normal {id : Nat} : blockQ id Q .normal fr s = Q .normal fr s := nr rfl
theorem blockQ_ret {id : Nat} : blockQ id Q .ret fr s = Q .ret fr s := nr rfl
theorem blockQ_exit {id j : Nat} : blockQ id Q (.exit j) fr s = if j = id then Q .normal fr s else Q (.exit j) fr s := nr rfl
theorem contK_eq {F : Fr → Sg → (Fr → Sg → Prop) → Prop} {K : Fr → Sg → Prop} {dst : Option Tmp} {r : V} : contK F K fr dst r s = F (putF fr dst r) s K := nr rfl
theorem contD_eq {F : Fr → Sg → (Fr → Sg → Prop) → Prop} {K : Fr → Sg → Prop} {dst : Option Tmp} {r : V} : contD F K fr dst s r = F (putF fr dst r) s K := nr rfl
theorem SW_label {l : Nat} : SW g (.label l) Q fr s = Q .normal fr s := nr rfl
end

theorem SW_loop {P : Program} {g : Pg P} {c : Code} {Q : SQ} {fr : Fr} {s : Sg} (gh : List Gh) (L : List Nat) (I : Nat → Fr → Sg → Prop) (n : Nat) {fr0 : Fr} {s0 : Sg} (hgh : ghS gh fr s = some (fr0, s0)) (h0 : I n (maskF L fr0) s0)
    (round : ∀ m fr1 s1, I m fr1 s1 → s1.obs.length = s0.obs.length ∧ s1.lns.length = s0.lns.length ∧ SW g c (seqQ (fun fr' s' => keptOk L s0.obs.length s0.lns.length fr' s' = true ∧ ∃ m', m' < m ∧ I m' (maskF L fr') (s'.cut s0.obs.length s0.lns.length)) Q) fr1 s1) : SW g (.loop c) Q fr s :=
  ⟨gh, fr0, s0, L, I, n, hgh, h0, round⟩

def maskG (L : List Nat) : Nat → Fr → Fr
  | _, [] => []
  | i, x :: r => (if L.contains i = true then x else .undef) :: maskG L (i + 1) r
theorem maskF_eq (L : List Nat) (fr : Fr) : maskF L fr = maskG L 0 fr := by
  have key : ∀ (fr : Fr) (i : Nat), (fr.zipIdx i).map (fun p => if L.contains p.2 = true then p.1 else .undef) = maskG L i fr := by
    intro fr
    induction fr with
    | nil => intro i; rfl
    | cons x r ih => intro i; simp only [List.zipIdx_cons, List.map_cons, maskG, ih]
  exact key fr 0
def keptG (L : List Nat) (n m : Nat) : Nat → Fr → Bool
  | _, [] => true
  | i, x :: r => (if L.contains i = true then x.under n m else true) && keptG L n m (i + 1) r
def allUnder (n m : Nat) : List (List V) → Bool
  | [] => true
  | cs :: r => V.unders n m cs && allUnder n m r
theorem keptOk_eq (L : List Nat) (n m : Nat) (fr : Fr) (s : Sg) : keptOk L n m fr s = (keptG L n m 0 fr && allUnder n m (s.obs.take n)) := by
  have key : ∀ (fr : Fr) (i : Nat), ((fr.zipIdx i).all fun p => !L.contains p.2 || p.1.under n m) = keptG L n m i fr := by
    intro fr
    induction fr with
    | nil => intro i; rfl
    | cons x r ih => intro i; simp only [List.zipIdx_cons, List.all_cons, keptG, ih]; cases L.contains i <;> simp
  have key2 : ∀ l : List (List V), (l.all fun cs => V.unders n m cs) = allUnder n m l := by
    intro l
    induction l with
    | nil => rfl
    | cons x r ih => simp only [List.all_cons, allUnder, ih]
  unfold keptOk
  rw [key fr 0, key2]

theorem SpecS.by {P : Program} {g : Pg P} {f : FuncId} {args : List V} {s : Sg} {R : V → Sg → Prop} {r : V} {args' : List V} (h : Spec g f args' r) (ha : args.map V.clean = args') (hR : R r s) : SpecS g f args s R := Spec.toS (by rw [ha]; exact h) hR
theorem Spec.by {P : Program} {g : Pg P} {f : FuncId} {args : List V} {K : V → Prop} {r : V} {args' : List V} (h : Spec g f args' r) (ha : args = args') (hK : K r) : callD g f args K := ⟨r, by rw [ha]; exact h, hK⟩
theorem SpecS.imp {P : Program} {g : Pg P} {f : FuncId} {args : List V} {s : Sg} {R R' : V → Sg → Prop} (h : SpecS g f args s R) (hi : ∀ y s', R y s' → R' y s') : SpecS g f args s R' := by
  refine ⟨h.1, fun w0 w G vs hH hr => (h.2 w0 w G vs hH hr).mono ?_⟩
  rintro e w' ⟨v, y, s', G', h1, h2, h3, h4, h5⟩
  exact ⟨v, y, s', G', h1, h2, h3, h4, hi _ _ h5⟩
@[simp] theorem natCast_succ_neg (j : Nat) : ((j : Int) + 1 < 0) = False := by simp; omega
@[simp] theorem natCast_neg (j : Nat) : ((j : Int) < 0) = False := by simp
@[simp] theorem wrap_succ (j : Nat) (h : j < 9223372036854775807) : IntKind.i64.wrap ((j : Int) + 1) = (j : Int) + 1 := IntWalk.i64_in _ (by omega)

end Go.Proofs.YtijihbegfmkceaaGreatDoor
