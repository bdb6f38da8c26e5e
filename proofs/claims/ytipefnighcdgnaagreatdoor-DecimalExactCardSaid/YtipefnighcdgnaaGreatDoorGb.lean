import Derived.Test.YtipefnighcdgnaaGreatDoorGa
namespace Go.Proofs.YtipefnighcdgnaaGreatDoor
open Go.RowKit
set_option linter.unusedVariables false
def optK {α : Type} (x : Option α) (f : α → Prop) : Prop := match x with | some v => f v | none => False
def contV (F : Fr → Sg → (Fr → Sg → Prop) → Prop) (K : Fr → Sg → Prop) (fr : Fr) (dst : Option Tmp) (s : Sg) (v : V) : Prop := F (putF fr dst v) s K
def contE (F : Fr → Sg → (Fr → Sg → Prop) → Prop) (K : Fr → Sg → Prop) (fr : Fr) (dst : Option Tmp) (s : Sg) (p : V × Ef) : Prop := F (putF fr dst p.1) (p.2.sg s) K
def kS {P : Program} (g : Pg P) (s : Sg) (R : V → Sg → Prop) (fid : FuncId) (xs : List V) : Prop := SpecS g fid xs s R
def kD {P : Program} (g : Pg P) (R : V → Prop) (fid : FuncId) (xs : List V) : Prop := callD g fid (xs.map V.cleanF) R
def callF (f : V) (xs : List V) (c : FuncId → List V → Prop) : Prop := match f with | .fn fid caps => c fid (xs ++ caps) | _ => False
def pickV (c a b : V) : Option V := match c with | .d (.bool t) => some (if t then a else b) | _ => none
def nilV (x : V) : Option V := match x with | .ptr k off => some (.ptr k off) | .iptr cs off => some (.iptr cs off) | _ => none
def allocV (z : Option V) (k : Nat) : Option (V × Ef) := match z with | some z => (match z.cells? with | some cs => some (.ptr k 0, .alloc cs) | none => none) | none => none
def loadV (P : Program) (s : Sg) (ty : TypeId) (a : V) : Option V := match a with
  | .ptr j off => match s.obs[j]? with | some cs => partV P ty cs off | none => none
  | .iptr cs off => partV P ty (dcells cs) off
  | .d (.other (.pointer (some ⟨b, off, none⟩))) => match glT b with | some cs => partV P ty (dcells cs) off | none => none
  | _ => none
def storeV (P : Program) (s : Sg) (ty : TypeId) (a x : V) : Option (V × Ef) := match a with
  | .ptr j off => match s.obs[j]?, x.cells?, sizeT P ty with
   | some cs, some xs, some n => if xs.length = n ∧ off + n ≤ cs.length ∧ xs.all V.one = true then some (.undef, .store j (splice cs off xs)) else none
   | _, _, _ => none
  | _ => none
def aggEq (k : Option (List SK)) (x y : Option (List D)) (eq : Bool) : Option V := match k, x, y with
  | some ks, some ds, some es => if ds.map D.kind? = ks.map some ∧ es.map D.kind? = ks.map some then some (.d (.bool (if eq then eqAll ds es else !(eqAll ds es)))) else none
  | _, _, _ => none
def convB (b : Bool) (x : Option V) : Option V := if b = true then x else none
def binW {P : Program} (g : Pg P) (op : BinOp) (t : TypeId) (x y : V) : Option V :=
 match (if sliceT P t = true then
   match y, op with
   | .nil, .eql => match nilB x with | some b => some (.d (.bool b)) | none => none
   | .nil, .neq => match nilB x with | some b => some (.d (.bool (!b))) | none => none
   | _, _ => none
  else none) with
 | some z => some z
 | none => binV g op t x y
def convW (P : Program) (a b : TypeId) (x : V) : Option V :=
 match (match x with
  | .d (.str s) => if bytesT P b = true ∧ (P.underlying a).isSome = true then some (.d (.list (s.map fun b => [.int .u8 b.toNat]))) else none
  | .d (.int _ n) => if strT P b = true ∧ (P.underlying a).isSome = true then some (.d (.str (Utf8.encode n).data.toList)) else none
  | _ => none) with
 | some z => some z
 | none => convB (P.underlying a).isSome (convV P b x)
def toE (x : Option V) : Option (V × Ef) := match x with | some y => some (y, .none) | none => none
section
variable {P : Program} {g : Pg P} {dr : Bool} {ops : Array Oper} {rest : List Oper} {fr : Fr} {s : Sg} {K : Fr → Sg → Prop} {d : Option Tmp} {ty : TypeId} {p : String} {af : Array Edge}
theorem optK_toE {F : Fr → Sg → (Fr → Sg → Prop) → Prop} (x : Option V) : (match toE x with | some (y, f) => F (putF fr d y) (f.sg s) K | none => False) = optK x (contV F K fr d s) := by cases x <;> rfl
theorem optK_E {F : Fr → Sg → (Fr → Sg → Prop) → Prop} (x : Option (V × Ef)) : (match x with | some (y, f) => F (putF fr d y) (f.sg s) K | none => False) = optK x (contE F K fr d s) := by rcases x with _ | ⟨y, f⟩ <;> rfl
theorem optK_W {F : Fr → Sg → (Fr → Sg → Prop) → Prop} (e z : Option V) : (match (match e with | some y => some (y, Ef.none) | none => toE z) with | some (y, f) => F (putF fr d y) (f.sg s) K | none => False) = optK (match e with | some y => some y | none => z) (contV F K fr d s) := by cases e <;> cases z <;> rfl
theorem r_move {x : Operand} : regS g dr ops (⟨d, .move x, ty, p, af, none⟩ :: rest) fr s K = regS g dr ops rest (putF fr d (evalO fr x)) s K := nr rfl
theorem r_assign {x : Operand} : regS g dr ops (⟨d, .assign x, ty, p, af, none⟩ :: rest) fr s K = regS g dr ops rest (putF fr d (evalO fr x)) s K := nr rfl
theorem r_pick {c a b : Operand} : regS g dr ops (⟨d, .pick c a b, ty, p, af, none⟩ :: rest) fr s K = optK (pickV (evalO fr c) (evalO fr a) (evalO fr b)) (contV (regS g dr ops rest) K fr d s) := optK_toE _
theorem r_build {t : TypeId} {parts : Array (Nat × Operand)} : regS g dr ops (⟨d, .build t parts, ty, p, af, none⟩ :: rest) fr s K = optK (buildV P t (parts.toList.map fun q => (q.1, evalO fr q.2))) (contV (regS g dr ops rest) K fr d s) := optK_toE _
theorem r_nilCheck {x : Operand} : regS g dr ops (⟨d, .nilCheck x, ty, p, af, none⟩ :: rest) fr s K = optK (nilV (evalO fr x)) (contV (regS g dr ops rest) K fr d s) := optK_toE _
theorem r_binOp {o : BinOp} {t t' : TypeId} {x y : Operand} : regS g dr ops (⟨d, .binOp o t x y t', ty, p, af, none⟩ :: rest) fr s K = optK (binW g o t (evalO fr x) (evalO fr y)) (contV (regS g dr ops rest) K fr d s) := optK_W _ _
theorem r_unOp {o : UnOp} {t : TypeId} {x : Operand} : regS g dr ops (⟨d, .unOp o t x, ty, p, af, none⟩ :: rest) fr s K = optK (unV o (evalO fr x)) (contV (regS g dr ops rest) K fr d s) := optK_toE _
theorem r_convert {a b : TypeId} {x : Operand} : regS g dr ops (⟨d, .convert a b x, ty, p, af, none⟩ :: rest) fr s K = optK (convW P a b (evalO fr x)) (contV (regS g dr ops rest) K fr d s) := optK_W _ _
theorem r_makeFunc {f : FuncId} {cap : Array Operand} : regS g dr ops (⟨d, .makeFunc (.func f) #[] cap, ty, p, af, none⟩ :: rest) fr s K = regS g dr ops rest (putF fr d (.fn f (cap.toList.map (evalO fr)))) s K := nr rfl
theorem r_slice {t : TypeId} {x : Operand} {lo hi mx : Option Operand} : regS g dr ops (⟨d, .slice t x lo hi mx, ty, p, af, none⟩ :: rest) fr s K = optK (sliceV P t (evalO fr x) (lo.map (evalO fr)) (hi.map (evalO fr)) (mx.map (evalO fr))) (contV (regS g dr ops rest) K fr d s) := optK_toE _
theorem r_fieldAddr {t : TypeId} {x : Operand} {f : Nat} : regS g dr ops (⟨d, .fieldAddr t x f, ty, p, af, none⟩ :: rest) fr s K = optK (fieldAddrV P t (evalO fr x) f) (contV (regS g dr ops rest) K fr d s) := optK_toE _
theorem r_field {t : TypeId} {x : Operand} {f : Nat} : regS g dr ops (⟨d, .field t x f, ty, p, af, none⟩ :: rest) fr s K = optK (fieldV P t (evalO fr x) f) (contV (regS g dr ops rest) K fr d s) := optK_toE _
theorem r_indexAddr {t : TypeId} {x i : Operand} : regS g dr ops (⟨d, .indexAddr t x i, ty, p, af, none⟩ :: rest) fr s K = optK (indexAddrV P t (evalO fr x) (evalO fr i)) (contV (regS g dr ops rest) K fr d s) := optK_toE _
theorem r_index {t : TypeId} {x i : Operand} : regS g dr ops (⟨d, .index t x i, ty, p, af, none⟩ :: rest) fr s K = optK (indexV P t (evalO fr x) (evalO fr i)) (contV (regS g dr ops rest) K fr d s) := optK_toE _
theorem r_extract {x : Operand} {i : Nat} : regS g dr ops (⟨d, .extract x i, ty, p, af, none⟩ :: rest) fr s K = optK (extractV (evalO fr x) i) (contV (regS g dr ops rest) K fr d s) := optK_toE _
theorem r_alloc {e : TypeId} : regS g dr ops (⟨d, .alloc e, ty, p, af, none⟩ :: rest) fr s K = optK (allocV (zeroV P e) s.obs.length) (contE (regS g dr ops rest) K fr d s) := optK_E _
theorem r_box {e : TypeId} {x : Operand} : regS g dr ops (⟨d, .box e x, ty, p, af, none⟩ :: rest) fr s K = optK (allocV (some (evalO fr x)) s.obs.length) (contE (regS g dr ops rest) K fr d s) := optK_E _
theorem step_load {t : TypeId} {a : Operand} : stepS g (fun k => s.obs[k]?) (fun t => s.lns[t]?) s.obs.length s.lns.length ⟨d, .load t a, ty, p, af, none⟩ (evalO fr) = toE (loadV P s t (evalO fr a)) := by
 simp only [stepS, extS, stepS0, loadV]
 generalize evalO fr a = z
 split
 ·rename_i j off
  dsimp only
  cases s.obs[j]? with
  | none => rfl
  | some cs => rfl
 ·rfl
 ·rename_i b off
  dsimp only
  cases glT b with
  | none => rfl
  | some cs => rfl
 ·split <;> simp_all [toE]
theorem r_load {t : TypeId} {a : Operand} : regS g dr ops (⟨d, .load t a, ty, p, af, none⟩ :: rest) fr s K = optK (loadV P s t (evalO fr a)) (contV (regS g dr ops rest) K fr d s) := by
 refine Eq.trans ?_ (optK_toE _)
 rw [← step_load (g := g) (d := d) (ty := ty) (p := p) (af := af)]
 rfl
theorem r_store {t : TypeId} {a x : Operand} : regS g dr ops (⟨d, .store t a x, ty, p, af, none⟩ :: rest) fr s K = optK (storeV P s t (evalO fr a) (evalO fr x)) (contE (regS g dr ops rest) K fr d s) := optK_E _
theorem r_buildSlice {t : TypeId} {n : Nat} {parts : Array (Nat × Operand)} : regS g dr ops (⟨d, .buildSlice t n parts, ty, p, af, none⟩ :: rest) fr s K = optK (rowV P t n s.obs.length (parts.toList.map fun q => (q.1, evalO fr q.2))) (contE (regS g dr ops rest) K fr d s) := optK_E _
theorem r_append {x y : Operand} {t : TypeId} : regS g dr ops (⟨d, .call ⟨.builtin .append, #[x, y], #[t, t]⟩, ty, p, af, none⟩ :: rest) fr s K = optK (match extA P [t, t] [evalO fr x, evalO fr y] with | some v => some (v, Ef.none) | none => appV P (fun t => s.lns[t]?) s.lns.length t (evalO fr x) (evalO fr y)) (contE (regS g dr ops rest) K fr d s) := by
 refine Eq.trans ?_ (optK_E _)
 show (match (match extA P [t, t] [evalO fr x, evalO fr y] with | some v => some (v, Ef.none) | none => if t = t then appV P (fun t => s.lns[t]?) s.lns.length t (evalO fr x) (evalO fr y) else none) with | some (y, f) => _ | none => False) = _
 rw [if_pos rfl]
theorem r_len {x : Operand} {t : TypeId} : regS g dr ops (⟨d, .call ⟨.builtin .len, #[x], #[t]⟩, ty, p, af, none⟩ :: rest) fr s K = optK (lenV P t (evalO fr x)) (contV (regS g dr ops rest) K fr d s) := optK_toE _
theorem r_max {args : Array Operand} {tys : Array TypeId} : regS g dr ops (⟨d, .call ⟨.builtin .max, args, tys⟩, ty, p, af, none⟩ :: rest) fr s K = optK (mmV true (args.toList.map (evalO fr))) (contV (regS g dr ops rest) K fr d s) := by
 refine Eq.trans ?_ ((optK_W (F := regS g dr ops rest) (mmV true (args.toList.map (evalO fr))) none).trans (by cases mmV true (args.toList.map (evalO fr)) <;> rfl))
 rfl
theorem r_min {args : Array Operand} {tys : Array TypeId} : regS g dr ops (⟨d, .call ⟨.builtin .min, args, tys⟩, ty, p, af, none⟩ :: rest) fr s K = optK (mmV false (args.toList.map (evalO fr))) (contV (regS g dr ops rest) K fr d s) := by
 refine Eq.trans ?_ ((optK_W (F := regS g dr ops rest) (mmV false (args.toList.map (evalO fr))) none).trans (by cases mmV false (args.toList.map (evalO fr)) <;> rfl))
 rfl
theorem r_call {f : Operand} {args : Array Operand} {tys : Array TypeId} : regS g false ops (⟨d, .call ⟨.value f, args, tys⟩, ty, p, af, none⟩ :: rest) fr s K = callF (evalO fr f) (args.toList.map (evalO fr)) (kS g s (contK (regS g false ops rest) K fr d)) := by
 show (match callS fr ⟨.value f, args, tys⟩ with | some (fid, xs) => _ | none => False) = _
 simp only [callS, callF, kS]
 cases evalO fr f <;> rfl
theorem r_callD {f : Operand} {args : Array Operand} {tys : Array TypeId} : regS g true ops (⟨d, .call ⟨.value f, args, tys⟩, ty, p, af, none⟩ :: rest) fr s K = callF (evalO fr f) (args.toList.map (evalO fr)) (kD g (contD (regS g true ops rest) K fr d s)) := by
 show (match callS fr ⟨.value f, args, tys⟩ with | some (fid, xs) => _ | none => False) = _
 simp only [callS, callF, kD]
 cases evalO fr f <;> rfl
theorem r_guard {o : Op} {j : Nat} {w : Bool} : regS g dr ops (⟨d, o, ty, p, af, some (j, w)⟩ :: rest) fr s K =
  (if wantedS ops fr ⟨d, o, ty, p, af, some (j, w)⟩ = some true then regS g dr ops (⟨d, o, ty, p, af, none⟩ :: rest) fr s K else if wantedS ops fr ⟨d, o, ty, p, af, some (j, w)⟩ = some false then regS g dr ops rest (putF fr d .skip) s K else False) := by
 simp only [regS]
 generalize wantedS ops fr ⟨d, o, ty, p, af, some (j, w)⟩ = z
 rcases z with _ | _ | _
 ·simp
 ·simp
 ·simp [wantedS]; rfl
theorem w_guard {o : Op} {j : Nat} {w : Bool} : wantedS ops fr ⟨d, o, ty, p, af, some (j, w)⟩ = (match (ops.toList[j]?).bind (·.dst) with | some t => (match fr.getD t .undef with | .d (.bool b) => some (b == w) | .skip => some false | _ => none) | none => some false) := by
 simp only [wantedS, Array.getElem?_toList]
 rfl
end
end Go.Proofs.YtipefnighcdgnaaGreatDoor
