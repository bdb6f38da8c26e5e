/-
  Gd, Ge, Gf in one text.
-/
import Derived.Test.YtjgngikiglhleaaGreatDoorGc
import Derived.Test.YtjgngikiglhleaaGreatDoorSr
import Derived.Test.YtjgngikiglhleaaGreatDoorSx
namespace Go.Proofs.YtjgngikiglhleaaGreatDoor
open Go.RowKit
def eInt (k : IntKind) (n : Int) : List D := [.int k n]
def eBool (b : Bool) : List D := [.bool b]
def eStr (s : List UInt8) : List D := [.str s]
def eList {α : Type} (f : α → List D) (l : List α) : List D := [.list (List.map f l)]
theorem al_eInt {k : IntKind} {l : List Int} : (List.map (eInt k) l).all (fun x=>x.length == 1) = true := by simp [List.all_eq_true,eInt]
theorem al_eStr {l : List (List UInt8)} : (List.map eStr l).all (fun x=>x.length == 1) = true := by simp [List.all_eq_true,eStr]
theorem al_eList {α : Type} {f : α → List D} {l : List (List α)} : (List.map (eList f) l).all (fun x=>x.length == 1) = true := by simp [List.all_eq_true,eList]
def okStr (a b : List UInt8) : Bool := decide (a.length + b.length ≤ 9223372036854775807)
theorem okStr_ok {a b : List UInt8} (h : okStr a b = true) : (a.length + b.length ≤ 9223372036854775807) = True := eq_true (of_decide_eq_true h)
def bytesI (s : List UInt8) : List Int := s.map fun b=>(b.toNat : Int)
theorem bytes_enc {s : List UInt8} : (s.map fun b=>[D.int .u8 (b.toNat : Int)]) = List.map (eInt .u8) (bytesI s) := by simp [bytesI,eInt,Function.comp_def]
def runeS (n : Int) : List UInt8 := (Utf8.encode n).data.toList
theorem rune_enc {n : Int} : (Utf8.encode n).data.toList = runeS n := rfl
theorem Spec.nilcase {P : Program} {g : Pg P} {f : FuncId} {r : V} (h : ∀ A c,Spec g f [.d (.other (.slice A 0 c))] r) : Spec g f [.d (.list [])] r := by
 refine ⟨(h none 0).1,fun w F vs hF hgl hr=>?_⟩
 cases vs with
 | nil=>have := hr.1; simp at this
 | cons v us =>
  have hl : us = [] := by have := hr.1; simp at this; exact this
  subst hl
  obtain ⟨h1,_⟩ := rels_cons_inv hr
  cases h1 with
  | d q =>
   generalize hd : D.list [] = D0 at q
   cases q with
   | nil A c=>exact (h A c).2 w F _ hF hgl (rels_cons (.d (.other _ rfl)) (rels_nil _))
   | list es b off c sz u hne=>cases hd; simp at hne
   | _=>cases hd
theorem ne_of_beq_false {a b : Int} (h : (a == b) = false) : a ≠ b := by simpa using h
end Go.Proofs.YtjgngikiglhleaaGreatDoor
namespace Go.Proofs.YtjgngikiglhleaaGreatDoor
open Go.RowKit
section
variable {P : Program} {g : Pg P} {fr : Fr} {s : Sg} {ε : Type} {Φ : ε → SQ} {m : Option ε}
theorem Mir.regionW {id : Nat} {ops : Array Oper} (h : ∀ e,m = some e → regW g ops ops.toList fr s (Φ e .normal)) : Mir g (.region id ops false) fr s m Φ := fun e he=>SWs.regionW (h e he)
theorem w_none {ops : Array Oper} {d : Option Tmp} {op : Op} {ty : TypeId} {p : String} {af : Array Edge} : wantedS ops fr ⟨d,op,ty,p,af,none⟩ = some true := nr rfl
theorem w_eq : ((some true : Option Bool) = some true) = True := eq_true rfl
end
def mget {β : Type} : List (Int × β) → Int → Option β
 | [],_=>none
 | (k,v) :: r,n=>if n == k then some v else mget r n
def mput {β : Type} : List (Int × β) → Int → β → List (Int × β)
 | [],n,v=>[(n,v)]
 | (k,u) :: r,n,v=>if n == k then (k,v) :: r else (k,u) :: mput r n v
def ekv {β : Type} (ev : β → D) (p : Int × β) : Int × D := (p.1,ev p.2)
def evB (b : Bool) : D := .bool b
def evI (k : IntKind) (n : Int) : D := .int k n
def evL {β : Type} (en : β → List D) (l : List β) : D := .list (List.map en l)
theorem mapGet_kv {β : Type} {ev : β → D} {n : Int} : ∀ {l : List (Int × β)},mapGet (List.map (ekv ev) l) n = (mget l n).map ev
 | []=>rfl
 | (k,v) :: r=>by
  simp only [List.map_cons,ekv,mapGet,mget]
  split
  ·rfl
  ·exact mapGet_kv
theorem mapPut_cons {k n : Int} {u v : D} {r : List (Int × D)} : mapPut ((k,u) :: r) n v = if n = k then (k,v) :: r else (k,u) :: mapPut r n v := by simp [mapPut]
theorem mapPut_kv {β : Type} {ev : β → D} {n : Int} {v : β} : ∀ {l : List (Int × β)},mapPut (List.map (ekv ev) l) n (ev v) = List.map (ekv ev) (mput l n v)
 | []=>rfl
 | (k,u) :: r=>by
  have ih := mapPut_kv (ev := ev) (n := n) (v := v) (l := r)
  show mapPut ((k,ev u) :: List.map (ekv ev) r) n (ev v) = _
  rw [mapPut_cons,ih]
  by_cases h : n = k
  ·subst h; simp [mput,ekv]
  ·rw [if_neg h]
   have : mput ((k,u) :: r) n v = (k,u) :: mput r n v := by simp [mput,h]
   rw [this]; rfl
theorem mg_B {l : List (Int × Bool)} {n : Int} {z : Bool} : (mapGet (List.map (ekv evB) l) n).getD (.bool z) = .bool ((mget l n).getD z) := by rw [mapGet_kv]; cases mget l n <;> rfl
theorem mg_I {k : IntKind} {l : List (Int × Int)} {n z : Int} : (mapGet (List.map (ekv (evI k)) l) n).getD (.int k z) = .int k ((mget l n).getD z) := by rw [mapGet_kv]; cases mget l n <;> rfl
theorem mg_L {β : Type} {en : β → List D} {l : List (Int × List β)} {n : Int} : (mapGet (List.map (ekv (evL en)) l) n).getD (.list []) = .list (List.map en ((mget l n).getD [])) := by rw [mapGet_kv]; cases mget l n <;> rfl
theorem mp_B {l : List (Int × Bool)} {n : Int} {v : Bool} : mapPut (List.map (ekv evB) l) n (.bool v) = List.map (ekv evB) (mput l n v) := mapPut_kv (ev := evB)
theorem mp_I {k : IntKind} {l : List (Int × Int)} {n v : Int} : mapPut (List.map (ekv (evI k)) l) n (.int k v) = List.map (ekv (evI k)) (mput l n v) := mapPut_kv (ev := evI k)
theorem mp_L {β : Type} {en : β → List D} {l : List (Int × List β)} {n : Int} {v : List β} : mapPut (List.map (ekv (evL en)) l) n (.list (List.map en v)) = List.map (ekv (evL en)) (mput l n v) := mapPut_kv (ev := evL en)
end Go.Proofs.YtjgngikiglhleaaGreatDoor
namespace Go.Proofs.YtjgngikiglhleaaGreatDoor
open Go.RowKit
section
variable {P : Program} {g : Pg P} {fr : Fr} {s : Sg} {ε : Type} {Φ : ε → SQ} {m : Option ε}
theorem Mir.frz {c : Code} (k : Nat) {ver : Nat} {e : TypeId} {es : List (List D)} (ho : s.obs[k]? = some [.rowc e ver es]) (h : Mir g c (fr.map (V.fz k ver es)) ⟨(s.obs.map (V.fzs k ver es)).set k [.rowc e (ver + 1) []],s.lns⟩ m Φ) : Mir g c fr s m Φ := fun e he=>SWs.frz k ho (h e he)
theorem Mir.regionT {id : Nat} {ops : Array Oper} (n : Nat) (L : List (Tmp × Tmp)) (hL : (tailOk ops n,headOk ops n,drawOk (headA ops n),seps (headA ops n)) = (true,true,true,L)) (h : ∀ e,m = some e → regS g true ops (ops.toList.take n) fr s (fun fr' s'=>sepL L fr' = true ∧ regW g ops (ops.toList.drop n) fr' s' (Φ e .normal))) : Mir g (.region id ops true) fr s m Φ := fun e he=>SWs.regionT n L hL (h e he)
end
def fnY {P : Program} (g : Pg P) (rs : List ResultVar) (e : TypeId) {ρ : Type} (en : ρ → List (List D)) (r : ρ) : SQ := retQ g rs (fun y s'=>YRes s' y e (en r))
section
variable {P : Program} {g : Pg P} {fr : Fr} {s : Sg}
theorem specY_mir {f : FuncId} {fn : Func} {c : Code} (hf : P.funcs[f]? = some fn) (hb : fn.body = some c) (he : enterable P f = true) (hdr : drawsOk c = true) {args : List V} {e : TypeId} {ρ : Type} (en : ρ → List (List D)) {m : Option ρ} {y : ρ} (hes : scalE (en y) = true)
  (h : Mir g c (args ++ List.replicate (fn.ntmps - args.length) .undef) ⟨[],[]⟩ m (fnY g fn.results.toList e en)) (hy : m = some y) : SpecY g f args e (en y) := specY_by hf hb he hdr hes (h y hy)
theorem fy_r {rs : List ResultVar} {e : TypeId} {ρ : Type} {en : ρ → List (List D)} {r : ρ} : fnY g rs e en r .ret fr s = (match resV g rs fr s with | some y=>YRes s y e (en r) | none=>False) := nr rfl
theorem fy_n {rs : List ResultVar} {e : TypeId} {ρ : Type} {en : ρ → List (List D)} {r : ρ} : fnY g rs e en r .normal fr s = (match resV g rs fr s with | some y=>YRes s y e (en r) | none=>False) := nr rfl
theorem yr_o {t : Nat} {es' es : List (List D)} {e : TypeId} : YRes s (.own t es') e es = (es' = es ∧ s.lns[t]? = some (e,es.length)) := nr rfl
theorem yr_n {es : List (List D)} {e : TypeId} : YRes s .nil e es = (es = []) := nr rfl
theorem SpecY.nilcase {f : FuncId} {e : TypeId} {es : List (List D)} (h : ∀ (A : Option Addr) (c : Nat),SpecY g f [.d (.other (.slice A 0 c))] e es) : SpecY g f [.d (.list [])] e es := by
 refine ⟨(h none 0).1,fun w F vs hF hgl hr=>?_⟩
 match vs,hr with
 | [v],hr =>
  obtain ⟨r,_⟩ := rels_cons_inv hr
  cases r with
  | d q =>
   cases q with
   | nil A c=>exact (h A c).2 w F _ hF hgl (rels_cons (.d (.other _ rfl)) (rels_nil _))
   | list _ _ _ _ _ _ hne=>simp at hne
 | [],hr=>have := hr.1; simp at this
 | _ :: _ :: _,hr=>have := hr.1; simp at this
end
theorem Mir.no {P : Program} {g : Pg P} {fr : Fr} {s : Sg} {ε : Type} {Φ : ε → SQ} {c : Code} : Mir g c fr s (none : Option ε) Φ := fun e h=>by cases h
theorem gsl_of {a b : Int} {n : Nat} (h : decide (0 ≤ a ∧ a ≤ b ∧ b ≤ (n : Int)) = true) : ((a < 0) = False) ∧ ((b < 0) = False) ∧ a.toNat ≤ b.toNat ∧ b.toNat ≤ n := by
 have h := of_decide_eq_true h
 exact ⟨eq_false (by omega),eq_false (by omega),by omega,by omega⟩
theorem lns_at {e : TypeId} {m n : Nat} (h : m = n) : some (e,m) = some (e,n) := by rw [h]
theorem z_d {k v : Nat} {es : List (List D)} {x : D} : V.fz k v es (.d x) = .d x := nr (by rw [V.fz] <;> simp)
theorem z_u {k v : Nat} {es : List (List D)} : V.fz k v es .undef = .undef := nr (by rw [V.fz] <;> simp)
theorem z_a {k v : Nat} {es : List (List D)} {x : List V} : V.fz k v es (.agg x) = .agg (V.fzs k v es x) := nr (by rw [V.fz])
theorem z_t {k v : Nat} {es : List (List D)} {x : List V} : V.fz k v es (.tuple x) = .tuple (V.fzs k v es x) := nr (by rw [V.fz])
theorem z_p {k v a b : Nat} {es : List (List D)} : V.fz k v es (.ptr a b) = .ptr a b := nr (by rw [V.fz] <;> simp)
theorem z_i {k v b : Nat} {es : List (List D)} {x : List D} : V.fz k v es (.iptr x b) = .iptr x b := nr (by rw [V.fz] <;> simp)
theorem z_o {k v t : Nat} {es x : List (List D)} : V.fz k v es (.own t x) = .own t x := nr (by rw [V.fz] <;> simp)
theorem z_f {k v : Nat} {es x : List (List D)} : V.fz k v es (.full x) = .full x := nr (by rw [V.fz] <;> simp)
theorem z_n {k v : Nat} {es : List (List D)} : V.fz k v es .nil = .nil := nr (by rw [V.fz] <;> simp)
theorem z_s {k v : Nat} {es : List (List D)} : V.fz k v es .skip = .skip := nr (by rw [V.fz] <;> simp)
theorem z_l {k v a b c d : Nat} {es : List (List D)} : V.fz k v es (.sl a b c d) = .sl a b c d := nr (by rw [V.fz] <;> simp)
theorem z_F {k v : Nat} {f : FuncId} {es : List (List D)} {x : List V} : V.fz k v es (.fn f x) = .fn f x := nr (by rw [V.fz] <;> simp)
theorem z_m {k v a : Nat} {es : List (List D)} : V.fz k v es (.mp a) = .mp a := nr (by rw [V.fz] <;> simp)
theorem z_g {k v j n : Nat} {es : List (List D)} : V.fz k v es (.gr j n) = if j = k ∧ n = v then .d (.list es) else .gr j n := nr (by rw [V.fz])
theorem z_q {k v a b c d : Nat} {es : List (List D)} : V.fz k v es (.gp a b c d) = .gp a b c d := nr (by rw [V.fz] <;> simp)
theorem z_1 {k v : Nat} {es : List (List D)} : V.fzs k v es [] = [] := nr (by rw [V.fzs])
theorem z_2 {k v : Nat} {es : List (List D)} {x : V} {xs : List V} : V.fzs k v es (x :: xs) = V.fz k v es x :: V.fzs k v es xs := nr (by rw [V.fzs])
theorem z_A {k v a : Nat} {es : List (List D)} : V.fz k v es (.adr a) = .adr a := nr (by rw [V.fz] <;> simp)
theorem z_G {k v a b c d : Nat} {es : List (List D)} : V.fz k v es (.gs a b c d) = if a = k ∧ b = v then (if c + d ≤ es.length then .d (.list ((es.drop c).take d)) else .undef) else .gs a b c d := nr (by rw [V.fz])
theorem z_M {k v : Nat} {ik : IntKind} {es : List (List D)} {l : List (Int × D)} : V.fz k v es (.mapc ik l) = .mapc ik l := nr (by rw [V.fz] <;> simp)
theorem z_R {k v e n : Nat} {es l : List (List D)} : V.fz k v es (.rowc e n l) = .rowc e n l := nr (by rw [V.fz] <;> simp)
theorem rmap_set {α β : Type} {f : α → β} {l : List α} {i : Nat} {a : α} : (l.set i a).map f = (l.map f).set i (f a) := by simp
theorem row_lo {i : Int} (h : (i < 0) = False) : 0 ≤ i := by simpa using h
theorem row_hi {α β : Type} {f : α → β} {l : List α} {i : Int} {e : α} (h : l[i.toNat]? = some e) (h0 : (i < 0) = False) : i < ((l.map f).length : Int) := by
 have := getElem_lt h
 have := row_lo h0
 simp; omega
theorem row_at {α : Type} {f : α → List D} {l : List α} {i : Nat} {e : α} (h : l[i]? = some e) : (l.map f)[i]? = some (f e) := by simp [h]
theorem spD {c ds : List D} {off : Nat} : spliceD c off ds = c.take off ++ ds ++ c.drop (off + ds.length) := nr rfl
theorem sc_map {α : Type} {f : α → List D} (h : ∀ x,(f x).all D.scal = true) (l : List α) : scalE (l.map f) = true := by
 simp only [scalE,List.all_map,List.all_eq_true]
 intro x _
 exact h x
theorem ok2 {a b c d : Nat} (h : okLen (a + b) = true) (h1 : c = a) (h2 : d = b) : okLen (c + d) = true := by rw [h1,h2]; exact h
theorem tk_map {α β : Type} {f : α → β} {l : List α} {n : Nat} : (l.map f).take n = (l.take n).map f := by rw [List.map_take]
theorem dr_map {α β : Type} {f : α → β} {l : List α} {n : Nat} : (l.map f).drop n = (l.drop n).map f := by rw [List.map_drop]
theorem PB : type_of% (And.intro @Bool.true_and <| And.intro @Bool.false_and <| And.intro @Bool.true_or <| And.intro @Bool.false_or <| And.intro @Bool.or_true <| And.intro @Bool.or_false <| And.intro @Bool.and_true <| And.intro @Bool.and_false <| And.intro @Bool.not_true <| @Bool.not_false) := And.intro @Bool.true_and <| And.intro @Bool.false_and <| And.intro @Bool.true_or <| And.intro @Bool.false_or <| And.intro @Bool.or_true <| And.intro @Bool.or_false <| And.intro @Bool.and_true <| And.intro @Bool.and_false <| And.intro @Bool.not_true <| @Bool.not_false
theorem SZ : type_of% (And.intro @z_d <| And.intro @z_u <| And.intro @z_a <| And.intro @z_t <| And.intro @z_p <| And.intro @z_i <| And.intro @z_o <| And.intro @z_f <| And.intro @z_n <| And.intro @z_s <| And.intro @z_l <| And.intro @z_F <| And.intro @z_m <| And.intro @z_g <| And.intro @z_q <| And.intro @z_1 <| And.intro @z_2 <| And.intro @z_A <| And.intro @z_G <| And.intro @z_M <| And.intro @z_R <| And.intro @xMC <| And.intro @xMN <| And.intro @set0 <| @setS) := And.intro @z_d <| And.intro @z_u <| And.intro @z_a <| And.intro @z_t <| And.intro @z_p <| And.intro @z_i <| And.intro @z_o <| And.intro @z_f <| And.intro @z_n <| And.intro @z_s <| And.intro @z_l <| And.intro @z_F <| And.intro @z_m <| And.intro @z_g <| And.intro @z_q <| And.intro @z_1 <| And.intro @z_2 <| And.intro @z_A <| And.intro @z_G <| And.intro @z_M <| And.intro @z_R <| And.intro @xMC <| And.intro @xMN <| And.intro @set0 <| @setS
theorem mU {P : Program} {g : Pg P} {fr : Fr} {s : Sg} {ε : Type} {Φ : ε → SQ} {m : Option ε} {c : Code} (e : ε) (h : Mir g c fr s m Φ) (hm : m = some e) : SWs g c (Φ e) fr s := h e hm
theorem Mir.sR {P : Program} {g : Pg P} {fr : Fr} {s : Sg} {ε : Type} {Φ : ε → SQ} {m : Option ε} {id : Nat} {ops : Array Oper} {k : Code} (h : ∀ e,m = some e → regS g false ops ops.toList fr s (kQ g k Φ e .normal)) : Mir g (.seq (.region id ops false) k) fr s m Φ := Mir.seqK (Mir.region h)
def us : Nat → List V
 | 0=>[]
 | n + 1=>U :: us n
theorem us_0 : us 0 = [] := nr rfl
theorem us_s {n : Nat} : us (n + 1) = U :: us n := nr rfl
theorem zNI : ((0 : Nat) : Int) = 0 := nr rfl
theorem oL (n : Nat) (h : Nat.ble n 16777216 = true := by rfl) : okLen n = true := h
theorem SE : type_of% (And.intro @SR <| And.intro @SV <| And.intro @us_0 <| @us_s) := And.intro @SR <| And.intro @SV <| And.intro @us_0 <| @us_s
theorem SF : type_of% (And.intro @SL <| And.intro @and_self <| And.intro @and_true <| And.intro @true_and <| And.intro @us_0 <| @us_s) := And.intro @SL <| And.intro @and_self <| And.intro @and_true <| And.intro @true_and <| And.intro @us_0 <| @us_s
theorem SB : type_of% (And.intro @sepL_nil <| And.intro @sepL_cons <| And.intro @sepV_ne <| And.intro @sepV_d <| And.intro @sepV_i <| @Bool.and_self) := And.intro @sepL_nil <| And.intro @sepL_cons <| And.intro @sepV_ne <| And.intro @sepV_d <| And.intro @sepV_i <| @Bool.and_self
end Go.Proofs.YtjgngikiglhleaaGreatDoor
