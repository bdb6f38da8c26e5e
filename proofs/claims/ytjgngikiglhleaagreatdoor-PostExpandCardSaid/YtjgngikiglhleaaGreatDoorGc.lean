import Derived.Test.YtjgngikiglhleaaGreatDoorGab
namespace Go.Proofs.YtjgngikiglhleaaGreatDoor
open Go.RowKit
set_option linter.unusedVariables false
def andI (k : IntKind) (a b : Int) : Int := k.wrap (BitVec.ofInt k.bits a &&& BitVec.ofInt k.bits b).toNat
def orI (k : IntKind) (a b : Int) : Int := k.wrap (BitVec.ofInt k.bits a ||| BitVec.ofInt k.bits b).toNat
def xorI (k : IntKind) (a b : Int) : Int := k.wrap (BitVec.ofInt k.bits a ^^^ BitVec.ofInt k.bits b).toNat
def shrI (k : IntKind) (a b : Int) : Int := a.fdiv (2 ^ (min b.toNat k.bits))
def shlI (k : IntKind) (a b : Int) : Int := k.wrap (a * 2 ^ (min b.toNat k.bits))
section
variable {P : Program} {g : Pg P} {fr : Fr} {s : Sg}
theorem e_tmp {t : Tmp} : evalO fr (.tmp t) = fr.getD t .undef := nr rfl
theorem e_const {v : Value} : evalO fr (.const v) = lit v := nr rfl
theorem e_global {b : Nat} : evalO fr (.global b) = .d (.other (.pointer (some ⟨b,0,none⟩))) := nr rfl
theorem e_func {f : FuncId} : evalO fr (.func f) = .fn f [] := nr rfl
theorem l_int {k : IntKind} {n : Int} : lit (.int k n) = .d (.int k n) := nr rfl
theorem l_bool {b : Bool} : lit (.bool b) = .d (.bool b) := nr rfl
theorem l_str {l : List UInt8} : lit (.string ⟨⟨l⟩⟩) = .d (.str l) := nr rfl
theorem l_strT {l : List UInt8} : lit (.string ⟨l.toArray⟩) = .d (.str l) := nr rfl
theorem lc_strT {l : List UInt8} : litC (.string ⟨l.toArray⟩) = .d (.str l) := nr rfl
theorem l_aggT {l : List Value} : lit (.agg l.toArray) = .agg (l.map litC) := nr rfl
theorem l_nil : lit (.slice none 0 0) = .nil := nr rfl
theorem l_agg {l : List Value} : lit (.agg ⟨l⟩) = .agg (l.map litC) := nr rfl
theorem lc_int {k : IntKind} {n : Int} : litC (.int k n) = .d (.int k n) := nr rfl
theorem lc_bool {b : Bool} : litC (.bool b) = .d (.bool b) := nr rfl
theorem lc_str {l : List UInt8} : litC (.string ⟨⟨l⟩⟩) = .d (.str l) := nr rfl
theorem lc_nil : litC (.slice none 0 0) = .nil := nr rfl
theorem p_some {t : Tmp} {x : V} : putF fr (some t) x = fr.set t x := nr rfl
theorem p_none {x : V} : putF fr none x = fr := nr rfl
theorem optK_some {α : Type} {v : α} {f : α → Prop} : optK (some v) f = f v := nr rfl
theorem optK_none {α : Type} {f : α → Prop} : optK none f = False := nr rfl
theorem contV_eq {F : Fr → Sg → (Fr → Sg → Prop) → Prop} {K : Fr → Sg → Prop} {d : Option Tmp} {v : V} : contV F K fr d s v = F (putF fr d v) s K := nr rfl
theorem contE_eq {F : Fr → Sg → (Fr → Sg → Prop) → Prop} {K : Fr → Sg → Prop} {d : Option Tmp} {v : V} {f : Ef} : contE F K fr d s (v,f) = F (putF fr d v) (f.sg s) K := nr rfl
theorem callF_fn {fid : FuncId} {caps xs : List V} {c : FuncId → List V → Prop} : callF (.fn fid caps) xs c = c fid (xs ++ caps) := nr rfl
theorem sg_none : Ef.sg .none s = s := nr rfl
theorem sg_alloc {cs : List V} {o : List (List V)} {l : List (TypeId × Nat)} : Ef.sg (.alloc cs) ⟨o,l⟩ = ⟨o ++ [cs],l⟩ := nr rfl
theorem sg_store {j : Nat} {cs : List V} {o : List (List V)} {l : List (TypeId × Nat)} : Ef.sg (.store j cs) ⟨o,l⟩ = ⟨o.set j cs,l⟩ := nr rfl
theorem sg_app {t : Nat} {e : TypeId} {n : Nat} {o : List (List V)} {l : List (TypeId × Nat)} : Ef.sg (.app t e n) ⟨o,l⟩ = if t < l.length then ⟨o,l.set t (e,n)⟩ else ⟨o,l ++ [(e,n)]⟩ := nr rfl
theorem pick_t {a b : V} : pickV (.d (.bool true)) a b = some a := nr rfl
theorem pick_f {a b : V} : pickV (.d (.bool false)) a b = some b := nr rfl
theorem nil_ptr {k off : Nat} : nilV (.ptr k off) = some (.ptr k off) := nr rfl
theorem nil_iptr {cs : List D} {off : Nat} : nilV (.iptr cs off) = some (.iptr cs off) := nr rfl
theorem c_agg {cs : List V} : V.cells? (.agg cs) = some cs := nr rfl
theorem c_d {x : D} : V.cells? (.d x) = some [.d x] := nr rfl
theorem c_ptr {k off : Nat} : V.cells? (.ptr k off) = some [.ptr k off] := nr rfl
theorem c_iptr {cs : List D} {off : Nat} : V.cells? (.iptr cs off) = some [.iptr cs off] := nr rfl
theorem c_own {t : Nat} {es : List (List D)} : V.cells? (.own t es) = some [.own t es] := nr rfl
theorem c_full {es : List (List D)} : V.cells? (.full es) = some [.full es] := nr rfl
theorem c_nil : V.cells? .nil = some [.nil] := nr rfl
theorem c_fn {f : FuncId} {cs : List V} : V.cells? (.fn f cs) = some [.fn f cs] := nr rfl
theorem c_sl {a b c d : Nat} : V.cells? (.sl a b c d) = some [.sl a b c d] := nr rfl
theorem c_mp {k : Nat} : V.cells? (.mp k) = some [.mp k] := nr rfl
theorem c_gr {k n : Nat} : V.cells? (.gr k n) = some [.gr k n] := nr rfl
theorem on_gr {k n : Nat} : V.one (.gr k n) = true := nr rfl
theorem on_adr {k : Nat} : V.one (.adr k) = true := nr rfl
theorem on_mp {k : Nat} : V.one (.mp k) = true := nr rfl
theorem al_agg {k : Nat} {cs : List V} : allocV (some (.agg cs)) k = some (.ptr k 0,.alloc cs) := nr rfl
theorem al_d {k : Nat} {x : D} : allocV (some (.d x)) k = some (.ptr k 0,.alloc [.d x]) := nr rfl
theorem al_nil {k : Nat} : allocV (some .nil) k = some (.ptr k 0,.alloc [.nil]) := nr rfl
theorem al_own {k t : Nat} {es : List (List D)} : allocV (some (.own t es)) k = some (.ptr k 0,.alloc [.own t es]) := nr rfl
theorem al_full {k : Nat} {es : List (List D)} : allocV (some (.full es)) k = some (.ptr k 0,.alloc [.full es]) := nr rfl
theorem al_fn {k : Nat} {f : FuncId} {cs : List V} : allocV (some (.fn f cs)) k = some (.ptr k 0,.alloc [.fn f cs]) := nr rfl
theorem al_ptr {k a b : Nat} : allocV (some (.ptr a b)) k = some (.ptr k 0,.alloc [.ptr a b]) := nr rfl
theorem ld_ptr {j off : Nat} {ty : TypeId} {o : List (List V)} {l : List (TypeId × Nat)} : loadV P ⟨o,l⟩ ty (.ptr j off) = (match o[j]? with | some cs=>partV P ty cs off | none=>none) := nr rfl
theorem ld_iptr {cs : List D} {off : Nat} {ty : TypeId} : loadV P s ty (.iptr cs off) = partV P ty (dcells cs) off := nr rfl
theorem ld_glob {b off : Nat} {ty : TypeId} : loadV P s ty (.d (.other (.pointer (some ⟨b,off,none⟩)))) = (match glT b with | some cs=>partV P ty (dcells cs) off | none=>none) := nr rfl
theorem st_ptr {j off : Nat} {ty : TypeId} {x : V} {o : List (List V)} {l : List (TypeId × Nat)} : storeV P ⟨o, l⟩ ty (.ptr j off) x = (match o[j]?, x.cells?, sizeT P ty with
      | some cs,some xs,some n=>if xs.length = n ∧ off + n ≤ cs.length ∧ xs.all V.one = true then some (.undef,.store j (splice cs off xs)) else none
      | _,_,_=>none) := nr rfl
theorem pt_eq {t : TypeId} {cs : List V} {off : Nat} : partV P t cs off = (match aggT P t with
 | some true=>match sizeT P t with
  | some n=>if off + n ≤ cs.length then some (.agg ((cs.drop off).take n)) else none
  | none=>none
 | some false=>cs[off]?
 | none=>none) := nr rfl
theorem dc_nil : dcells [] = [] := nr rfl
theorem dc_cons {x : D} {cs : List D} : dcells (x :: cs) = .d x :: dcells cs := nr rfl
theorem on_d {x : D} : V.one (.d x) = true := nr rfl
theorem on_ptr {k off : Nat} : V.one (.ptr k off) = true := nr rfl
theorem on_iptr {cs : List D} {off : Nat} : V.one (.iptr cs off) = true := nr rfl
theorem on_own {t : Nat} {es : List (List D)} : V.one (.own t es) = true := nr rfl
theorem on_full {es : List (List D)} : V.one (.full es) = true := nr rfl
theorem on_nil : V.one .nil = true := nr rfl
theorem on_fn {f : FuncId} {cs : List V} : V.one (.fn f cs) = true := nr rfl
theorem on_sl {a b c d : Nat} : V.one (.sl a b c d) = true := nr rfl
theorem sp_eq {cs xs : List V} {off : Nat} : splice cs off xs = cs.take off ++ xs ++ cs.drop (off + xs.length) := nr rfl
theorem fa_eq {t : TypeId} {x : V} {f : Nat} : fieldAddrV P t x f = (match fieldOf P t f with
 | none=>none
 | some (fo,ty)=>match sizeT P ty with
  | none=>none
  | some n=>if n = 0 then none else match x with
   | .ptr k off=>some (.ptr k (off + fo))
   | .iptr cs off=>some (.iptr cs (off + fo))
   | _=>none) := nr rfl
theorem fd_eq {t : TypeId} {cs : List V} {f : Nat} : fieldV P t (.agg cs) f = (match fieldOf P t f with | some (fo,ty)=>partV P ty cs fo | none=>none) := by
 simp only [fieldV]
 cases fieldOf P t f <;> rfl
theorem ex_eq {vs : List V} {i : Nat} : extractV (.tuple vs) i = vs[i]? := nr rfl
theorem un_neg {k : IntKind} {n : Int} : unV .neg (.d (.int k n)) = some (.d (.int k (k.wrap (0 - n)))) := nr rfl
theorem un_not {b : Bool} : unV .not (.d (.bool b)) = some (.d (.bool (!b))) := nr rfl
theorem cv_int {k : IntKind} {n : Int} {t : TypeId} : convV P t (.d (.int k n)) = (match P.underlying t with | some (.int k)=>some (.d (.int k (k.wrap n))) | _=>none) := nr rfl
theorem cv_str {l : List UInt8} {t : TypeId} : convV P t (.d (.str l)) = (match P.underlying t with | some .string=>some (.d (.str l)) | _=>none) := nr rfl
theorem cb_t {x : Option V} : convB true x = x := nr rfl
theorem bw_d {op : BinOp} {t : TypeId} {x : V} {y : D} : binW g op t x (.d y) = binV g op t x (.d y) := by
 unfold binW; split
 ·rename_i z h; split at h <;> simp at h
 ·rfl
theorem bw_a {op : BinOp} {t : TypeId} {x : V} {y : List V} : binW g op t x (.agg y) = binV g op t x (.agg y) := by
 unfold binW; split
 ·rename_i z h; split at h <;> simp at h
 ·rfl
theorem bx_w {op : BinOp} {t : TypeId} {yo : Operand} {x y : V} (h : isNilC yo = false) : binX g op t yo x y = binW g op t x y := by
 unfold binX binW
 rw [h]
 by_cases hs : sliceT P t = true
 ·simp only [if_pos hs]
 ·simp only [if_neg hs]; simp
theorem bx_t {op : BinOp} {t : TypeId} {n : Nat} {x y : V} : binX g op t (.tmp n) x y = binW g op t x y := bx_w rfl
theorem bx_i {op : BinOp} {t : TypeId} {k : IntKind} {n : Int} {x y : V} : binX g op t (.const (.int k n)) x y = binW g op t x y := bx_w rfl
theorem bx_b {op : BinOp} {t : TypeId} {b : Bool} {x y : V} : binX g op t (.const (.bool b)) x y = binW g op t x y := bx_w rfl
theorem bx_s {op : BinOp} {t : TypeId} {b : ByteArray} {x y : V} : binX g op t (.const (.string b)) x y = binW g op t x y := bx_w rfl
theorem bx_l {op : BinOp} {t : TypeId} {a : Option Addr} {n c : Nat} {x y : V} : binX g op t (.const (.slice a n c)) x y = binW g op t x y := bx_w rfl
theorem bx_a {op : BinOp} {t : TypeId} {cs : Array Value} {x y : V} : binX g op t (.const (.agg cs)) x y = binW g op t x y := bx_w rfl
theorem bw_ne {t : TypeId} {x : V} {b : Bool} (h : sliceT P t = true) (hb : nilB x = some b) : binW g .eql t x .nil = some (.d (.bool b)) := by simp [binW,h,hb]
theorem bw_nn {t : TypeId} {x : V} {b : Bool} (h : sliceT P t = true) (hb : nilB x = some b) : binW g .neq t x .nil = some (.d (.bool (!b))) := by simp [binW,h,hb]
theorem cw_str {a b : TypeId} {l : List UInt8} (h : bytesT P b = false) : convW P a b (.d (.str l)) = convB (P.underlying a).isSome (convV P b (.d (.str l))) := by simp [convW,h]
theorem cw_int {a b : TypeId} {k : IntKind} {n : Int} (h : strT P b = false) : convW P a b (.d (.int k n)) = convB (P.underlying a).isSome (convV P b (.d (.int k n))) := by simp [convW,h]
theorem cw_by {a b : TypeId} {l : List UInt8} (h : bytesT P b = true) (ha : (P.underlying a).isSome = true) : convW P a b (.d (.str l)) = some (.d (.list (l.map fun b=>[.int .u8 b.toNat]))) := by simp [convW,h,ha]
theorem cw_ru {a b : TypeId} {k : IntKind} {n : Int} (h : strT P b = true) (ha : (P.underlying a).isSome = true) : convW P a b (.d (.int k n)) = some (.d (.str (Utf8.encode n).data.toList)) := by simp [convW,h,ha]
theorem by_df {t : TypeId} : bytesT P t = (match P.underlying t with | some (.slice e)=>(match P.underlying e with | some (.int .u8)=>true | _=>false) | _=>false) := nr rfl
theorem st_df {t : TypeId} : strT P t = (match P.underlying t with | some .string=>true | _=>false) := nr rfl
theorem sc_df {t : TypeId} : sliceT P t = (match P.underlying t with | some (.slice _)=>true | _=>false) := nr rfl
theorem mm_c {mx : Bool} {k : IntKind} {a : Int} {r : List V} : mmV mx (.d (.int k a) :: r) = mmF mx k a r := nr rfl
theorem mf_n {mx : Bool} {k : IntKind} {a : Int} : mmF mx k a [] = some (.d (.int k a)) := nr rfl
theorem mf_c {mx : Bool} {k k' : IntKind} {a b : Int} {r : List V} : mmF mx k a (.d (.int k' b) :: r) = mmF mx k (mmI mx a b) r := nr rfl
theorem nb_nil : nilB .nil = some true := nr rfl
theorem nb_oth {A : Option Addr} {n c : Nat} : nilB (.d (.other (.slice A n c))) = some A.isNone := nr rfl
theorem nb_con {e : List D} {es : List (List D)} : nilB (.d (.list (e :: es))) = some false := nr rfl
theorem nb_own {t : Nat} {e : List D} {es : List (List D)} : nilB (.own t (e :: es)) = some false := nr rfl
theorem nb_ful {e : List D} {es : List (List D)} : nilB (.full (e :: es)) = some false := nr rfl
theorem li_oth {A : Option Addr} {c : Nat} : V.list? (.d (.other (.slice A 0 c))) = some [] := nr rfl
theorem in1 : Option.isNone (none : Option Addr) = true := nr rfl
theorem in2 {p : Addr} : Option.isNone (some p) = false := nr rfl
theorem b_add {t : TypeId} {k : IntKind} {a b : Int} : binV g .add t (.d (.int k a)) (.d (.int k b)) = some (.d (.int k (k.wrap (a + b)))) := by simp [binV,binD,intBin]
theorem b_sub {t : TypeId} {k : IntKind} {a b : Int} : binV g .sub t (.d (.int k a)) (.d (.int k b)) = some (.d (.int k (k.wrap (a - b)))) := by simp [binV,binD,intBin]
theorem b_mul {t : TypeId} {k : IntKind} {a b : Int} : binV g .mul t (.d (.int k a)) (.d (.int k b)) = some (.d (.int k (k.wrap (a * b)))) := by simp [binV,binD,intBin]
theorem b_quo {t : TypeId} {k : IntKind} {a b : Int} : binV g .quo t (.d (.int k a)) (.d (.int k b)) = if b = 0 then none else some (.d (.int k (k.wrap (a.tdiv b)))) := by simp [binV,binD,intBin]; split <;> rfl
theorem b_rem {t : TypeId} {k : IntKind} {a b : Int} : binV g .rem t (.d (.int k a)) (.d (.int k b)) = if b = 0 then none else some (.d (.int k (a.tmod b))) := by simp [binV,binD,intBin]; split <;> rfl
theorem b_eql {t : TypeId} {k : IntKind} {a b : Int} : binV g .eql t (.d (.int k a)) (.d (.int k b)) = some (.d (.bool (a == b))) := by simp [binV,binD,intBin]
theorem b_neq {t : TypeId} {k : IntKind} {a b : Int} : binV g .neq t (.d (.int k a)) (.d (.int k b)) = some (.d (.bool (a != b))) := by simp [binV,binD,intBin]
theorem b_lss {t : TypeId} {k : IntKind} {a b : Int} : binV g .lss t (.d (.int k a)) (.d (.int k b)) = some (.d (.bool (decide (a < b)))) := by simp [binV,binD,intBin]
theorem b_leq {t : TypeId} {k : IntKind} {a b : Int} : binV g .leq t (.d (.int k a)) (.d (.int k b)) = some (.d (.bool (decide (a ≤ b)))) := by simp [binV,binD,intBin]
theorem b_gtr {t : TypeId} {k : IntKind} {a b : Int} : binV g .gtr t (.d (.int k a)) (.d (.int k b)) = some (.d (.bool (decide (a > b)))) := by simp [binV,binD,intBin]
theorem b_geq {t : TypeId} {k : IntKind} {a b : Int} : binV g .geq t (.d (.int k a)) (.d (.int k b)) = some (.d (.bool (decide (a ≥ b)))) := by simp [binV,binD,intBin]
theorem b_and {t : TypeId} {k : IntKind} {a b : Int} : binV g .and t (.d (.int k a)) (.d (.int k b)) = some (.d (.int k (andI k a b))) := by simp [binV,binD,intBin,andI]
theorem b_or {t : TypeId} {k : IntKind} {a b : Int} : binV g .or t (.d (.int k a)) (.d (.int k b)) = some (.d (.int k (orI k a b))) := by simp [binV,binD,intBin,orI]
theorem b_xor {t : TypeId} {k : IntKind} {a b : Int} : binV g .xor t (.d (.int k a)) (.d (.int k b)) = some (.d (.int k (xorI k a b))) := by simp [binV,binD,intBin,xorI]
theorem b_shr {t : TypeId} {k k' : IntKind} {a b : Int} : binV g .shr t (.d (.int k a)) (.d (.int k' b)) = if b < 0 then none else some (.d (.int k (shrI k a b))) := by simp [binV,binD,shiftBin,shrI]; split <;> rfl
theorem b_shl {t : TypeId} {k k' : IntKind} {a b : Int} : binV g .shl t (.d (.int k a)) (.d (.int k' b)) = if b < 0 then none else some (.d (.int k (shlI k a b))) := by simp [binV,binD,shiftBin,shlI]; split <;> rfl
theorem b_seql {t : TypeId} {a b : List UInt8} : binV g .eql t (.d (.str a)) (.d (.str b)) = some (.d (.bool (a == b))) := nr rfl
theorem b_sneq {t : TypeId} {a b : List UInt8} : binV g .neq t (.d (.str a)) (.d (.str b)) = some (.d (.bool (!(a == b)))) := nr rfl
theorem b_sadd {t : TypeId} {a b : List UInt8} : binV g .add t (.d (.str a)) (.d (.str b)) = if a.length + b.length ≤ 9223372036854775807 then some (.d (.str (a ++ b))) else none := by simp only [binV,binD,strBin]; split <;> rfl
theorem b_slss {t : TypeId} {a b : List UInt8} : binV g .lss t (.d (.str a)) (.d (.str b)) = some (.d (.bool (Op.bytesLess a b))) := nr rfl
theorem b_beql {t : TypeId} {a b : Bool} : binV g .eql t (.d (.bool a)) (.d (.bool b)) = (match P.underlying t with | some .bool=>some (.d (.bool (a == b))) | _=>none) := nr rfl
theorem b_bneq {t : TypeId} {a b : Bool} : binV g .neq t (.d (.bool a)) (.d (.bool b)) = (match P.underlying t with | some .bool=>some (.d (.bool (!(a == b)))) | _=>none) := nr rfl
theorem b_aeql {t : TypeId} {xs ys : List V} : binV g .eql t (.agg xs) (.agg ys) = aggEq (g.E t) (datas xs) (datas ys) true := by
 simp only [binV,aggEq]
 cases g.E t <;> cases datas xs <;> cases datas ys <;> rfl
theorem b_aneq {t : TypeId} {xs ys : List V} : binV g .neq t (.agg xs) (.agg ys) = aggEq (g.E t) (datas xs) (datas ys) false := by
 simp only [binV,aggEq]
 cases g.E t <;> cases datas xs <;> cases datas ys <;> rfl
theorem ae_t {ks : List SK} {ds es : List D} : aggEq (some ks) (some ds) (some es) true = if ds.map D.kind? = ks.map some ∧ es.map D.kind? = ks.map some then some (.d (.bool (eqAll ds es))) else none := nr rfl
theorem ae_f {ks : List SK} {ds es : List D} : aggEq (some ks) (some ds) (some es) false = if ds.map D.kind? = ks.map some ∧ es.map D.kind? = ks.map some then some (.d (.bool (!(eqAll ds es)))) else none := nr rfl
theorem da_nil : datas [] = some [] := nr rfl
theorem da_cons {x : D} {xs : List V} : datas (.d x :: xs) = (match datas xs with | some b=>some (x :: b) | none=>none) := by cases h : datas xs <;> simp [datas,V.data?,h]
theorem da_cnil {xs : List V} : datas (.nil :: xs) = (match datas xs with | some b=>some (.list [] :: b) | none=>none) := by cases h : datas xs <;> simp [datas,V.data?,h]
theorem da_cown {t : Nat} {es : List (List D)} {xs : List V} : datas (.own t es :: xs) = (match datas xs with | some b=>some (.list es :: b) | none=>none) := by cases h : datas xs <;> simp [datas,V.data?,h]
theorem da_cfull {es : List (List D)} {xs : List V} : datas (.full es :: xs) = (match datas xs with | some b=>some (.list es :: b) | none=>none) := by cases h : datas xs <;> simp [datas,V.data?,h]
theorem da_cptr {k off : Nat} {xs : List V} : datas (.ptr k off :: xs) = none := nr rfl
theorem dk_int {k : IntKind} {n : Int} : D.kind? (.int k n) = some (.int k) := nr rfl
theorem dk_bool {b : Bool} : D.kind? (.bool b) = some .bool := nr rfl
theorem dk_str {l : List UInt8} : D.kind? (.str l) = some .str := nr rfl
theorem ea_nil : eqAll [] [] = true := nr rfl
theorem ea_cons {x y : D} {xs ys : List D} : eqAll (x :: xs) (y :: ys) = (eqD x y && eqAll xs ys) := nr rfl
theorem ed_int {k k' : IntKind} {a b : Int} : eqD (.int k a) (.int k' b) = (a == b) := nr rfl
theorem ed_bool {a b : Bool} : eqD (.bool a) (.bool b) = (a == b) := nr rfl
theorem ed_str {a b : List UInt8} : eqD (.str a) (.str b) = (a == b) := nr rfl
theorem li_list {es : List (List D)} : V.list? (.d (.list es)) = some es := nr rfl
theorem li_own {t : Nat} {es : List (List D)} : V.list? (.own t es) = some es := nr rfl
theorem li_full {es : List (List D)} : V.list? (.full es) = some es := nr rfl
theorem li_nil : V.list? .nil = some [] := nr rfl
theorem ln_eq {t : TypeId} {x : V} : lenV P t x = (match P.underlying t with
 | some .string=>match x with | .d (.str s)=>some (.d (.int .i64 s.length)) | _=>none
 | some (.slice _)=>match x with
  | .sl _ _ len _=>some (.d (.int .i64 len))
  | _=>match x.list? with | some es=>some (.d (.int .i64 es.length)) | none=>none
 | some (.array n _)=>some (.d (.int .i64 n))
 | _=>none) := nr rfl
theorem ia_eq {t : TypeId} {x : V} {k : IntKind} {n : Int} : indexAddrV P t x (.d (.int k n)) = if n < 0 then none else (match P.underlying t with
  | some (.slice e)=>match sizeT P e with
   | none=>none
   | some sz=>match x with
    | .sl k off len _=>if n.toNat < len then some (.ptr k (off + n.toNat * sz)) else none
    | _=>match x.list? with
     | some es=>match es[n.toNat]? with
      | some c=>if c.length = sz then some (.iptr c 0) else none
      | none=>none
     | none=>none
  | some (.array len e)=>match sizeT P e with
   | none=>none
   | some sz=>if n.toNat < len then match x with
     | .ptr k off=>some (.ptr k (off + n.toNat * sz))
     | .iptr cs off=>some (.iptr cs (off + n.toNat * sz))
     | x=>globA x (n.toNat * sz)
    else none
  | _=>none) := nr rfl
theorem ga_eq {b off k : Nat} : globA (.d (.other (.pointer (some ⟨b,off,none⟩)))) k = some (.d (.other (.pointer (some ⟨b,off + k,none⟩)))) := nr rfl
theorem ix_agg {t : TypeId} {cs : List V} {k : IntKind} {n : Int} : indexV P t (.agg cs) (.d (.int k n)) = if n < 0 then none else (match P.underlying t with
      | some (.array len e)=>match sizeT P e with
        | some sz=>if n.toNat < len then partV P e cs (n.toNat * sz) else none
        | none=>none
      | _=>none) := nr rfl
theorem ix_str {t : TypeId} {l : List UInt8} {k : IntKind} {n : Int} : indexV P t (.d (.str l)) (.d (.int k n)) = if n < 0 then none else (match P.underlying t with
      | some .string=>match l[n.toNat]? with
        | some b=>some (.d (.int .u8 b.toNat))
        | none=>none
      | _=>none) := nr rfl
theorem bd_none {d : Nat} : bnd d none = some d := nr rfl
theorem bd_some {d : Nat} {k : IntKind} {n : Int} : bnd d (some (.d (.int k n))) = if n < 0 then none else some n.toNat := nr rfl
theorem sl_eq {t : TypeId} {x : V} {lo hi : Option V} : sliceV P t x lo hi none = (match P.underlying t with
 | some .string=>match x with
  | .d (.str s)=>match bnd 0 lo,bnd s.length hi with
   | some l,some h=>if l ≤ h ∧ h ≤ s.length then some (.d (.str ((s.drop l).take (h - l)))) else none
   | _,_=>none
  | _=>none
 | some (.slice e)=>match sizeT P e with
  | none=>none
  | some sz=>match x with
   | .sl k off len cap=>match bnd 0 lo,bnd len hi,some cap with
    | some l,some h,some m=>if l ≤ h ∧ h ≤ m ∧ m ≤ cap then some (.sl k (if m = l then off else off + l * sz) (h - l) (m - l)) else none
    | _,_,_=>none
   | _=>match x.list? with
    | some es=>match bnd 0 lo,bnd es.length hi with
      | some l,some h=>if l ≤ h ∧ h ≤ es.length ∧ es.all (·.length == sz) then some (.d (.list ((es.drop l).take (h - l)))) else none
      | _,_=>none
    | none=>none
 | some (.array n e)=>match sizeT P e with
  | none=>none
  | some sz=>match x with
   | .ptr k off=>match bnd 0 lo,bnd n hi,some n with
    | some l,some h,some m=>if l ≤ h ∧ h ≤ m ∧ m ≤ n then some (.sl k (if m = l then off else off + l * sz) (h - l) (m - l)) else none
    | _,_,_=>none
   | _=>none
 | _=>none) := by simp [sliceV,bnd]; rfl
theorem sl_mx {t : TypeId} {es : List (List D)} {lo : Option V} {k : IntKind} {n : Int} : sliceV P t (.d (.list es)) lo (some (.d (.int k n))) (some (.d (.int k n))) = (match P.underlying t with
 | some (.slice e)=>match sizeT P e with
  | none=>none
  | some sz=>match bnd 0 lo,bnd es.length (some (.d (.int k n))) with
   | some l,some h=>if l ≤ h ∧ h ≤ es.length ∧ es.all (·.length == sz) then some (.full ((es.drop l).take (h - l))) else none
   | _,_=>none
 | _=>none) := by
 unfold sliceV
 cases P.underlying t with
 | none=>rfl
 | some u =>
  cases u with
  | slice e =>
   dsimp only
   cases sizeT P e with
   | none=>rfl
   | some sz =>
    dsimp only [V.list?,V.data?]
    simp only [bd_some]
    by_cases hn : n < 0
    ·simp only [if_pos hn]
     cases bnd 0 lo <;> rfl
    ·simp only [if_neg hn]
     cases bnd 0 lo with
     | none=>rfl
     | some l=>simp
  | array n e =>
   dsimp only
   cases sizeT P e <;> rfl
  | string=>rfl
  | _=>rfl
theorem bl_eq {t : TypeId} {parts : List (Nat × V)} : buildV P t parts = (match zeroV P t with
 | none=>none
 | some z=>match z.cells? with
  | none=>none
  | some zs=>match placesT P t with
   | some (.struct l)=>(fillV (fun i=>l[i]?) zs parts).map .agg
   | some (.array sz)=>(fillV (fun i=>some (i * sz,sz)) zs parts).map .agg
   | none=>none) := nr rfl
theorem fv_nil {place : Nat → Option (Nat × Nat)} {cells : List V} : fillV place cells [] = some cells := nr rfl
theorem fv_cons {place : Nat → Option (Nat × Nat)} {cells : List V} {i : Nat} {x : V} {rest : List (Nat × V)} : fillV place cells ((i,x) :: rest) = (match place i,x.cells? with
  | some (off,size),some cs=>if cs.length = size ∧ off + cs.length ≤ cells.length then fillV place (splice cells off cs) rest else none
  | _,_=>none) := nr rfl
theorem rw_eq {t : TypeId} {len k : Nat} {parts : List (Nat × V)} : rowV P t len k parts = (match P.underlying t with
 | some (.slice e)=>match sizeT P e,zeroV P e with
  | some sz,some z=>match z.cells? with
   | some zs =>
    if zs.length = sz ∧ okLen (len * sz) = true then
     match fillV (fun i=>some (i * sz,sz)) (reps len zs) parts with
     | some out=>match datas out with
      | some ds=>some (.full (chunks sz len ds),.none)
      | none=>some (.sl k 0 len len,.alloc out)
     | none=>none
    else none
   | none=>none
  | _,_=>none
 | _=>none) := nr rfl
theorem rp_z {zs : List V} : reps 0 zs = [] := nr rfl
theorem rp_s {n : Nat} {zs : List V} : reps (n + 1) zs = zs ++ reps n zs := nr rfl
theorem ch_z {sz : Nat} {ds : List D} : chunks sz 0 ds = [] := nr rfl
theorem ch_s {sz n : Nat} {ds : List D} : chunks sz (n + 1) ds = ds.take sz :: chunks sz n (ds.drop sz) := nr rfl
theorem ap_eq {lns : Nat → Option (TypeId × Nat)} {t : Nat} {tt : TypeId} {x y : V} : appV P lns t tt x y = (match appT P tt,y.list? with
 | some (e,sz),some ys =>
  if ys.all (·.length == sz) then
   match x with
   | .nil=>if okLen ys.length = true then some (.own t ys,.app t e ys.length) else none
   | .own j es=>match lns j with
    | some (e',n)=>if e' = e ∧ n = es.length ∧ okLen (es.length + ys.length) = true then some (.own j (es ++ ys),.app j e (es.length + ys.length)) else none
    | none=>none
   | .full es=>if 0 < ys.length ∧ okLen (es.length + ys.length) = true ∧ es.all (·.length == sz) = true then some (.own t (es ++ ys),.app t e (es.length + ys.length)) else if ys.length = 0 then some (.full es,.none) else none
   | _=>none
  else none
 | _,_=>none) := nr rfl
theorem re_tmp {t : Tmp} : resOne g fr s (.tmp t) = some (fr.getD t .undef) := nr rfl
theorem re_cell {a : Tmp} {ty : TypeId} : resOne g fr s (.cell a ty) = (match fr.getD a .undef with | .ptr k off=>(match s.obs[k]? with | some cs=>partV P ty cs off | none=>none) | _=>none) := nr rfl
theorem ra_nil : resAll g fr s [] = some [] := nr rfl
theorem ra_cons {r : ResultVar} {rs : List ResultVar} : resAll g fr s (r :: rs) = (match resOne g fr s r,resAll g fr s rs with | some x,some xs=>some (x :: xs) | _,_=>none) := nr rfl
theorem rv_eq {rs : List ResultVar} : resV g rs fr s = (match resAll g fr s rs with
 | some [x]=>some x
 | some xs=>some (.tuple xs)
 | none=>none) := nr rfl
theorem rq_ret {rs : List ResultVar} {R : V → Sg → Prop} : retQ g rs R .ret fr s = (match resV g rs fr s with | some y=>R y s | none=>False) := nr rfl
theorem rq_nor {rs : List ResultVar} {R : V → Sg → Prop} : retQ g rs R .normal fr s = (match resV g rs fr s with | some y=>R y s | none=>False) := nr rfl
theorem kS_eq {R : V → Sg → Prop} {fid : FuncId} {xs : List V} : kS g s R fid xs = SpecS g fid xs s R := nr rfl
theorem kD_eq {R : V → Prop} {fid : FuncId} {xs : List V} : kD g R fid xs = callD g fid (xs.map V.cleanF) R := nr rfl
theorem cl_d {x : D} : V.clean (.d x) = .d x := nr rfl
theorem cl_own {t : Nat} {es : List (List D)} : V.clean (.own t es) = .d (.list es) := nr rfl
theorem cl_full {es : List (List D)} : V.clean (.full es) = .d (.list es) := nr rfl
theorem cl_nil : V.clean .nil = .d (.list []) := nr rfl
theorem cl_agg {cs : List V} : V.clean (.agg cs) = .agg (V.cleans cs) := by simp only [V.clean]
theorem cl_tuple {cs : List V} : V.clean (.tuple cs) = .tuple (V.cleans cs) := by simp only [V.clean]
theorem cl_fn {f : FuncId} {cs : List V} : V.clean (.fn f cs) = .fn f (V.cleans cs) := by simp only [V.clean]
theorem cl_undef : V.clean .undef = .undef := nr rfl
theorem cl_ptr {k off : Nat} : V.clean (.ptr k off) = .undef := nr rfl
theorem cl_mp {k : Nat} : V.clean (.mp k) = .undef := nr rfl
theorem cl_adr {k : Nat} : V.clean (.adr k) = .undef := nr rfl
theorem cl_iptr {cs : List D} {off : Nat} : V.clean (.iptr cs off) = .iptr cs off := nr rfl
theorem cs_nil : V.cleans [] = [] := nr rfl
theorem cs_cons {x : V} {xs : List V} : V.cleans (x :: xs) = V.clean x :: V.cleans xs := by simp only [V.cleans]
theorem cf_d {x : D} : V.cleanF (.d x) = .d x := nr rfl
theorem cf_own {t : Nat} {es : List (List D)} : V.cleanF (.own t es) = .d (.list es) := nr rfl
theorem cf_full {es : List (List D)} : V.cleanF (.full es) = .full es := nr rfl
theorem cf_nil : V.cleanF .nil = .d (.list []) := nr rfl
theorem cf_agg {cs : List V} : V.cleanF (.agg cs) = .agg (V.cleansF cs) := by simp only [V.cleanF]
theorem cf_tuple {cs : List V} : V.cleanF (.tuple cs) = .tuple (V.cleansF cs) := by simp only [V.cleanF]
theorem cf_fn {f : FuncId} {cs : List V} : V.cleanF (.fn f cs) = .fn f (V.cleansF cs) := by simp only [V.cleanF]
theorem cf_undef : V.cleanF .undef = .undef := nr rfl
theorem cf_ptr {k off : Nat} : V.cleanF (.ptr k off) = .undef := nr rfl
theorem cf_mp {k : Nat} : V.cleanF (.mp k) = .undef := nr rfl
theorem cf_adr {k : Nat} : V.cleanF (.adr k) = .undef := nr rfl
theorem cf_iptr {cs : List D} {off : Nat} : V.cleanF (.iptr cs off) = .iptr cs off := nr rfl
theorem cg_nil : V.cleansF [] = [] := nr rfl
theorem cg_cons {x : V} {xs : List V} : V.cleansF (x :: xs) = V.cleanF x :: V.cleansF xs := by simp only [V.cleansF]
theorem oget {α : Type} {d : α} {l : List α} {n : Nat} {x : α} : (x :: l).getD (n + 1) d = l.getD n d := nr rfl
theorem oget0 {α : Type} {d : α} {l : List α} {x : α} : (x :: l).getD 0 d = x := nr rfl
theorem ge0 {α : Type} {l : List α} {x : α} : (x :: l)[0]? = some x := nr rfl
theorem geS {α : Type} {l : List α} {n : Nat} {x : α} : (x :: l)[n + 1]? = l[n]? := nr (by simp)
theorem set0 {α : Type} {l : List α} {x y : α} : (x :: l).set 0 y = y :: l := nr rfl
theorem setS {α : Type} {l : List α} {n : Nat} {x y : α} : (x :: l).set (n + 1) y = x :: l.set n y := nr rfl
theorem tkS {α : Type} {l : List α} {n : Nat} {x : α} : (x :: l).take (n + 1) = x :: l.take n := nr rfl
theorem tk0 {α : Type} {l : List α} : l.take 0 = [] := nr (by simp)
theorem tkN {α : Type} {n : Nat} : ([] : List α).take n = [] := nr (by simp)
theorem dpS {α : Type} {l : List α} {n : Nat} {x : α} : (x :: l).drop (n + 1) = l.drop n := nr rfl
theorem dp0 {α : Type} {l : List α} : l.drop 0 = l := nr rfl
theorem dpN {α : Type} {n : Nat} : ([] : List α).drop n = [] := nr (by simp)
theorem gm {α β : Type} {f : α → β} {l : List α} {n : Nat} : (l.map f)[n]? = (l[n]?).map f := by simp
theorem lm {α β : Type} {f : α → β} {l : List α} : (l.map f).length = l.length := by simp
theorem ta {α : Type} {l : List α} : (l.toArray).toList = l := nr rfl
theorem ta2 {α : Type} {l : List α} : (Array.mk l).toList = l := nr rfl
theorem dm {α β : Type} {f : α → β} {l : List α} {n : Nat} : (l.map f).drop n = (l.drop n).map f := by simp
theorem tm {α β : Type} {f : α → β} {l : List α} {n : Nat} : (l.map f).take n = (l.take n).map f := by simp
theorem xNA {α : Type} {l : List α} : [] ++ l = l := nr rfl
theorem xCA {α : Type} {x : α} {l r : List α} : (x :: l) ++ r = x :: (l ++ r) := nr rfl
theorem xAN {α : Type} {l : List α} : l ++ [] = l := by simp
theorem xMC {α β : Type} {f : α → β} {x : α} {l : List α} : (x :: l).map f = f x :: l.map f := nr rfl
theorem xMN {α β : Type} {f : α → β} : ([] : List α).map f = [] := nr rfl
theorem xMA {α β : Type} {f : α → β} {l r : List α} : (l ++ r).map f = l.map f ++ r.map f := by simp
theorem xLC {α : Type} {x : α} {l : List α} : (x :: l).length = l.length + 1 := nr rfl
theorem xLN {α : Type} : ([] : List α).length = 0 := nr rfl
theorem xLA {α : Type} {l r : List α} : (l ++ r).length = l.length + r.length := by simp
theorem xAC {α : Type} {f : α → Bool} {x : α} {l : List α} : (x :: l).all f = (f x && l.all f) := nr rfl
theorem xAL {α : Type} {f : α → Bool} : ([] : List α).all f = true := nr rfl
theorem xOS {α β : Type} {f : α → β} {x : α} : (some x).map f = some (f x) := nr rfl
theorem xON {α β : Type} {f : α → β} : (none : Option α).map f = none := nr rfl
theorem xBS {α β : Type} {f : α → Option β} {x : α} : (some x).bind f = f x := nr rfl
theorem xIS {α : Type} {x : α} : (some x).isSome = true := nr rfl
theorem sq_n {K : Fr → Sg → Prop} {Q : SQ} : seqQ K Q .normal fr s = K fr s := nr rfl
theorem sq_r {K : Fr → Sg → Prop} {Q : SQ} : seqQ K Q .ret fr s = Q .ret fr s := nr rfl
theorem sq_e {K : Fr → Sg → Prop} {Q : SQ} {j : Nat} : seqQ K Q (.exit j) fr s = Q (.exit j) fr s := nr rfl
theorem bq_n {id : Nat} {Q : SQ} : blockQ id Q .normal fr s = Q .normal fr s := nr rfl
theorem bq_r {id : Nat} {Q : SQ} : blockQ id Q .ret fr s = Q .ret fr s := nr rfl
theorem bq_e {id j : Nat} {Q : SQ} : blockQ id Q (.exit j) fr s = if j = id then Q .normal fr s else Q (.exit j) fr s := nr rfl
theorem kq_n {ε : Type} {y : Code} {Φ : ε → SQ} {e : ε} : kQ g y Φ e .normal fr s = SWs g y (Φ e) fr s := nr rfl
theorem kq_r {ε : Type} {y : Code} {Φ : ε → SQ} {e : ε} : kQ g y Φ e .ret fr s = Φ e .ret fr s := nr rfl
theorem kq_e {ε : Type} {y : Code} {Φ : ε → SQ} {e : ε} {j : Nat} : kQ g y Φ e (.exit j) fr s = Φ e (.exit j) fr s := nr rfl
theorem bb_n {ε : Type} {id : Nat} {Φ : ε → SQ} {e : ε} : bQ id Φ e .normal fr s = Φ e .normal fr s := nr rfl
theorem bb_r {ε : Type} {id : Nat} {Φ : ε → SQ} {e : ε} : bQ id Φ e .ret fr s = Φ e .ret fr s := nr rfl
theorem bb_e {ε : Type} {id j : Nat} {Φ : ε → SQ} {e : ε} : bQ id Φ e (.exit j) fr s = if j = id then Φ e .normal fr s else Φ e (.exit j) fr s := nr rfl
theorem tb1 : (true == true) = true := nr rfl
theorem tb2 : (true == false) = false := nr rfl
theorem tb3 : (false == true) = false := nr rfl
theorem tb4 : (false == false) = true := nr rfl
theorem sb1 : (some false = some true) = False := by simp
theorem sb2 : (some true = some false) = False := by simp
theorem nq_r {ε : Type} {c : Code} {n : Nat} {Φ : ε → SQ} {e : ε} : nQ g c n Φ e .ret fr s = Φ e .ret fr s := nr rfl
theorem nq_e {ε : Type} {c : Code} {n j : Nat} {Φ : ε → SQ} {e : ε} : nQ g c n Φ e (.exit j) fr s = Φ e (.exit j) fr s := nr rfl
theorem dq_r {ε : Type} {Φ : ε → SQ} {e : ε} : DQ Φ e .ret fr s = Φ e .ret fr s := nr rfl
theorem dq_e {ε : Type} {j : Nat} {Φ : ε → SQ} {e : ε} : DQ Φ e (.exit j) fr s = Φ e (.exit j) fr s := nr rfl
theorem dT (h : Decidable True) : @decide True h = true := by simp
theorem dF (h : Decidable False) : @decide False h = false := by simp
theorem tn1 : (!true) = false := nr rfl
theorem tn2 : (!false) = true := nr rfl
theorem jq_r {ε ν : Type} {F : ν → Fr} {S : ν → Sg} {Φ : ε → SQ} {e : ε} : JQ F S Φ (.ret e) = seqQ (fun _ _=>False) (Φ e) := nr rfl
theorem jq_g {ε ν : Type} {F : ν → Fr} {S : ν → Sg} {Φ : ε → SQ} {v : ν} {x : Exit} : JQ F S Φ (.go v) x fr s = (x = .normal ∧ leL fr (F v) ∧ leS s (S v)) := nr rfl
theorem jo_g {ν : Type} {F : ν → Fr} {S : ν → Sg} {v : ν} {x : Exit} : JO F S v x fr s = (x = .normal ∧ leL fr (F v) ∧ leS s (S v)) := nr rfl
theorem fn_q {rs : List ResultVar} {ρ : Type} {en : ρ → V} {r : ρ} : fnQ g rs en r .ret fr s = (match resV g rs fr s with | some y=>y.clean = en r | none=>False) := nr rfl
theorem fn_n {rs : List ResultVar} {ρ : Type} {en : ρ → V} {r : ρ} : fnQ g rs en r .normal fr s = (match resV g rs fr s with | some y=>y.clean = en r | none=>False) := nr rfl
theorem ff_q {rs : List ResultVar} {ρ : Type} {en : ρ → V} {r : ρ} : fnF g rs en r .ret fr s = (match resV g rs fr s with | some y=>y.cleanF = en r | none=>False) := nr rfl
theorem ff_n {rs : List ResultVar} {ρ : Type} {en : ρ → V} {r : ρ} : fnF g rs en r .normal fr s = (match resV g rs fr s with | some y=>y.cleanF = en r | none=>False) := nr rfl
theorem in_q {ν : Type} {rs : List ResultVar} {Y : ν → V} {S : ν → Sg} {v : ν} : inQ g rs Y S v .ret fr s = (match resV g rs fr s with | some y=>V.le y (Y v) ∧ leS s (S v) | none=>False) := nr rfl
theorem in_n {ν : Type} {rs : List ResultVar} {Y : ν → V} {S : ν → Sg} {v : ν} : inQ g rs Y S v .normal fr s = (match resV g rs fr s with | some y=>V.le y (Y v) ∧ leS s (S v) | none=>False) := nr rfl
theorem v_tt {cs ds : List V} : V.le (.tuple cs) (.tuple ds) = (cs = ds) := propext ⟨fun h=>by cases h; rfl,fun h=>h ▸ .refl _⟩
theorem le_n : leL [] [] = True := nr rfl
theorem le_c {x y : V} {xs ys : List V} : leL (x :: xs) (y :: ys) = (V.le x y ∧ leL xs ys) := nr rfl
theorem lo_n {xs : List (List V)} : leO xs [] = True := by cases xs <;> rfl
theorem lo_c {x y : List V} {xs ys : List (List V)} : leO (x :: xs) (y :: ys) = (leL x y ∧ leO xs ys) := nr rfl
theorem ls_e {a b : List (List V)} {c d : List (TypeId × Nat)} : leS ⟨a,c⟩ ⟨b,d⟩ = (leO a b ∧ d = c.take d.length) := nr rfl
theorem v_r {x : V} : V.le x x = True := eq_true (.refl x)
theorem v_u1 {x : D} : V.le (.d x) .undef = True := eq_true (.undef _ rfl)
theorem v_u2 {x : List V} : V.le (.agg x) .undef = True := eq_true (.undef _ rfl)
theorem v_u3 {x : List V} : V.le (.tuple x) .undef = True := eq_true (.undef _ rfl)
theorem v_u4 {k off : Nat} : V.le (.ptr k off) .undef = True := eq_true (.undef _ rfl)
theorem v_u5 {x : List D} {off : Nat} : V.le (.iptr x off) .undef = True := eq_true (.undef _ rfl)
theorem v_u6 {t : Nat} {es : List (List D)} : V.le (.own t es) .undef = True := eq_true (.undef _ rfl)
theorem v_u7 {es : List (List D)} : V.le (.full es) .undef = True := eq_true (.undef _ rfl)
theorem v_u8 : V.le .nil .undef = True := eq_true (.undef _ rfl)
theorem v_u9 : V.le .skip .undef = True := eq_true (.undef _ rfl)
theorem v_ua {a b c d : Nat} : V.le (.sl a b c d) .undef = True := eq_true (.undef _ rfl)
theorem v_ub {f : FuncId} {cs : List V} : V.le (.fn f cs) .undef = True := eq_true (.undef _ rfl)
theorem v_uc {k : Nat} : V.le (.mp k) .undef = True := eq_true (.undef _ rfl)
theorem v_ud {k n : Nat} : V.le (.gr k n) .undef = True := eq_true (.undef _ rfl)
theorem v_ue {k n i off : Nat} : V.le (.gp k n i off) .undef = True := eq_true (.undef _ rfl)
theorem xa_own {t j : Nat} {es : List (List D)} {y : V} : extA P [t,t] [.own j es,y] = none := nr rfl
theorem xa_nil {t : Nat} {y : V} : extA P [t,t] [.nil,y] = none := nr rfl
theorem xa_gr {t k n : Nat} {y : V} : extA P [t,t] [.gr k n,y] = none := nr rfl
theorem xa_d {t : Nat} {x : D} {y : V} : extA P [t,t] [.d x,y] = none := nr rfl
theorem xa_ff {t : Nat} {es ys : List (List D)} : extA P [t,t] [.full es,.full ys] = none := nr (by unfold extA; rfl)
theorem xa_c {t : Nat} {e : List D} {es : List (List D)} {y : V} : extA P [t,t] [.full (e :: es),y] = none := nr (by cases y <;> rfl)
theorem xa_f {t : Nat} {x : D} : extA P [t,t] [.full [],.d x] = (match appT P t,V.list? (.d x) with | some (_,sz),some ys=>if ys.all (·.length == sz) = true ∧ okLen ys.length = true then some (.d (.list ys)) else none | _,_=>none) := nr (by show (if t = t then _ else none) = _; rw [if_pos rfl]; cases appT P t <;> rfl)
theorem xa_o {t j : Nat} {es : List (List D)} : extA P [t,t] [.full [],.own j es] = (match appT P t,V.list? (.own j es) with | some (_,sz),some ys=>if ys.all (·.length == sz) = true ∧ okLen ys.length = true then some (.d (.list ys)) else none | _,_=>none) := nr (by show (if t = t then _ else none) = _; rw [if_pos rfl]; cases appT P t <;> rfl)
theorem xa_l {t : Nat} : extA P [t,t] [.full [],.nil] = (match appT P t,V.list? .nil with | some (_,sz),some ys=>if ys.all (·.length == sz) = true ∧ okLen ys.length = true then some (.d (.list ys)) else none | _,_=>none) := nr (by show (if t = t then _ else none) = _; rw [if_pos rfl]; cases appT P t <;> rfl)
theorem v_uf {k : Nat} : V.le (.adr k) .undef = True := eq_true (.undef _ rfl)
theorem v_ug {k n i off : Nat} : V.le (.gs k n i off) .undef = True := eq_true (.undef _ rfl)
theorem v_gs {k l n m a b c d : Nat} : V.le (.gs k n a b) (.gs l m c d) = (k = l ∧ n = m ∧ a = c ∧ b = d) := propext ⟨fun h=>by cases h; exact ⟨rfl,rfl,rfl,rfl⟩,fun h=>by obtain ⟨rfl,rfl,rfl,rfl⟩ := h; exact .refl _⟩
theorem v_rr {i j : TypeId} {v u : Nat} {a b : List (List D)} : V.le (.rowc i v a) (.rowc j u b) = (i = j ∧ v = u ∧ a = b) := propext ⟨fun h=>by cases h; exact ⟨rfl,rfl,rfl⟩,fun h=>by rw [h.1,h.2.1,h.2.2]; exact .refl _⟩
theorem v_gg {k l n m : Nat} : V.le (.gr k n) (.gr l m) = (k = l ∧ n = m) := propext ⟨fun h=>by cases h; exact ⟨rfl,rfl⟩,fun h=>by rw [h.1,h.2]; exact .refl _⟩
theorem v_mm {i j : IntKind} {a b : List (Int × D)} : V.le (.mapc i a) (.mapc j b) = (i = j ∧ a = b) := propext ⟨fun h=>by cases h; exact ⟨rfl,rfl⟩,fun h=>by rw [h.1,h.2]; exact .refl _⟩
theorem v_nl {es : List (List D)} : V.le .nil (.d (.list es)) = (es = []) := propext ⟨fun h=>by cases h; rfl,fun h=>h ▸ .nil⟩
theorem v_ol {t : Nat} {es fs : List (List D)} : V.le (.own t es) (.d (.list fs)) = (es = fs) := propext ⟨fun h=>by cases h; rfl,fun h=>h ▸ .own t es⟩
theorem v_fl {es fs : List (List D)} : V.le (.full es) (.d (.list fs)) = (es = fs) := propext ⟨fun h=>by cases h; rfl,fun h=>h ▸ .full es⟩
theorem v_dd {x y : D} : V.le (.d x) (.d y) = (x = y) := propext ⟨fun h=>by cases h; rfl,fun h=>h ▸ .refl _⟩
theorem v_oo {t u : Nat} {es fs : List (List D)} : V.le (.own t es) (.own u fs) = (t = u ∧ es = fs) := propext ⟨fun h=>by cases h; exact ⟨rfl,rfl⟩,fun h=>by rw [h.1,h.2]; exact .refl _⟩
theorem v_ff {es fs : List (List D)} : V.le (.full es) (.full fs) = (es = fs) := propext ⟨fun h=>by cases h; rfl,fun h=>h ▸ .refl _⟩
theorem leL_of_at : ∀ {cs ds : List V},cs.length = ds.length → (∀ (i : Nat) (x y : V),cs[i]? = some x → ds[i]? = some y → V.le x y) → leL cs ds
 | [],[],_,_=>trivial
 | [],_ :: _,h,_=>by simp at h
 | _ :: _,[],h,_=>by simp at h
 | c :: cs,d :: ds,hl,h=>⟨h 0 c d rfl rfl,leL_of_at (by simpa using hl) fun i x y a b=>h (i + 1) x y (by simpa using a) (by simpa using b)⟩
theorem v_aa {cs ds : List V} : V.le (.agg cs) (.agg ds) = leL cs ds := propext ⟨fun h=>by
  cases h with
  | refl=>exact leL_refl _
  | agg _ _ hl h=>exact leL_of_at hl h,fun h=>.agg cs ds (leL_len h) fun i x y a b=>leL_at h a b⟩
end
theorem SR : type_of% (And.intro @bx_t <| And.intro @bx_i <| And.intro @bx_b <| And.intro @bx_s <| And.intro @bx_l <| And.intro @bx_a <| And.intro @dT <| And.intro @dF <| And.intro @tn1 <| And.intro @tn2 <| And.intro @kq_n <| And.intro @bb_n <| And.intro @tb1 <| And.intro @tb2 <| And.intro @tb3 <| And.intro @tb4 <| And.intro @sb1 <| And.intro @sb2 <| And.intro @r_move <| And.intro @r_assign <| And.intro @r_pick <| And.intro @r_build <| And.intro @r_nilCheck <| And.intro @r_binOp <| And.intro @r_unOp <| And.intro @r_convert <| And.intro @r_makeFunc <| And.intro @r_slice <| And.intro @r_fieldAddr <| And.intro @r_field <| And.intro @r_indexAddr <| And.intro @r_index <| And.intro @r_extract <| And.intro @r_alloc <| And.intro @r_box <| And.intro @r_load <| And.intro @r_store <| And.intro @r_buildSlice <| And.intro @r_append <| And.intro @r_len <| And.intro @r_max <| And.intro @r_min <| And.intro @r_call <| And.intro @r_callD <| And.intro @r_guard <| And.intro @w_guard <| And.intro @regS_nil <| And.intro @e_tmp <| And.intro @e_const <| And.intro @e_global <| And.intro @e_func <| And.intro @l_int <| And.intro @l_bool <| And.intro @l_str <| And.intro @l_strT <| And.intro @lc_strT <| And.intro @l_aggT <| And.intro @l_nil <| And.intro @l_agg <| And.intro @lc_int <| And.intro @lc_bool <| And.intro @lc_str <| And.intro @lc_nil <| And.intro @p_some <| And.intro @p_none <| And.intro @optK_some <| And.intro @optK_none <| And.intro @contV_eq <| And.intro @contE_eq <| And.intro @callF_fn <| And.intro @sg_none <| And.intro @sg_alloc <| And.intro @sg_store <| And.intro @sg_app <| And.intro @pick_t <| And.intro @pick_f <| And.intro @nil_ptr <| And.intro @nil_iptr <| And.intro @contK_eq <| And.intro @contD_eq <| And.intro @kS_eq <| And.intro @kD_eq <| And.intro @oget <| And.intro @oget0 <| And.intro @ge0 <| And.intro @geS <| And.intro @set0 <| And.intro @setS <| And.intro @ta <| @ta2) := And.intro @bx_t <| And.intro @bx_i <| And.intro @bx_b <| And.intro @bx_s <| And.intro @bx_l <| And.intro @bx_a <| And.intro @dT <| And.intro @dF <| And.intro @tn1 <| And.intro @tn2 <| And.intro @kq_n <| And.intro @bb_n <| And.intro @tb1 <| And.intro @tb2 <| And.intro @tb3 <| And.intro @tb4 <| And.intro @sb1 <| And.intro @sb2 <| And.intro @r_move <| And.intro @r_assign <| And.intro @r_pick <| And.intro @r_build <| And.intro @r_nilCheck <| And.intro @r_binOp <| And.intro @r_unOp <| And.intro @r_convert <| And.intro @r_makeFunc <| And.intro @r_slice <| And.intro @r_fieldAddr <| And.intro @r_field <| And.intro @r_indexAddr <| And.intro @r_index <| And.intro @r_extract <| And.intro @r_alloc <| And.intro @r_box <| And.intro @r_load <| And.intro @r_store <| And.intro @r_buildSlice <| And.intro @r_append <| And.intro @r_len <| And.intro @r_max <| And.intro @r_min <| And.intro @r_call <| And.intro @r_callD <| And.intro @r_guard <| And.intro @w_guard <| And.intro @regS_nil <| And.intro @e_tmp <| And.intro @e_const <| And.intro @e_global <| And.intro @e_func <| And.intro @l_int <| And.intro @l_bool <| And.intro @l_str <| And.intro @l_strT <| And.intro @lc_strT <| And.intro @l_aggT <| And.intro @l_nil <| And.intro @l_agg <| And.intro @lc_int <| And.intro @lc_bool <| And.intro @lc_str <| And.intro @lc_nil <| And.intro @p_some <| And.intro @p_none <| And.intro @optK_some <| And.intro @optK_none <| And.intro @contV_eq <| And.intro @contE_eq <| And.intro @callF_fn <| And.intro @sg_none <| And.intro @sg_alloc <| And.intro @sg_store <| And.intro @sg_app <| And.intro @pick_t <| And.intro @pick_f <| And.intro @nil_ptr <| And.intro @nil_iptr <| And.intro @contK_eq <| And.intro @contD_eq <| And.intro @kS_eq <| And.intro @kD_eq <| And.intro @oget <| And.intro @oget0 <| And.intro @ge0 <| And.intro @geS <| And.intro @set0 <| And.intro @setS <| And.intro @ta <| @ta2
theorem SV : type_of% (And.intro @sl_mx <| And.intro @ga_eq <| And.intro @xa_own <| And.intro @xa_nil <| And.intro @xa_gr <| And.intro @xa_d <| And.intro @xa_c <| And.intro @xa_f <| And.intro @xa_ff <| And.intro @xa_o <| And.intro @xa_l <| And.intro @c_mp <| And.intro @on_mp <| And.intro @c_gr <| And.intro @on_gr <| And.intro @on_adr <| And.intro @c_agg <| And.intro @c_d <| And.intro @c_ptr <| And.intro @c_iptr <| And.intro @c_own <| And.intro @c_full <| And.intro @c_nil <| And.intro @c_fn <| And.intro @c_sl <| And.intro @al_agg <| And.intro @al_d <| And.intro @al_nil <| And.intro @al_own <| And.intro @al_full <| And.intro @al_fn <| And.intro @al_ptr <| And.intro @ld_ptr <| And.intro @ld_iptr <| And.intro @ld_glob <| And.intro @st_ptr <| And.intro @pt_eq <| And.intro @dc_nil <| And.intro @dc_cons <| And.intro @on_d <| And.intro @on_ptr <| And.intro @on_iptr <| And.intro @on_own <| And.intro @on_full <| And.intro @on_nil <| And.intro @on_fn <| And.intro @on_sl <| And.intro @sp_eq <| And.intro @fa_eq <| And.intro @fd_eq <| And.intro @ex_eq <| And.intro @un_neg <| And.intro @un_not <| And.intro @in1 <| And.intro @in2 <| And.intro @bw_d <| And.intro @bw_a <| And.intro @bw_ne <| And.intro @bw_nn <| And.intro @cw_str <| And.intro @cw_int <| And.intro @cw_by <| And.intro @cw_ru <| And.intro @by_df <| And.intro @st_df <| And.intro @sc_df <| And.intro @mm_c <| And.intro @mf_n <| And.intro @mf_c <| And.intro @nb_nil <| And.intro @nb_oth <| And.intro @nb_con <| And.intro @nb_own <| And.intro @nb_ful <| And.intro @li_oth <| And.intro @cv_int <| And.intro @cv_str <| And.intro @cb_t <| And.intro @b_add <| And.intro @b_sub <| And.intro @b_mul <| And.intro @b_quo <| And.intro @b_rem <| And.intro @b_eql <| And.intro @b_neq <| And.intro @b_lss <| And.intro @b_leq <| And.intro @b_gtr <| And.intro @b_geq <| And.intro @b_and <| And.intro @b_or <| And.intro @b_xor <| And.intro @b_shr <| And.intro @b_shl <| And.intro @b_seql <| And.intro @b_sneq <| And.intro @b_sadd <| And.intro @b_slss <| And.intro @b_beql <| And.intro @b_bneq <| And.intro @b_aeql <| And.intro @b_aneq <| And.intro @ae_t <| And.intro @ae_f <| And.intro @da_nil <| And.intro @da_cons <| And.intro @da_cnil <| And.intro @da_cown <| And.intro @da_cfull <| And.intro @da_cptr <| And.intro @dk_int <| And.intro @dk_bool <| And.intro @dk_str <| And.intro @ea_nil <| And.intro @ea_cons <| And.intro @ed_int <| And.intro @ed_bool <| And.intro @ed_str <| And.intro @li_list <| And.intro @li_own <| And.intro @li_full <| And.intro @li_nil <| And.intro @ln_eq <| And.intro @ia_eq <| And.intro @ix_agg <| And.intro @ix_str <| And.intro @bd_none <| And.intro @bd_some <| And.intro @sl_eq <| And.intro @bl_eq <| And.intro @fv_nil <| And.intro @fv_cons <| And.intro @rw_eq <| And.intro @rp_z <| And.intro @rp_s <| And.intro @ch_z <| And.intro @ch_s <| And.intro @ap_eq <| And.intro @tkS <| And.intro @tk0 <| And.intro @tkN <| And.intro @dpS <| And.intro @dp0 <| And.intro @dpN <| And.intro @gm <| And.intro @lm <| And.intro @xNA <| And.intro @xCA <| And.intro @xAN <| And.intro @xMC <| And.intro @xMN <| And.intro @xLC <| And.intro @xLN <| And.intro @xAC <| And.intro @xAL <| And.intro @Bool.and_true <| And.intro @Bool.true_and <| And.intro @xOS <| And.intro @xON <| And.intro @xBS <| And.intro @xIS <| And.intro @Nat.zero_add <| And.intro @and_self <| And.intro @true_and <| And.intro @and_true <| And.intro @false_and <| @and_false) := And.intro @sl_mx <| And.intro @ga_eq <| And.intro @xa_own <| And.intro @xa_nil <| And.intro @xa_gr <| And.intro @xa_d <| And.intro @xa_c <| And.intro @xa_f <| And.intro @xa_ff <| And.intro @xa_o <| And.intro @xa_l <| And.intro @c_mp <| And.intro @on_mp <| And.intro @c_gr <| And.intro @on_gr <| And.intro @on_adr <| And.intro @c_agg <| And.intro @c_d <| And.intro @c_ptr <| And.intro @c_iptr <| And.intro @c_own <| And.intro @c_full <| And.intro @c_nil <| And.intro @c_fn <| And.intro @c_sl <| And.intro @al_agg <| And.intro @al_d <| And.intro @al_nil <| And.intro @al_own <| And.intro @al_full <| And.intro @al_fn <| And.intro @al_ptr <| And.intro @ld_ptr <| And.intro @ld_iptr <| And.intro @ld_glob <| And.intro @st_ptr <| And.intro @pt_eq <| And.intro @dc_nil <| And.intro @dc_cons <| And.intro @on_d <| And.intro @on_ptr <| And.intro @on_iptr <| And.intro @on_own <| And.intro @on_full <| And.intro @on_nil <| And.intro @on_fn <| And.intro @on_sl <| And.intro @sp_eq <| And.intro @fa_eq <| And.intro @fd_eq <| And.intro @ex_eq <| And.intro @un_neg <| And.intro @un_not <| And.intro @in1 <| And.intro @in2 <| And.intro @bw_d <| And.intro @bw_a <| And.intro @bw_ne <| And.intro @bw_nn <| And.intro @cw_str <| And.intro @cw_int <| And.intro @cw_by <| And.intro @cw_ru <| And.intro @by_df <| And.intro @st_df <| And.intro @sc_df <| And.intro @mm_c <| And.intro @mf_n <| And.intro @mf_c <| And.intro @nb_nil <| And.intro @nb_oth <| And.intro @nb_con <| And.intro @nb_own <| And.intro @nb_ful <| And.intro @li_oth <| And.intro @cv_int <| And.intro @cv_str <| And.intro @cb_t <| And.intro @b_add <| And.intro @b_sub <| And.intro @b_mul <| And.intro @b_quo <| And.intro @b_rem <| And.intro @b_eql <| And.intro @b_neq <| And.intro @b_lss <| And.intro @b_leq <| And.intro @b_gtr <| And.intro @b_geq <| And.intro @b_and <| And.intro @b_or <| And.intro @b_xor <| And.intro @b_shr <| And.intro @b_shl <| And.intro @b_seql <| And.intro @b_sneq <| And.intro @b_sadd <| And.intro @b_slss <| And.intro @b_beql <| And.intro @b_bneq <| And.intro @b_aeql <| And.intro @b_aneq <| And.intro @ae_t <| And.intro @ae_f <| And.intro @da_nil <| And.intro @da_cons <| And.intro @da_cnil <| And.intro @da_cown <| And.intro @da_cfull <| And.intro @da_cptr <| And.intro @dk_int <| And.intro @dk_bool <| And.intro @dk_str <| And.intro @ea_nil <| And.intro @ea_cons <| And.intro @ed_int <| And.intro @ed_bool <| And.intro @ed_str <| And.intro @li_list <| And.intro @li_own <| And.intro @li_full <| And.intro @li_nil <| And.intro @ln_eq <| And.intro @ia_eq <| And.intro @ix_agg <| And.intro @ix_str <| And.intro @bd_none <| And.intro @bd_some <| And.intro @sl_eq <| And.intro @bl_eq <| And.intro @fv_nil <| And.intro @fv_cons <| And.intro @rw_eq <| And.intro @rp_z <| And.intro @rp_s <| And.intro @ch_z <| And.intro @ch_s <| And.intro @ap_eq <| And.intro @tkS <| And.intro @tk0 <| And.intro @tkN <| And.intro @dpS <| And.intro @dp0 <| And.intro @dpN <| And.intro @gm <| And.intro @lm <| And.intro @xNA <| And.intro @xCA <| And.intro @xAN <| And.intro @xMC <| And.intro @xMN <| And.intro @xLC <| And.intro @xLN <| And.intro @xAC <| And.intro @xAL <| And.intro @Bool.and_true <| And.intro @Bool.true_and <| And.intro @xOS <| And.intro @xON <| And.intro @xBS <| And.intro @xIS <| And.intro @Nat.zero_add <| And.intro @and_self <| And.intro @true_and <| And.intro @and_true <| And.intro @false_and <| @and_false
theorem SL : type_of% (And.intro @ff_q <| And.intro @ff_n <| And.intro @cf_d <| And.intro @cf_own <| And.intro @cf_full <| And.intro @cf_nil <| And.intro @cf_agg <| And.intro @cf_tuple <| And.intro @cf_fn <| And.intro @cf_undef <| And.intro @cf_ptr <| And.intro @cf_mp <| And.intro @cf_adr <| And.intro @cf_iptr <| And.intro @cg_nil <| And.intro @cg_cons <| And.intro @set0 <| And.intro @setS <| And.intro @fn_q <| And.intro @fn_n <| And.intro @in_q <| And.intro @in_n <| And.intro @v_tt <| And.intro @nq_r <| And.intro @nq_e <| And.intro @dq_r <| And.intro @dq_e <| And.intro @kq_n <| And.intro @kq_r <| And.intro @kq_e <| And.intro @bb_n <| And.intro @bb_r <| And.intro @bb_e <| And.intro @sq_n <| And.intro @sq_r <| And.intro @sq_e <| And.intro @bq_n <| And.intro @bq_r <| And.intro @bq_e <| And.intro @jq_r <| And.intro @jq_g <| And.intro @jo_g <| And.intro @le_n <| And.intro @le_c <| And.intro @lo_n <| And.intro @lo_c <| And.intro @ls_e <| And.intro @v_r <| And.intro @v_u1 <| And.intro @v_u2 <| And.intro @v_u3 <| And.intro @v_u4 <| And.intro @v_u5 <| And.intro @v_u6 <| And.intro @v_u7 <| And.intro @v_u8 <| And.intro @v_u9 <| And.intro @v_ua <| And.intro @v_ub <| And.intro @v_uc <| And.intro @v_ud <| And.intro @v_ue <| And.intro @v_uf <| And.intro @v_ug <| And.intro @v_gs <| And.intro @v_rr <| And.intro @v_gg <| And.intro @v_mm <| And.intro @v_nl <| And.intro @v_ol <| And.intro @v_fl <| And.intro @v_dd <| And.intro @v_oo <| And.intro @v_ff <| And.intro @v_aa <| And.intro @re_tmp <| And.intro @re_cell <| And.intro @ra_nil <| And.intro @ra_cons <| And.intro @rv_eq <| And.intro @rq_ret <| And.intro @rq_nor <| And.intro @cl_d <| And.intro @cl_own <| And.intro @cl_full <| And.intro @cl_nil <| And.intro @cl_agg <| And.intro @cl_tuple <| And.intro @cl_fn <| And.intro @cl_undef <| And.intro @cl_ptr <| And.intro @cl_mp <| And.intro @cl_adr <| And.intro @cl_iptr <| And.intro @cs_nil <| And.intro @cs_cons <| And.intro @oget <| And.intro @oget0 <| And.intro @ge0 <| And.intro @geS <| And.intro @tkS <| And.intro @tk0 <| And.intro @tkN <| And.intro @dpS <| And.intro @dp0 <| And.intro @pt_eq <| And.intro @xMC <| And.intro @xMN <| And.intro @xMA <| And.intro @xLA <| And.intro @xLC <| And.intro @xLN <| And.intro @lm <| And.intro @xNA <| And.intro @xCA <| And.intro @xAN <| @ta2) := And.intro @ff_q <| And.intro @ff_n <| And.intro @cf_d <| And.intro @cf_own <| And.intro @cf_full <| And.intro @cf_nil <| And.intro @cf_agg <| And.intro @cf_tuple <| And.intro @cf_fn <| And.intro @cf_undef <| And.intro @cf_ptr <| And.intro @cf_mp <| And.intro @cf_adr <| And.intro @cf_iptr <| And.intro @cg_nil <| And.intro @cg_cons <| And.intro @set0 <| And.intro @setS <| And.intro @fn_q <| And.intro @fn_n <| And.intro @in_q <| And.intro @in_n <| And.intro @v_tt <| And.intro @nq_r <| And.intro @nq_e <| And.intro @dq_r <| And.intro @dq_e <| And.intro @kq_n <| And.intro @kq_r <| And.intro @kq_e <| And.intro @bb_n <| And.intro @bb_r <| And.intro @bb_e <| And.intro @sq_n <| And.intro @sq_r <| And.intro @sq_e <| And.intro @bq_n <| And.intro @bq_r <| And.intro @bq_e <| And.intro @jq_r <| And.intro @jq_g <| And.intro @jo_g <| And.intro @le_n <| And.intro @le_c <| And.intro @lo_n <| And.intro @lo_c <| And.intro @ls_e <| And.intro @v_r <| And.intro @v_u1 <| And.intro @v_u2 <| And.intro @v_u3 <| And.intro @v_u4 <| And.intro @v_u5 <| And.intro @v_u6 <| And.intro @v_u7 <| And.intro @v_u8 <| And.intro @v_u9 <| And.intro @v_ua <| And.intro @v_ub <| And.intro @v_uc <| And.intro @v_ud <| And.intro @v_ue <| And.intro @v_uf <| And.intro @v_ug <| And.intro @v_gs <| And.intro @v_rr <| And.intro @v_gg <| And.intro @v_mm <| And.intro @v_nl <| And.intro @v_ol <| And.intro @v_fl <| And.intro @v_dd <| And.intro @v_oo <| And.intro @v_ff <| And.intro @v_aa <| And.intro @re_tmp <| And.intro @re_cell <| And.intro @ra_nil <| And.intro @ra_cons <| And.intro @rv_eq <| And.intro @rq_ret <| And.intro @rq_nor <| And.intro @cl_d <| And.intro @cl_own <| And.intro @cl_full <| And.intro @cl_nil <| And.intro @cl_agg <| And.intro @cl_tuple <| And.intro @cl_fn <| And.intro @cl_undef <| And.intro @cl_ptr <| And.intro @cl_mp <| And.intro @cl_adr <| And.intro @cl_iptr <| And.intro @cs_nil <| And.intro @cs_cons <| And.intro @oget <| And.intro @oget0 <| And.intro @ge0 <| And.intro @geS <| And.intro @tkS <| And.intro @tk0 <| And.intro @tkN <| And.intro @dpS <| And.intro @dp0 <| And.intro @pt_eq <| And.intro @xMC <| And.intro @xMN <| And.intro @xMA <| And.intro @xLA <| And.intro @xLC <| And.intro @xLN <| And.intro @lm <| And.intro @xNA <| And.intro @xCA <| And.intro @xAN <| @ta2
end Go.Proofs.YtjgngikiglhleaaGreatDoor
