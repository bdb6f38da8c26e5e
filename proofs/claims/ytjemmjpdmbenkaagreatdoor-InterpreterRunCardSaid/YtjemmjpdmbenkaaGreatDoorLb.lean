import Derived.Test.YtjemmjpdmbenkaaGreatDoorLz
import Derived.Test.YtjemmjpdmbenkaaGreatDoorG1
import Derived.Test.YtjemmjpdmbenkaaGreatDoorTy
import Derived.Lib.AppendIntMem
import Derived.Shelf.Strings.SlTrimAscii
namespace Go.Proofs.YtjemmjpdmbenkaaGreatDoor
open Go.RowKit
set_option linter.unusedVariables false
set_option linter.unusedSimpArgs false
set_option maxRecDepth 100000
theorem kp_grow(w:World)(k:Nat)(os:Array Obj):Kp w (Go.Sort.grow (w.drewN k) os):=Lib.below_grow _ w (Nat.le_refl _) k os
theorem spec_str{f:FuncId}{args:List V}{y:List UInt8}(he:bG Tryz.prog f=true)(h:∀(w:World) (F:Nat→Nat→Value→Prop) (vs:List Value),jj w F→rels (gc F) args vs→Calls Tryz.prog f ⟨vs⟩ w λe w'=>e=.returned (.string ⟨y.toArray⟩)∧Kp w w'):Spec gP f args (.d (.str y)) :=
 ⟨he,λw F vs hF hg hr=>(h w F vs hg hr).mono (by rintro e w' ⟨rfl,hk⟩;exact⟨_,rfl,hk,.d (.str _)⟩)⟩
variable {G:Cx}{vs:List Value}{x:V}
theorem args1(h:rels G [x] vs):∃v,vs=[v]∧rel G x v:=by
 match vs,h with
 | [v],h=>exact⟨v,rfl,(aW h).1⟩
 | [],h=>have:=h.1;simp at this
 | _::_::_,h=>have:=h.1;simp at this
theorem args2{y:V}(h:rels G [x,y] vs):∃v u,vs=[v,u]∧rel G x v∧rel G y u:=by
 match vs,h with
 | [v,u],h=>exact⟨v,u,rfl,(aW h).1,(aW (aW h).2).1⟩
 | [],h=>have:=h.1;simp at this
 | [_],h=>have:=h.1;simp at this
 | _::_::_::_,h=>have:=h.1;simp at this
def inI64(n:Int):Bool:=decide (-9223372036854775808≤n∧n≤9223372036854775807)
theorem tab_pow {w : World} (h : Tabs w) : Lib.TabIs Tryz.prog w "internal/strconv.uint64pow10" .u64 Lib.pow10Tab := by
 obtain⟨t,f,q⟩:=h.1 6 _ _ rfl
 have e0 : Tryz.prog.globalNamed "internal/strconv.uint64pow10" = some 6 := by kernel_rfl
 unfold Lib.TabIs World.var?
 rw[e0,Option.bind_some,q]
 exact congrArg some (by kernel_rfl)
def strconv_Itoa(a0:Int):Option (List UInt8):=av (inI64 a0) (some (Lib.itoa a0))
theorem jP{a0:Int}{y:List UInt8}(h:strconv_Itoa a0=some y):Spec gP 234 [.d (.int .i64 a0)] (.d (.str y)):=by
 obtain⟨hl,h⟩:=fZ h
 injection h with h;subst h
 have hl:=oj hl
 refine spec_str (by kernel_rfl) λw F vs hg hr=>?_
 obtain⟨v,rfl,r⟩:=args1 hr
 have hv:=fE r
 subst hv
 refine (Any.strconv_Itoa laysM171 a0 hl.1 hl.2 w (tab_pow hg.2)).mono ?_
 rintro e w' ⟨rfl,k,os,rfl⟩
 exact⟨rfl,kp_grow w k os⟩
theorem args3{y z:V}(h:rels G [x,y,z] vs):∃v u t,vs=[v,u,t]∧rel G x v∧rel G y u∧rel G z t:=by
 match vs,h with
 | [v,u,t],h=>exact⟨v,u,t,rfl,(aW h).1,(aW (aW h).2).1,(aW (aW (aW h).2).2).1⟩
 | [],h=>have:=h.1;simp at this
 | [_],h=>have:=h.1;simp at this
 | [_,_],h=>have:=h.1;simp at this
 | _::_::_::_::_,h=>have:=h.1;simp at this
def li(a0 a1:List UInt8):Option (List UInt8):=av (a1.all (λc=>decide (c.toNat<128))&&(decide (a0.length≤9223372036854775807)&&decide (a1.length<4294967281))) (some (Lib.trimS a0 a1))
theorem zero_set(w:World):(zeroValue 284).run Tryz.prog w=.ok (.agg (Array.replicate 256 (.bool false))) w:=by
 obtain⟨i,hi,hz⟩:∃i,Tryz.prog.info? 284=some i∧i.zero=some (.agg (Array.replicate 256 (.bool false))):=⟨_,rfl,by kernel_rfl⟩
 simp[zeroValue,typeInfo,hi,hz,program,Sem.run]
theorem jO{a0 a1:List UInt8}{y:List UInt8}(h:li a0 a1=some y):Spec gP 208 [.d (.str a0),.d (.str a1)] (.d (.str y)):=by
 obtain⟨hl,h⟩:=fZ h
 injection h with h;subst h
 simp only[Bool.and_eq_true,oo,List.all_eq_true]at hl
 refine spec_str (by kernel_rfl) λw F vs hg hr=>?_
 obtain⟨v,u,rfl,r1,r2⟩:=args2 hr
 have hv:=nO r1;have hu:=nO r2
 subst hv;subst hu
 exact Any.strings_Trim_ascii lays160 zero_set (by kernel_rfl) ⟨a0.toArray⟩ ⟨a1.toArray⟩ w hl.2.1 hl.2.2 (λj b hb=>hl.1 b (List.mem_of_getElem? hb))
def stringslite_IndexByte(a0:List UInt8)(a1:Int):Option Int:=some (Lib.indexByte a0 a1.toNat.toUInt8)
theorem eg{a0:List UInt8}{a1 y:Int}(h:stringslite_IndexByte a0 a1=some y):Spec gP 157 [.d (.str a0),.d (.int .u8 a1)] (.d (.int .i64 y)):=by
 injection h with h;subst h
 refine⟨by kernel_rfl,λw F vs hF hg hr=>?_⟩
 obtain⟨v,u,rfl,r1,r2⟩:=args2 hr
 have hv:=nO r1;have hu:=fE r2
 subst hv;subst hu
 refine (Any.stringslite_IndexByte lays217 ⟨a0.toArray⟩ a1 w).mono ?_
 rintro e w' ⟨rfl,rfl⟩
 exact⟨_,rfl,Kp.refl _,.d (.int _ _)⟩
def eK(a0:List UInt8)(a1 a2:Int):Option Int:=av (a1==10&&(a2==64&&decide (a0.length≤9223372036854775806))) (match Lib.parseIntB 64 a0 with | .ok v=>some v | _=>none)
theorem gv{a0:List UInt8}{a1 a2 y:Int}(h:eK a0 a1 a2=some y):Spec gP 194 [.d (.str a0),.d (.int .i64 a1),.d (.int .i64 a2)] (.tuple [.d (.int .i64 y),.d (.other .nilIface)]):=by
 obtain⟨hl,h2⟩:=fZ h
 clear h
 simp only[Bool.and_eq_true,beq_iff_eq,oo]at hl
 obtain⟨rfl,rfl,hl⟩:=hl
 split at h2
 · rename_i v hp
   injection h2 with h2;subst h2
   refine⟨by kernel_rfl,λw F vs hF hg hr=>?_⟩
   obtain⟨x,u,t,rfl,r1,r2,r3⟩:=args3 hr
   have hv:=nO r1;have hu:=fE r2;have ht:=fE r3
   subst hv;subst hu;subst ht
   refine (Any.strconv_ParseInt_10_at64_ok laysC174 ⟨a0.toArray⟩ hl v hp w).mono ?_
   rintro e w' ⟨rfl,hw⟩
   have hk:Kp w w':=by
     rcases hw with rfl | ⟨t,rfl⟩
     · exact Kp.refl _
     · exact Lib.bytesWorld_below _ _ _
   have hx:=ey (G:=gc λb o u=>F b o u∨ga w w' b o u) (x:=.d (.int .i64 v)) (.d (.int _ _)) (ey (x:=.d (.other .nilIface)) (.d (.other _ rfl)) (kG _))
   exact⟨_,rfl,hk,.tuple _ _ hx.1 hx.2⟩
 · cases h2
def count1(s:List UInt8):List UInt8→Option Int
 | [c]=>some (Lib.countByte s c:Int)
 | _=>none
def dj(a0 a1:List UInt8):Option Int:=count1 a0 a1
theorem dH{a0 a1:List UInt8}{y:Int}(h:dj a0 a1=some y):Spec gP 44 [.d (.str a0),.d (.str a1)] (.d (.int .i64 y)):=by
 unfold dj count1 at h
 split at h
 · rename_i c
   injection h with h;subst h
   refine⟨by kernel_rfl,λw F vs hF hg hr=>?_⟩
   obtain⟨v,u,rfl,r1,r2⟩:=args2 hr
   have hv:=nO r1;have hu:=nO r2
   subst hv;subst hu
   refine (Any.strings_Count_one lays138 ⟨a0.toArray⟩ c w).mono ?_
   rintro e w' ⟨rfl,rfl⟩
   exact⟨_,rfl,Kp.refl _,.d (.int _ _)⟩
 · cases h
end Go.Proofs.YtjemmjpdmbenkaaGreatDoor
