import Derived.Test.YtphbhdoljnokkaaGreatDoorLz
import Derived.Test.YtphbhdoljnokkaaGreatDoorG1
import Derived.Test.YtphbhdoljnokkaaGreatDoorTy
import Derived.Lib.AppendIntMem
import Derived.Shelf.Strings.SlTrimAscii
import Derived.Shelf.Strings.OnBuilder
open Bool renaming and_eq_true → zA
namespace Go.Proofs.YtphbhdoljnokkaaGreatDoor
open Go.RowKit
set_option linter.unusedVariables false
set_option linter.unusedSimpArgs false
set_option maxRecDepth 100000
theorem kp_grow(w:World)(k:Nat)(os:Array Obj):Kp w (Go.Sort.grow (w.drewN k) os):=Lib.below_grow _ w (Nat.le_refl _) k os
theorem spec_str{f:FuncId}{args:List V}{y:List UInt8}(he:cm Tryz.prog f=true)(h:∀(w:World) (F:Nat→Nat→Value→Prop) (vs:List Value),lP w F→rels (iz F) args vs→Calls Tryz.prog f ⟨vs⟩ w λe w'=>e=.returned (.string ⟨y.toArray⟩)∧Kp w w'):Spec gP f args (.d (.str y)) :=
 ⟨he,λw F vs hF hg hr=>(h w F vs hg hr).mono (by rintro e w' ⟨rfl,hk⟩;exact⟨_,rfl,hk,.d (.str _)⟩)⟩
variable {G:Cx}{vs:List Value}{x:V}
theorem args1(h:rels G [x] vs):∃v,vs=[v]∧rel G x v:=by
 match vs,h with
 | [v],h=>exact⟨v,rfl,(aV h).1⟩
 | [],h=>have:=h.1;simp at this
 | _::_::_,h=>have:=h.1;simp at this
theorem args2{y:V}(h:rels G [x,y] vs):∃v u,vs=[v,u]∧rel G x v∧rel G y u:=by
 match vs,h with
 | [v,u],h=>exact⟨v,u,rfl,(aV h).1,(aV (aV h).2).1⟩
 | [],h=>have:=h.1;simp at this
 | [_],h=>have:=h.1;simp at this
 | _::_::_::_,h=>have:=h.1;simp at this
def inI64(n:Int):Bool:=decide (-9223372036854775808≤n∧n≤9223372036854775807)
theorem tab_pow {w : World} (h : Tabs w) : Lib.TabIs Tryz.prog w "internal/strconv.uint64pow10" .u64 Lib.pow10Tab := by
 obtain⟨t,f,q⟩:=h.1 4 _ _ rfl
 have e0 : Tryz.prog.globalNamed "internal/strconv.uint64pow10" = some 4 := by kernel_rfl
 unfold Lib.TabIs World.var?
 rw[e0,Option.bind_some,q]
 exact congrArg some (by kernel_rfl)
def strconv_Itoa(a0:Int):Option (List UInt8):=aA (inI64 a0) (some (Lib.itoa a0))
theorem mE{a0:Int}{y:List UInt8}(h:strconv_Itoa a0=some y):Spec gP 335 [.d (.int .i64 a0)] (.d (.str y)):=by
 obtain⟨hl,h⟩:=gi h
 injection h with h;subst h
 have hl:=ra hl
 refine spec_str (by kernel_rfl) λw F vs hg hr=>?_
 obtain⟨v,rfl,r⟩:=args1 hr
 have hv:=fw r
 subst hv
 refine (Any.strconv_Itoa laysM171 a0 hl.1 hl.2 w (tab_pow hg.2)).mono ?_
 simp_all[kp_grow]
def trim1(s:List UInt8):List UInt8→Option (List UInt8)
 | [c]=>aA (decide (c.toNat<128)&&decide (s.length≤9223372036854775807)) (some (Lib.trimRightB s c))
 | _=>none
def gW(a0 a1:List UInt8):Option (List UInt8):=trim1 a0 a1
theorem jz{a0 a1:List UInt8}{y:List UInt8}(h:gW a0 a1=some y):Spec gP 201 [.d (.str a0),.d (.str a1)] (.d (.str y)):=by
 unfold gW trim1 at h
 split at h
 · rename_i c
   obtain⟨hl,h⟩:=gi h
   injection h with h;subst h
   simp only[zA,rc]at hl
   refine spec_str (by kernel_rfl) λw F vs hg hr=>?_
   obtain⟨v,u,rfl,r1,r2⟩:=args2 hr
   have hv:=lx r1;have hu:=lx r2
   subst hv;subst hu
   refine (Any.strings_TrimRight_one lays162 ⟨a0.toArray⟩ c hl.1 w hl.2).mono ?_
   simp_all[Kp.refl]
 · cases h
def fE(a0 a1:Int):Option (List UInt8):=aA (decide (0≤a0∧a0<18446744073709551616)&&a1==10) (some (Lib.decDigits a0.toNat))
theorem zero24(w:World)(T:TypeId)(nd:Nat)(hs:nd≤24):Go.Sort.Holds (λ(b:UInt8)=>Value.int .u8 (b.toNat:Int)) (w.alloc (.cells Lib.zeros24 T)) w.heap.size 0 (Array.replicate nd (0:UInt8)):=λj hj=>by
 have hj':j<nd:=by simp_all
 refine⟨?_,World.frozen?_alloc_new _ _ _ _⟩
 rw[World.cell?_alloc_new,Lib.zeros24_at _ (by omega),getElem!_pos _ j hj]
 simp
theorem fmtU_small(u:Nat)(hu:u<100)(w:World):Calls Tryz.prog 241 #[.int .u64 u,.int .i64 10] w λe w'=>e=.returned (.string ⟨(Lib.decDigits u).toArray⟩)∧Kp w w':=by
 have hcv:(convert 187 3 (.int .u64 (u:Int))).run Tryz.prog w=.ok (.int .i64 (u:Int)) w:=by
   (simp_all[convert,Conv.intToInt,IntKind.wrap_i64];omega)
 go_enter Tryz.func241,Tryz.ntmps241
 go_wp2_with (go_at_call 274;refine (Any.internal_strconv_small lays283 u hu _).mono ?_;rintro e w' ⟨rfl,rfl⟩)
 go_ret
 simp_all[Kp.refl]
theorem fmtU_big (u : Nat) (hu : 100 ≤ u) (hu64 : u < 18446744073709551616) (w : World) (htab : Lib.TabIs Tryz.prog w "internal/strconv.uint64pow10" .u64 Lib.pow10Tab) : Calls Tryz.prog 241 #[.int .u64 u, .int .i64 10] w λe w' => e = .returned (.string ⟨(Lib.decDigits u).toArray⟩) ∧ Kp w w' := by
 have hu1:1≤u:=by omega
 have hnd20:Lib.nDigits u≤20:=by have:=Lib.numDigits_eq u hu1 hu64;grind
 have hal:Tryz.prog.arrayLen 361=24:=by kernel_rfl
 have hsl:∀W,(Instr.sliceAt 361 (.pointer (some ⟨w.heap.size,0,none⟩)) none (some (.int .i64 (Lib.nDigits u:Int))) none).run Tryz.prog W=.ok (.slice (some ⟨w.heap.size,0,none⟩) (Lib.nDigits u) 24) W:=λW=>by
   rw[run_sliceAt_array_h W 361 ⟨w.heap.size,0,none⟩ (by simp_all[Program.elem]) .i64 (Lib.nDigits u:Int) (by omega) (by omega)]
   rw[hal,show Tryz.prog.elem 361=5 from by kernel_rfl]
   simp_all[slicedAt,Addr.add_lit]
 have hH0:=zero24 w 361 (Lib.nDigits u) (by omega)
 have hfmt:=Any.internal_strconv_formatBase10 lays285 w.heap.size 0 24 u (Array.replicate (Lib.nDigits u) 0) (w.alloc (.cells Lib.zeros24 361)) hH0 (by simp_all[Lib.lt_pow_nDigits]) hu64 (by grind)
 rw[Array.size_replicate]at hfmt
 have HH0:=hid hH0
 clear hH0 hal
 go_enter Tryz.func241,Tryz.ntmps241
 go_wp2_with (first
   | (go_at_call 275;refine (Any.internal_strconv_numDigits laysM284 u hu1 hu64 _ (Lib.tabIs_alloc htab _)).mono ?_;rintro e w' ⟨rfl,rfl⟩))
 go_at_call 276
 refine hfmt.mono ?_
 rintro e w' ⟨rfl,k,v',dk,rfl,hF⟩
 have hcv:(convert 132 9 (.slice (some ⟨w.heap.size,0,none⟩) (Lib.nDigits u) 24)).run Tryz.prog ((Go.Sort.putRow (λ(b:UInt8)=>Value.int .u8 (b.toNat:Int)) (w.alloc (.cells Lib.zeros24 361)) w.heap.size 0 dk).drewN k)=.ok (.string ⟨(Lib.decDigits u).toArray⟩) ((Go.Sort.putRow (λ(b:UInt8)=>Value.int .u8 (b.toNat:Int)) (w.alloc (.cells Lib.zeros24 361)) w.heap.size 0 dk).drewN k):=by
   have h:=run_convert_bytes_back (P:=Tryz.prog) ((Go.Sort.putRow (λ(b:UInt8)=>Value.int .u8 (b.toNat:Int)) (w.alloc (.cells Lib.zeros24 361)) w.heap.size 0 dk).drewN k) 132 9 5 ⟨w.heap.size,0,none⟩ 24 (Lib.decDigits u) Tryz.underlying132 Tryz.underlying5 Tryz.underlying9 (λj hj=>by
     rw[Lib.row_is_numeral hF j hj,Lib.add_plain,World.cell?_drewN]
     exact Go.Sort.cell?_putRow (λ(b:UInt8)=>Value.int .u8 (b.toNat:Int)) _ w.heap.size 0 _ dk HH0.out (by rw[hF.size,Array.size_replicate]) j (by rw[hF.size];simp_all[Lib.decDigits_length]))
   simp_all[Lib.decDigits_length]
 go_wp2
 go_ret
 refine⟨rfl,?_⟩
 rw[Go.Sort.alloc_eq_grow]
 obtain⟨os',_,e⟩:=Go.Sort.putRow_grow_new (λ(b:UInt8)=>Value.int .u8 (b.toNat:Int)) w #[.cells Lib.zeros24 361] w.heap.size 0 dk (Nat.le_refl _)
 rw[e]
 exact kp_grow w k os'
theorem iY{a0 a1:Int}{y:List UInt8}(h:fE a0 a1=some y):Spec gP 200 [.d (.int .u64 a0),.d (.int .i64 a1)] (.d (.str y)):=by
 obtain⟨hl,h⟩:=gi h
 injection h with h;subst h
 simp only[zA,beq_iff_eq]at hl
 obtain⟨hl,rfl⟩:=hl
 have hl:=ra hl
 refine spec_str (by kernel_rfl) λw F vs hg hr=>?_
 obtain⟨v,u,rfl,r1,r2⟩:=args2 hr
 have hv:=fw r1;have hu:=fw r2
 subst hv;subst hu
 obtain⟨n,rfl⟩:∃n:Nat,a0=n:=⟨a0.toNat,by omega⟩
 have key:Calls Tryz.prog 241 #[.int .u64 n,.int .i64 10] w λe w'=>e=.returned (.string ⟨(Lib.decDigits n).toArray⟩)∧Kp w w':=by
   by_cases hs:n<100
   simp_all[fmtU_small]
   · exact fmtU_big n (by omega) (by omega) w (tab_pow hg.2)
 rw[Int.toNat_natCast]
 go_enter Tryz.func200,Tryz.ntmps200
 go_wp2_with (go_at_call 241;refine key.mono ?_;rintro e w' ⟨rfl,hk⟩)
 go_ret
 simp_all
theorem args3{y z:V}(h:rels G [x,y,z] vs):∃v u t,vs=[v,u,t]∧rel G x v∧rel G y u∧rel G z t:=by
 match vs,h with
 | [v,u,t],h=>exact⟨v,u,t,rfl,(aV h).1,(aV (aV h).2).1,(aV (aV (aV h).2).2).1⟩
 | [],h=>have:=h.1;simp at this
 | [_],h=>have:=h.1;simp at this
 | [_,_],h=>have:=h.1;simp at this
 | _::_::_::_::_,h=>have:=h.1;simp at this
def oo(a0 a1:List UInt8):Option (List UInt8):=aA (a1.all (λc=>decide (c.toNat<128))&&(decide (a0.length≤9223372036854775807)&&decide (a1.length<4294967281))) (some (Lib.trimS a0 a1))
theorem zero_set(w:World):(zeroValue 329).run Tryz.prog w=.ok (.agg (Array.replicate 256 (.bool false))) w:=by
 obtain⟨i,hi,hz⟩:∃i,Tryz.prog.info? 329=some i∧i.zero=some (.agg (Array.replicate 256 (.bool false))):=⟨_,rfl,by kernel_rfl⟩
 simp_all[zeroValue,typeInfo]
theorem mC{a0 a1:List UInt8}{y:List UInt8}(h:oo a0 a1=some y):Spec gP 310 [.d (.str a0),.d (.str a1)] (.d (.str y)):=by
 obtain⟨hl,h⟩:=gi h
 injection h with h;subst h
 simp only[zA,rc,List.all_eq_true]at hl
 refine spec_str (by kernel_rfl) λw F vs hg hr=>?_
 obtain⟨v,u,rfl,r1,r2⟩:=args2 hr
 have hv:=lx r1;have hu:=lx r2
 subst hv;subst hu
 exact Any.strings_Trim_ascii lays160 zero_set (by kernel_rfl) ⟨a0.toArray⟩ ⟨a1.toArray⟩ w hl.2.1 hl.2.2 (λj b hb=>hl.1 b (List.mem_of_getElem? hb))
def stringslite_IndexByte(a0:List UInt8)(a1:Int):Option Int:=some (Lib.indexByte a0 a1.toNat.toUInt8)
theorem ig{a0:List UInt8}{a1 y:Int}(h:stringslite_IndexByte a0 a1=some y):Spec gP 247 [.d (.str a0),.d (.int .u8 a1)] (.d (.int .i64 y)):=by
 injection h with h;subst h
 refine⟨by kernel_rfl,λw F vs hF hg hr=>?_⟩
 obtain⟨v,u,rfl,r1,r2⟩:=args2 hr
 have hv:=lx r1;have hu:=fw r2
 subst hv;subst hu
 refine (Any.stringslite_IndexByte lays217 ⟨a0.toArray⟩ a1 w).mono ?_
 rintro e w' ⟨rfl,rfl⟩
 exact⟨_,rfl,Kp.refl _,.d (.int _ _)⟩
def iv(a0:List UInt8)(a1 a2:Int):Option Int:=aA (a1==10&&(a2==64&&decide (a0.length≤9223372036854775806))) (match Lib.parseIntB 64 a0 with | .ok v=>some v | _=>none)
theorem j0{a0:List UInt8}{a1 a2 y:Int}(h:iv a0 a1 a2=some y):Spec gP 286 [.d (.str a0),.d (.int .i64 a1),.d (.int .i64 a2)] (.tuple [.d (.int .i64 y),.d (.other .nilIface)]):=by
 obtain⟨hl,h2⟩:=gi h
 clear h
 simp only[zA,beq_iff_eq,rc]at hl
 obtain⟨rfl,rfl,hl⟩:=hl
 split at h2
 · rename_i v hp
   injection h2 with h2;subst h2
   refine⟨by kernel_rfl,λw F vs hF hg hr=>?_⟩
   obtain⟨x,u,t,rfl,r1,r2,r3⟩:=args3 hr
   have hv:=lx r1;have hu:=fw r2;have ht:=fw r3
   subst hv;subst hu;subst ht
   refine (Any.strconv_ParseInt_10_at64_ok laysC174 ⟨a0.toArray⟩ hl v hp w).mono ?_
   rintro e w' ⟨rfl,hw⟩
   have hk:Kp w w':=by
     rcases hw with rfl | ⟨t,rfl⟩
     · exact Kp.refl _
     · exact Lib.bytesWorld_below _ _ _
   have hx:=dM (G:=iz λb o u=>F b o u∨fresh w w' b o u) (x:=.d (.int .i64 v)) (.d (.int _ _)) (dM (x:=.d (.other .nilIface)) (.d (.other _ rfl)) (i6 _))
   exact⟨_,rfl,hk,.tuple _ _ hx.1 hx.2⟩
 · cases h2
def strings_Join(a0:List (List UInt8))(a1:List UInt8):Option (List UInt8):=aA (decide ((Lib.join a0 a1).length≤16777216)&&decide (a0.length≤16777216)) (some (Lib.join a0 a1))
set_option maxHeartbeats 4000000 in
theorem mD{a0:List (List UInt8)}{a1:List UInt8}{y:List UInt8}(h:strings_Join a0 a1=some y):Spec gP 134 [.d (.list (List.map eStr a0)),.d (.str a1)] (.d (.str y)):=by
 obtain⟨hl,h⟩:=gi h
 injection h with h;subst h
 simp only[zA,rc]at hl
 refine⟨by kernel_rfl,λw F vs hF hg hr=>?_⟩
 obtain⟨v,u,rfl,r1,r2⟩:=args2 hr
 have hu:=lx r2
 subst hu
 have hmap:(a0.map λs=>(⟨s.toArray⟩:ByteArray)).map (·.data.toList)=a0:=by
   simp_all[List.map_congr_left]
 cases r1 with
 | d q =>
   generalize hes:List.map eStr a0=es at q
   cases q with
   | nil A c =>
     have ha:a0=[]:=by simp_all
     subst ha
     refine (Any.strings_Join_none lays156 nb A c ⟨a1.toArray⟩ w).mono ?_
     rintro e w' ⟨rfl,rfl⟩
     exact⟨_,rfl,Kp.refl _,.d (.str _)⟩
   | list _ b off c sz u hne hcap hs hFc hr' =>
     subst hes
     have hcell:∀(j:Nat) s,a0[j]? = some s→F b (off+j) (.string ⟨s.toArray⟩):=by
       intro j s hj
       have he:(List.map eStr a0)[j]? = some (eStr s):=by simp_all
       have h1:=hs j _ he
       have h2:=hFc j 0 _ (.str s) he rfl
       have h3:=hr' j 0 _ (.str s) he rfl
       have hsz:sz=1:=h1.symm
       subst hsz
       generalize u j 0=q at h2 h3
       cases h3
       simp_all[iz]
     obtain⟨s0,hs0⟩:∃s,a0[0]? = some s:=⟨_,List.getElem?_eq_getElem (by simp_all)⟩
     have hb:b<w.heap.size:=(hF _ _ _ (hcell 0 s0 hs0)).1
     obtain⟨xs,hxs⟩:∃xs:List ByteArray,xs=a0.map λs=>(⟨s.toArray⟩:ByteArray):=⟨_,rfl⟩
     have hlen:xs.length=(List.map eStr a0).length:=by simp_all
     have hla:xs.length=a0.length:=by simp_all
     rw[←hxs]at hmap
     have h1:∀(j:Nat) x,xs[j]? = some x→w.cell? ⟨b,off+j,none⟩=some (.string x):=by
       grind
     have h2:xs.length≤140737488355328:=by omega
     have h3:xs.length≤c:=by omega
     have h4:(Lib.join (xs.map (·.data.toList)) (⟨a1.toArray⟩:ByteArray).data.toList).length≤140737488355328:=by
       grind
     have hJ:=Any.strings_Join lays156 nb b off c xs ⟨a1.toArray⟩ w h1 hb h2 h3 h4
     rw[hmap,hlen]at hJ
     clear h1 h2 h3 h4 hs hFc hr' hcell
     refine Calls.mono hJ ?_
     rintro e w' ⟨rfl,hk⟩
     exact⟨_,rfl,hk,.d (.str _)⟩
def count1(s:List UInt8):List UInt8→Option Int
 | [c]=>some (Lib.countByte s c:Int)
 | _=>none
def fX(a0 a1:List UInt8):Option Int:=count1 a0 a1
theorem gz{a0 a1:List UInt8}{y:Int}(h:fX a0 a1=some y):Spec gP 59 [.d (.str a0),.d (.str a1)] (.d (.int .i64 y)):=by
 unfold fX count1 at h
 split at h
 · rename_i c
   injection h with h;subst h
   refine⟨by kernel_rfl,λw F vs hF hg hr=>?_⟩
   obtain⟨v,u,rfl,r1,r2⟩:=args2 hr
   have hv:=lx r1;have hu:=lx r2
   subst hv;subst hu
   refine (Any.strings_Count_one lays138 ⟨a0.toArray⟩ c w).mono ?_
   rintro e w' ⟨rfl,rfl⟩
   exact⟨_,rfl,Kp.refl _,.d (.int _ _)⟩
 · cases h
end Go.Proofs.YtphbhdoljnokkaaGreatDoor
