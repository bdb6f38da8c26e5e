/-
  Skl, Smn, So, Sy2 in one text.
-/
import Derived.Test.YtphbhdoljnokkaaGreatDoorS2
import Derived.Orders
open Bool renaming and_eq_true → zA,or_eq_true → zK,eq_false_iff → zM,false_eq_true → zQ
open Nat renaming zero_le → zB,eq_or_lt_of_le → zD,le_refl → zE,lt_trichotomy → zH,lt_or_ge → zI,le_of_lt → zT
open List renaming any_eq_true → zF,map_congr_left → zG,range → zJ,replicate → zL,eq_nil_of_length_eq_zero → zO,all_eq_true → zR
namespace Go.Proofs.YtphbhdoljnokkaaGreatDoor
open Go.RowKit
set_option linter.unusedVariables false
set_option linter.unusedSimpArgs false
variable {P:Program}
theorem pureS_congr(g:Pg P)(o:Oper)(ρ ρ':Operand→V)(h:∀x∈o.op.operands,ρ x=ρ' x):oK g o ρ=oK g o ρ':=by
 obtain⟨dst,op,type,pos,after,guard⟩:=o
 have pairs:∀ps:Array (Nat×Operand),(∀x∈ps.map (·.2),ρ x=ρ' x)→(ps.toList.map λp=>(p.1,ρ p.2))=(ps.toList.map λp=>(p.1,ρ' p.2)):=λps hp =>
  zG λp hm=>by
   obtain⟨i,x⟩:=p
   simp only[hp x (Array.mem_map.2 ⟨(i,x),by simpa using hm,rfl⟩)]
 cases op<;>simp only[Op.operands]at h<;>simp only[oK]
 case build t ps=>rw[pairs ps λx hx=>h x (by simpa using hx)]
 case makeFunc fn first captured =>
  cases fn<;>simp only
  rw[zG (l:=captured.toList) λx hx=>h x (by simp at hx;simp[hx])]
 case slice t x lo hi mx=>cases lo<;>cases hi<;>cases mx<;>simp_all
 case call c =>
  split
  ·rename_i x t hcal hargs htys
   rw[h x (by
    have ha:c.args=#[x]:=by apply Array.ext';simp[hargs]
    simp[Call.operands,ha])]
  ·rfl
 all_goals (first | rfl | (simp_all;done))
def opLoad:Op→Bool
 | .load _ _=>true
 | _=>false
def kn:Op→Bool
 | .store _ _ _=>true
 | _=>false
def opApp:Op→Bool
 | .call ⟨.builtin .append,_,_⟩=>true
 | _=>false
def opNew:Op→Bool
 | .alloc _=>true
 | .box _ _=>true
 | .buildSlice _ _ _=>true
 | _=>false
def qa:Op→Option Operand
 | .load _ a=>some a
 | .store _ a _=>some a
 | _=>none
def Ef.isAlloc:Ef→Bool
 | .alloc _=>true
 | _=>false
def Ef.isStore:Ef→Bool
 | .store _ _=>true
 | _=>false
def Ef.isApp:Ef→Bool
 | .app _ _ _=>true
 | _=>false
variable {g:Pg P}{k:Nat}{lns:Nat→Option (TypeId×Nat)}{o:Oper}{obs:Nat→Option (List V)}{t:Nat}{y:V}{ρ:Operand→V}
theorem stepS0_kind{f:Ef}(h:fJ g obs lns k t o ρ=some (y,f)) :
  (f.isAlloc=true→opNew o.op=true)∧(f.isStore=true→kn o.op=true)∧(f.isApp=true→opApp o.op=true):=by
 unfold fJ at h
 split at h<;>rename_i hop
 grind[Ef.isStore,Ef.isApp,opNew]
 grind[Ef.isStore,Ef.isApp,opNew]
 grind[Ef.isAlloc,Ef.isStore,Ef.isApp]
 grind[Ef.isAlloc,Ef.isApp,kn]
 ·unfold rowV at h
  split at h<;>grind[Ef.isStore,Ef.isApp,opNew]
 ·rename_i c
  split at h
  ·rename_i x y' tt tt' hcal hargs htys
   have hA:opApp o.op=true:=by
    obtain⟨cal,args,tys⟩:=c
    simp only at hcal
    subst hcal
    rw[hop];rfl
   grind[appV,Ef.isAlloc,Ef.isStore]
  grind[Ef.isAlloc,Ef.isStore,Ef.isApp]
  ·cases h
 grind[Ef.isAlloc,Ef.isStore,Ef.isApp]
theorem stepS_kind{f:Ef}(h:il g obs lns k t o ρ=some (y,f)) :
  (f.isAlloc=true→opNew o.op=true)∧(f.isStore=true→kn o.op=true)∧(f.isApp=true→opApp o.op=true):=by
 grind[il,Ef.isAlloc,Ef.isStore,Ef.isApp,stepS0_kind]
theorem extS_congr(o:Oper)(ρ ρ':Operand→V)(h:∀x∈o.op.operands,ρ x=ρ' x):extS P o ρ=extS P o ρ':=by
 obtain⟨dst,op,type,pos,after,guard⟩:=o
 cases op
 case convert a b x=>simp only[extS];rw[h x (by simp[Op.operands])]
 case binOp op t x y t'=>simp only[extS];rw[h x (by simp[Op.operands]),h y (by simp[Op.operands])]
 case call c =>
  have:c.args.toList.map ρ=c.args.toList.map ρ':=zG λx hx=>h x (by simp only[Op.operands,Call.operands];cases c.callee<;>simp_all)
  simp only[extS,this]
 all_goals rfl
variable {lns':Nat→Option (TypeId×Nat)}{obs':Nat→Option (List V)}{ρ':Operand→V}
theorem stepS0_same{k' t':Nat}{f:Ef}(h:fJ g obs lns k t o ρ=some (y,f))
  (hρ:∀x∈o.op.operands,ρ x=ρ' x) (ho:∀j off x cs,qa o.op=some x→ρ x=.ptr j off→obs j=some cs→obs' j=some cs) (hl:opApp o.op=true→lns'=lns∧t'=t) (hk:f.isAlloc=true→k'=k) :
  fJ g obs' lns' k' t' o ρ'=some (y,f):=by
 obtain⟨dst,op,type,pos,after,guard⟩:=o
 have hpure:=pureS_congr g ⟨dst,op,type,pos,after,guard⟩ ρ ρ' hρ
 have pairs:∀ps:Array (Nat×Operand),(∀x∈ps.map (·.2),ρ x=ρ' x)→(ps.toList.map λp=>(p.1,ρ p.2))=(ps.toList.map λp=>(p.1,ρ' p.2)):=λps hp =>
  zG λp hm=>by
   obtain⟨i,x⟩:=p
   simp only[hp x (Array.mem_map.2 ⟨(i,x),by simpa using hm,rfl⟩)]
 cases op
 case alloc e =>
  simp only[fJ]at h ⊢
  split at h
  ·split at h
   ·injection h with h;injection h with h1 h2;subst h1;subst h2
    rw[hk rfl]
   ·cases h
  ·cases h
 case box e x =>
  simp only[fJ]at h ⊢
  rw[←hρ x (by simp[Op.operands])]
  split at h
  ·injection h with h;injection h with h1 h2;subst h1;subst h2
   rw[hk rfl]
  ·cases h
 case load ty x =>
  simp only[fJ]at h ⊢
  rw[←hρ x (by simp[Op.operands])]
  split at h
  ·rename_i j off hx
   split at h
   ·rename_i cs hcs
    try simp only[hx]
    rw[ho j off x cs rfl hx hcs]
    exact h
   ·cases h
  ·rename_i cs off hx
   try simp only[hx]
   exact h
  ·rename_i b off hx
   try simp only[hx]
   exact h
  ·cases h
 case store ty x z =>
  simp only[fJ]at h ⊢
  rw[←hρ x (by simp[Op.operands]),←hρ z (by simp[Op.operands])]
  split at h
  ·rename_i j off hx
   split at h
   ·rename_i cs xs n hcs hxs hn
    try simp only[hx]
    rw[ho j off x cs rfl hx hcs,hxs,hn]
    exact h
   ·cases h
  ·cases h
 case buildSlice ty len parts =>
  simp only[fJ]at h ⊢
  rw[←pairs parts λx hx=>hρ x (by simpa [Op.operands] using hx)]
  unfold rowV at h ⊢
  split at h
  ·split at h
   ·split at h
    ·split at h
     ·rename_i hc
      split at h
      ·rename_i out hf
       split at h
       ·rename_i ds hd
        try simp only[hf,hd]
        rw[qV hc]
        exact h
       ·rename_i hd
        try simp only[hf,hd]
        rw[qV hc]
        injection h with h;injection h with h1 h2;subst h1;subst h2
        rw[hk rfl]
      ·cases h
     ·cases h
    ·cases h
   ·cases h
  ·cases h
 case call c =>
  simp only[fJ]at h ⊢
  split at h
  ·rename_i x z tt tt' hcal hargs htys
   have ha:c.args=#[x,z]:=by apply Array.ext';simp[hargs]
   rw[←hρ x (by simp[Op.operands,Call.operands,ha]),←hρ z (by simp[Op.operands,Call.operands,ha])]
   have hA:opApp (.call c)=true:=by
    obtain⟨cal,args,tys⟩:=c
    simp only at hcal
    subst hcal
    rfl
   obtain⟨e1,e2⟩:=hl hA
   rw[e1,e2]
   exact h
  ·rename_i x ty hcal hargs htys
   have ha:c.args=#[x]:=by apply Array.ext';simp[hargs]
   rw[←hρ x (by simp[Op.operands,Call.operands,ha])]
   exact h
  ·cases h
 all_goals
  simp only[fJ]at h ⊢
  rw[←hpure]
  exact h
theorem stepS_same{k' t':Nat}{f:Ef}(h:il g obs lns k t o ρ=some (y,f))
  (hρ:∀x∈o.op.operands,ρ x=ρ' x) (ho:∀j off x cs,qa o.op=some x→ρ x=.ptr j off→obs j=some cs→obs' j=some cs) (hl:opApp o.op=true→lns'=lns∧t'=t) (hk:f.isAlloc=true→k'=k) :
  il g obs' lns' k' t' o ρ'=some (y,f):=by
 grind[il,extS_congr,stepS0_same]
def ju(o:Oper):List Nat:=(o.after.toList.filter (Region.binds .any ·)).map (·.on)
def clos:List Oper→List (List Nat)→List (List Nat)
 | [],acc=>acc
 | o::rest,acc=>clos rest (acc++[(ju o++(ju o).flatMap λk=>acc.getD k []).eraseDups])
theorem clos_ok{ops:Array Oper}{lis:Nat→Prop}(hcl:∀i o,ops[i]? = some o→lis i→∀p∈ju o,lis p) :
  ∀(rest:List Oper) (acc:List (List Nat)),(∀j,rest[j]? = ops[acc.length+j]?)→(∀i k,k∈acc.getD i []→lis i→lis k)→∀i k,k∈(clos rest acc).getD i []→lis i→lis k
 | [],acc,_,h=>h
 | o::rest,acc,hr,h=>by
  unfold clos
  refine clos_ok hcl rest _ (λj=>?_) ?_
  ·have:=hr (j+1)
   grind
  ·intro i k hk hi
   rw[List.getD_eq_getElem?_getD]at hk
   rcases zI i acc.length with q | q
   grind
   ·rcases zD q with e | q
    ·subst e
     rw[List.getElem?_append_right (zE _)]at hk
     simp only[Nat.sub_self,List.getElem?_cons_zero,Option.getD_some,List.mem_eraseDups,List.mem_append,List.mem_flatMap]at hk
     have ho:ops[acc.length]? = some o:=by have:=hr 0;simp_all
     grind
    grind
def reads(ops:Array Oper)(o:Oper):List Tmp:=o.looksAt ops
def touchT(o:Op):Option Tmp:=match qa o with | some (.tmp a)=>some a | _=>none
def laterW(ops:Array Oper)(i:Nat)(t:Tmp):Bool:=(ops.toList.drop i).any λo=>o.dst==some t
def sepPair(ops:Array Oper)(i j:Nat)(x y:Oper):Option (Tmp×Tmp) :=
 match touchT x.op,touchT y.op with
 | some a,some b=>if laterW ops i a||laterW ops j b then none else some (a,b)
 | _,_=>none
def needE(x y:Op):Bool:=(kn y&&(opLoad x||opNew x||kn x))||(kn x&&opLoad y)
def pairOk(ops:Array Oper)(C:List (List Nat))(i j:Nat)(x y:Oper):Bool :=
 ((match x.dst with | some d=>(reads ops y).contains d||y.dst==some d | none=>false)==false||(C.getD j []).contains i) &&
 ((match y.dst with | some d=>(reads ops x).contains d | none=>false)==false||(C.getD j []).contains i) &&
 !(opApp x.op&&opApp y.op) &&
 (!needE x.op y.op||(C.getD j []).contains i||(sepPair ops i j x y).isSome)
def gu(ops:Array Oper):Bool :=
 let C:=clos ops.toList []
 (ops.toList.zipIdx.all λp=>(ju p.1).all λk=>decide (k<p.2)) &&
 ops.toList.zipIdx.all λp=>ops.toList.zipIdx.all λq=>!decide (p.2<q.2)||pairOk ops C p.2 q.2 p.1 q.1
def seps(ops:Array Oper):List (Tmp×Tmp) :=
 let C:=clos ops.toList []
 ops.toList.zipIdx.flatMap λp=>ops.toList.zipIdx.filterMap λq=>if (decide (p.2<q.2)&&needE p.1.op q.1.op&&!(C.getD q.2 []).contains p.2)=true then sepPair ops p.2 q.2 p.1 q.1 else none
def sepV:V→V→Bool
 | .ptr k _,.ptr k' _=>k != k'
 | _,_=>true
def sepL:List (Tmp×Tmp)→Fr→Bool
 | [],_=>true
 | (a,b)::r,fr=>sepV (fr.getD a .undef) (fr.getD b .undef)&&sepL r fr
theorem sepL_mem:∀{l:List (Tmp×Tmp)} {fr:Fr} {a b:Tmp},sepL l fr=true→(a,b)∈l→sepV (fr.getD a .undef) (fr.getD b .undef)=true
 | [],_,_,_,_,h=>by cases h
 | (c,d)::r,fr,a,b,h,hm=>by
  simp only[sepL,zA]at h
  rcases List.mem_cons.1 hm with e | e
  simp_all
  ·exact sepL_mem h.2 e
variable {i:Nat}{ops:Array Oper}
theorem drawOk_pred(h:gu ops=true)(ho:ops[i]? = some o)(hk:k∈ju o):k<i:=by
 simp_all[gu,List.mem_zipIdx_iff_getElem?]
variable {j:Nat}{x:Oper}
theorem lL(h:gu ops=true){y:Oper}(hx:ops[i]? = some x)(hy:ops[j]? = some y)(hij:i<j):pairOk ops (clos ops.toList []) i j x y=true:=by
 unfold gu at h
 simp only[zA,zR]at h
 have:=h.2 (x,i) (by grind) (y,j) (by grind)
 simp_all
theorem drawOk_sep(h:gu ops=true){y:Oper}(hx:ops[i]? = some x)(hy:ops[j]? = some y)(hij:i<j)(hn:needE x.op y.op=true) :
  i∈(clos ops.toList []).getD j []∨∃a b,touchT x.op=some a∧touchT y.op=some b∧laterW ops i a=false∧laterW ops j b=false∧(a,b)∈seps ops:=by
 have hp:=lL h hx hy hij
 unfold pairOk at hp
 simp only[zA]at hp
 have h2:=hp.2
 rw[hn]at h2
 simp only[Bool.not_true,Bool.false_or,zK]at h2
 by_cases hc:((clos ops.toList []).getD j []).contains i=true
 simp_all
 ·right
  have hs:=h2.resolve_left hc
  cases hsp:sepPair ops i j x y with
  | none=>simp_all
  | some ab =>
   obtain⟨a,b⟩:=ab
   have hsp':=hsp
   unfold sepPair at hsp
   split at hsp
   ·rename_i a' b' e1 e2
    split at hsp
    ·cases hsp
    ·rename_i hw
     injection hsp with hsp;injection hsp with z1 z2;subst z1;subst z2
     simp only[zK,not_or,Bool.not_eq_true]at hw
     refine⟨a',b',e1,e2,hw.1,hw.2,?_⟩
     unfold seps
     refine List.mem_flatMap.2 ⟨(x,i),by grind,List.mem_filterMap.2 ⟨(y,j),by grind,?_⟩⟩
     simp_all
   ·cases hsp
def obsOf(s:Sg):Nat→Option (List V):=λk=>s.obs[k]?
def lnsOf(s:Sg):Nat→Option (TypeId×Nat):=λk=>s.lns[k]?
def One{P:Program}(g:Pg P)(ops:Array Oper)(fr:Fr)(s:Sg)(o:Oper)(y:V)(f:Ef):Prop :=
 (bo ops fr o=some false∧y=.skip∧f=.none) ∨
 (bo ops fr o=some true∧∃p args tys fid xs,o.op=.call ⟨.value p,args,tys⟩∧callS fr ⟨.value p,args,tys⟩=some (fid,xs)∧Spec g fid (xs.map V.cleanF) y∧f=.none) ∨
 (bo ops fr o=some true∧il g (obsOf s) (lnsOf s) s.obs.length s.lns.length o (aN fr)=some (y,f))
structure Tr {P:Program} (g:Pg P) (ops:Array Oper) (m:Nat) (frs:Nat→Fr) (sgs:Nat→Sg) (res:Nat→V) (eff:Nat→Ef):Prop where
 one:∀i o,m≤i→ops[i]? = some o→One g ops (frs i) (sgs i) o (res i) (eff i)
 fr:∀i o,m≤i→ops[i]? = some o→frs (i+1)=putF (frs i) o.dst (res i)
 sg:∀i o,m≤i→ops[i]? = some o→sgs (i+1)=(eff i).sg (sgs i)
theorem trace_of{P:Program}{g:Pg P}{ops:Array Oper}{K:Fr→Sg→Prop}:∀(l:List Oper) (m:Nat) (fr:Fr) (s:Sg),l=ops.toList.drop m→m≤ops.size→regS g true ops l fr s K →
  ∃frs sgs res eff,frs m=fr∧sgs m=s∧Tr g ops m frs sgs res eff∧K (frs ops.size) (sgs ops.size)
 | [],m,fr,s,hl,hm,h=>by
  have:m=ops.size:=by
   (simp_all;omega)
  subst this
  refine⟨λ_=>fr,λ_=>s,λ_=>.undef,λ_=>.none,rfl,rfl,⟨?_,?_,?_⟩,h⟩
  all_goals (simp_all)
 | o::rest,m,fr,s,hl,hm,h=>by
  have hlt:m<ops.size:=by
   have:=congrArg List.length hl
   grind
  have ho:ops[m]? = some o:=by
   have:(ops.toList.drop m)[0]? = some o:=by grind
   simp_all
  have hrest:rest=ops.toList.drop (m+1):=by
   rw[←List.drop_drop,←hl];rfl
  have fin:∀(y:V) (f:Ef),One g ops fr s o y f→regS g true ops rest (putF fr o.dst y) (f.sg s) K→∃frs sgs res eff,frs m=fr∧sgs m=s∧Tr g ops m frs sgs res eff∧K (frs ops.size) (sgs ops.size):=by
   intro y f hone hr
   obtain⟨frs,sgs,res,eff,e1,e2,ht,hK⟩:=trace_of rest (m+1) _ _ hrest (by omega) hr
   refine⟨λi=>if i≤m then fr else frs i,λi=>if i≤m then s else sgs i,λi=>if i≤m then y else res i,λi=>if i≤m then f else eff i,by simp,by simp,⟨?_,?_,?_⟩,?_⟩
   ·intro i o' h1 h2
    rcases zD h1 with e | q
    simp_all
    ·simp only[qU (show ¬i≤m by omega)]
     exact ht.one i o' (by omega) h2
   ·intro i o' h1 h2
    rcases zD h1 with e | q
    grind
    ·simp only[qU (show ¬i≤m by omega),qU (show ¬i+1≤m by omega)]
     exact ht.fr i o' (by omega) h2
   ·intro i o' h1 h2
    rcases zD h1 with e | q
    grind
    ·simp only[qU (show ¬i≤m by omega),qU (show ¬i+1≤m by omega)]
     exact ht.sg i o' (by omega) h2
   grind
  unfold regS at h
  cases hw:bo ops fr o with
  | none=>simp_all
  | some b =>
   rw[hw]at h
   simp only at h
   cases b with
   | false =>
    rw[qU (by simp)]at h
    exact fin .skip .none (.inl ⟨hw,rfl,rfl⟩) h
   | true =>
    rw[qV rfl]at h
    split at h
    ·rename_i p args tys hop
     split at h
     ·rename_i fid xs hc
      simp only[qX]at h
      obtain⟨r,hs,hr⟩:=h
      exact fin r .none (.inr (.inl ⟨hw,p,args,tys,fid,xs,hop,hc,hs,rfl⟩)) hr
     simp_all
    ·split at h
     ·rename_i y f hs
      exact fin y f (.inr (.inr ⟨hw,hs⟩)) h
     simp_all
def lw(ops:Array Oper)(p:Nat→Bool)(t:Tmp):Nat→Option Nat
 | 0=>none
 | i+1=>if p i=true∧(ops[i]?).bind (·.dst)=some t then some i else lw ops p t i
theorem lw_ext{ops:Array Oper}{p q:Nat→Bool}{t:Tmp}:∀n,(∀j,j<n→(ops[j]?).bind (·.dst)=some t→(p j=true↔q j=true))→lw ops p t n=lw ops q t n
 | 0,_=>rfl
 | n+1,h=>by
  unfold lw
  rw[lw_ext n (λj hj=>h j (by omega))]
  grind
theorem lw_cut{ops:Array Oper}{p:Nat→Bool}{t:Tmp}(i:Nat):∀n,i≤n→(∀j,i≤j→j<n→(ops[j]?).bind (·.dst)=some t→p j=false)→lw ops p t n=lw ops p t i
 | 0,h,_=>by
  simp_all
 | n+1,h,hq=>by
  rcases zD h with e | h'
  ·rw[e]
  ·conv=>lhs;unfold lw
   rw[qU (λq=>by grind)]
   exact lw_cut i n (by omega) (λj a b=>hq j a (by omega))
theorem lw_top{p:Nat→Bool}{t:Tmp}(i n:Nat)(hi:i<n)(hp:p i=true)(hd:(ops[i]?).bind (·.dst)=some t)(h:∀j,i<j→j<n→(ops[j]?).bind (·.dst)=some t→p j=false):lw ops p t n=some i:=by
 rw[lw_cut (i+1) n (by omega) (λj a b=>h j (by omega) b)]
 simp_all[lw]
section drawn
variable {P : Program} {g : Pg P} {ops : Array Oper} {frs : Nat → Fr} {sgs : Nat → Sg} {res : Nat → V} {eff : Nat → Ef} (ht : Tr g ops 0 frs sgs res eff) (hd : gu ops = true)
include ht
theorem Tr.len(i:Nat)(hi:i≤ops.size):(frs i).length=(frs 0).length:=by
 induction i with
 | zero=>rfl
 | succ i ih =>
  obtain⟨o,ho⟩:∃o,ops[i]? = some o:=⟨ops[i],Array.getElem?_eq_getElem (by omega)⟩
  rw[ht.fr i o (zB _) ho,←ih (by omega)]
  unfold putF
  grind
def valAt(ops:Array Oper)(frs:Nat→Fr)(res:Nat→V)(p:Nat→Bool)(n:Nat)(t:Tmp):V :=
 match lw ops p t n with
 | none=>(frs 0).getD t .undef
 | some j=>if t<(frs 0).length then res j else .undef
theorem Tr.at(i:Nat)(hi:i≤ops.size)(t:Tmp):(frs i).getD t .undef=valAt ops frs res (λ_=>true) i t:=by
 induction i with
 | zero=>rfl
 | succ i ih =>
  obtain⟨o,ho⟩:∃o,ops[i]? = some o:=⟨ops[i],Array.getElem?_eq_getElem (by omega)⟩
  have hl:=ht.len i (by omega)
  rw[ht.fr i o (zB _) ho]
  unfold valAt lw
  rw[ho]
  simp only[Option.bind_some,true_and]
  by_cases e:o.dst=some t
  ·rw[qV e]
   simp only[putF,e,List.getD_eq_getElem?_getD,List.getElem?_set]
   grind
  ·rw[qU e]
   have:(putF (frs i) o.dst (res i)).getD t .undef=(frs i).getD t .undef:=by
    unfold putF
    grind
   rw[this,ih (by omega)]
   rfl
theorem Tr.kind(i:Nat)(o:Oper)(ho:ops[i]? = some o):((eff i).isAlloc=true→opNew o.op=true)∧((eff i).isStore=true→kn o.op=true)∧((eff i).isApp=true→opApp o.op=true):=by
 rcases ht.one i o (zB _) ho with⟨_,_,h⟩|⟨_,p,args,tys,fid,xs,_,_,_,h⟩|⟨_,h⟩
 simp_all[Ef.isAlloc,Ef.isStore,Ef.isApp]
 simp_all[Ef.isAlloc,Ef.isStore,Ef.isApp]
 ·exact stepS_kind h
theorem Tr.grow(i:Nat)(hi:i<ops.size):(sgs i).obs.length≤(sgs (i+1)).obs.length∧((eff i).isAlloc=true→(sgs (i+1)).obs.length=(sgs i).obs.length+1)∧((eff i).isAlloc=false→(sgs (i+1)).obs.length=(sgs i).obs.length)∧((eff i).isStore=false→∀k,k<(sgs i).obs.length→(sgs (i+1)).obs[k]? = (sgs i).obs[k]?)∧((eff i).isApp=false→(sgs (i+1)).lns=(sgs i).lns):=by
 obtain⟨o,ho⟩:∃o,ops[i]? = some o:=⟨ops[i],Array.getElem?_eq_getElem (by omega)⟩
 rw[ht.sg i o (zB _) ho]
 cases he:eff i<;>grind[Ef.sg,Ef.isAlloc,Ef.isStore,Ef.isApp]
theorem Tr.mono(i j:Nat)(hij:i≤j)(hj:j≤ops.size):(sgs i).obs.length≤(sgs j).obs.length:=by
 induction j with
 | zero=>simp_all
 | succ j ih =>
  rcases zD hij with e | q
  simp_all
  ·exact Nat.le_trans (ih (by omega) (by omega)) (ht.grow j (by omega)).1
theorem Tr.toks(i j:Nat)(hi:i<ops.size)(hj:j<ops.size)(ai:(eff i).isAlloc=true)(aj:(eff j).isAlloc=true)(h:(sgs i).obs.length=(sgs j).obs.length):i=j:=by
 rcases zH i j with q | q | q
 ·have h1:=(ht.grow i hi).2.1 ai
  have h2:=ht.mono (i+1) j (by omega) (by omega)
  omega
 ·exact q
 ·have h1:=(ht.grow j hj).2.1 aj
  have h2:=ht.mono (j+1) i (by omega) (by omega)
  omega
theorem Tr.lnsq(i j:Nat)(hij:i≤j)(hj:j≤ops.size)(hst:∀m,i≤m→m<j→(eff m).isApp=false):(sgs j).lns=(sgs i).lns:=by
 induction j with
 | zero=>simp_all
 | succ j ih =>
  rcases zD hij with e | q
  ·rw[e]
  ·rw[(ht.grow j (by omega)).2.2.2.2 (hst j (by omega) (by omega))]
   grind
end drawn
def cnt(L:Array Bool):Nat→Nat
 | 0=>0
 | m+1=>cnt L m+(if L.getD m false=true then 0 else 1)
theorem cnt_le(L:Array Bool):∀m,cnt L m≤m
 | 0=>zE _
 | m+1=>by unfold cnt;have:=cnt_le L m;grind
theorem nU(L:Array Bool)(i j:Nat)(hi:i<L.size):(L.setIfInBounds i true).getD j false=(if j=i then true else L.getD j false):=by
 simp only[Array.getD_eq_getD_getElem?,Array.getElem?_setIfInBounds]
 grind
theorem lM(L:Array Bool)(i:Nat)(hi:i<L.size)(hu:L.getD i false=false):∀m,(i<m→cnt (L.setIfInBounds i true) m+1=cnt L m)∧(m≤i→cnt (L.setIfInBounds i true) m=cnt L m)
 | 0=>⟨λh=>by omega,λ_=>rfl⟩
 | m+1=>by
  have ih:=lM L i hi hu m
  unfold cnt
  rw[nU L i m hi]
  grind
theorem pQ(L:Array Bool):∀m,cnt L m=0→∀i,i<m→L.getD i false=true
 | 0,_,i,h=>by omega
 | m+1,h,i,hi=>by
  unfold cnt at h
  rcases zI i m with q | q
  ·exact pQ L m (by omega) i q
  grind
def cfL(ops:Array Oper)(frs:Nat→Fr)(res:Nat→V)(L:Array Bool):Fr:=(zJ (frs 0).length).map (valAt ops frs res (λj=>L.getD j false) ops.size)
theorem cf_len(ops:Array Oper)(frs:Nat→Fr)(res:Nat→V)(L:Array Bool):(cfL ops frs res L).length=(frs 0).length:=by simp[cfL]
theorem pf(ops:Array Oper)(frs:Nat→Fr)(res:Nat→V)(L:Array Bool)(t:Nat):(cfL ops frs res L).getD t .undef=valAt ops frs res (λj=>L.getD j false) ops.size t:=by
 rw[List.getD_eq_getElem?_getD]
 rcases zI t (frs 0).length with q | q
 simp_all[cfL]
 ·rw[List.getElem?_eq_none (by grind[cf_len])]
  unfold valAt
  grind
def Ef.on(e:Ef)(m k:Nat):Bool:=match e with | .alloc _=>m==k | .store j _=>j==k | _=>false
def Ef.cells(e:Ef):List V:=match e with | .alloc cs=>cs | .store _ cs=>cs | _=>[]
theorem obs_at(e:Ef)(obs:Nat→Option (List V))(m k:Nat):e.obs obs m k=if e.on m k=true then some e.cells else obs k:=by
 have key:∀(j:Nat) (cs:List V),upd obs j cs k=if (j==k)=true then some cs else obs k:=by
  intro j cs
  by_cases q:k=j
  simp_all[aG]
  (simp_all[aU];omega)
 cases e with
 | none=>simp[Ef.obs,Ef.on]
 | alloc cs=>exact key m cs
 | store j cs=>exact key j cs
 | app t e n=>simp[Ef.obs,Ef.on]
def obsR(sgs:Nat→Sg)(eff:Nat→Ef)(L:Array Bool):Nat→Nat→Option (List V)
 | 0,k=>(sgs 0).obs[k]?
 | m+1,k=>if L.getD m false=true∧(eff m).on (sgs m).obs.length k=true then some (eff m).cells else obsR sgs eff L m k
theorem obsR_congr{sgs:Nat→Sg}{eff:Nat→Ef}{L L':Array Bool}{k:Nat}:∀{n:Nat},(∀j,j<n→(eff j).on (sgs j).obs.length k=true→L'.getD j false=L.getD j false)→obsR sgs eff L' n k=obsR sgs eff L n k
 | 0,_=>rfl
 | n+1,h=>by
  unfold obsR
  rw[obsR_congr (n:=n) λj hj=>h j (by omega)]
  grind
theorem kg{sgs:Nat→Sg}{eff:Nat→Ef}{L:Array Bool}{k i:Nat}:∀{n:Nat},i≤n→(∀j,i≤j→j<n→(eff j).on (sgs j).obs.length k=true→L.getD j false=false)→obsR sgs eff L n k=obsR sgs eff L i k
 | 0,hi,_=>by simp_all
 | n+1,hi,h=>by
  rcases zD hi with e | q
  ·rw[e]
  ·conv=>lhs;unfold obsR
   rw[qU (λq'=>by grind)]
   exact kg (by omega) λj a b=>h j a (by omega)
variable {n:Nat}
theorem obsR_none{sgs:Nat→Sg}{eff:Nat→Ef}{L:Array Bool}(h:∀j,j<n→(eff j).on (sgs j).obs.length k=true→L.getD j false=false)(h0:(sgs 0).obs.length≤k):obsR sgs eff L n k=none:=by
 rw[kg (i:=0) (zB _) λj _ b=>h j b]
 exact List.getElem?_eq_none h0
def lnsL(n:Nat)(sgs:Nat→Sg)(eff:Nat→Ef)(L:Array Bool):Nat→Option (TypeId×Nat):=if (zJ n).any (λi=>L.getD i false&&(eff i).isApp)=true then lnsOf (sgs n)else lnsOf (sgs 0)
section drawn
variable {P : Program} {g : Pg P} {ops : Array Oper} {frs : Nat → Fr} {sgs : Nat → Sg} {res : Nat → V} {eff : Nat → Ef} (ht : Tr g ops 0 frs sgs res eff) (hd : gu ops = true)
 {L:Array Bool} (hs:L.size=ops.size) (hcl:∀i o,ops[i]? = some o→L.getD i false=true→∀p∈ju o,L.getD p false=true)
 {i:Nat} {o:Oper} (ho:ops[i]? = some o) (hu:L.getD i false=false) (hp:∀p∈ju o,L.getD p false=true)
theorem lZ{ops:Array Oper}{i:Nat}{o:Oper}(ho:ops[i]? = some o):i<ops.size:=by
 grind
theorem dst_some{ops:Array Oper}{j:Nat}{t:Tmp}(h:(ops[j]?).bind (·.dst)=some t):∃x,ops[j]? = some x∧x.dst=some t:=by
 grind
include hcl
theorem clos_lis(j k:Nat)(hk:k∈(clos ops.toList []).getD j [])(hj:L.getD j false=true):L.getD k false=true :=
 clos_ok (ops:=ops) (lis:=λj=>L.getD j false=true) hcl ops.toList [] (λj=>by simp) (λi k h=>by simp at h) j k hk hj
include ho hp
theorem clos_ready(k:Nat)(hk:k∈(clos ops.toList []).getD i [])(hne:k≠i):L.getD k false=true:=by
  have:=clos_ok (ops:=ops) (lis:=λj=>L.getD j false=true∨j=i) (λj x hx hj p hpx=>by
    grind) ops.toList [] (λj=>by simp) (λi k h=>by simp at h) i k hk (.inr rfl)
  simp_all
include ht hd hu
theorem look_same(t:Tmp)(h:t∈reads ops o):(cfL ops frs res L).getD t .undef=(frs i).getD t .undef:=by
 have hi:=lZ ho
 rw[pf,ht.at i (by omega) t]
 unfold valAt
 have e1:lw ops (λj=>L.getD j false) t ops.size=lw ops (λj=>L.getD j false) t i:=by
  refine lw_cut i ops.size (by omega) (λj h1 h2 h3=>?_)
  rcases zD h1 with e | q
  simp_all
  ·obtain⟨x,hx,hxd⟩:=dst_some h3
   have hpo:=lL hd ho hx q
   cases hj:L.getD j false with
   | false=>rfl
   | true =>
    unfold pairOk at hpo
    simp only[zA]at hpo
    have h2:=hpo.1.1.2
    rw[hxd]at h2
    simp only[zK,beq_iff_eq]at h2
    grind[clos_lis]
 have e2:lw ops (λj=>L.getD j false) t i=lw ops (λ_=>true) t i:=by
  refine lw_ext i (λj hj h3=>⟨λ_=>rfl,λ_=>?_⟩)
  obtain⟨x,hx,hxd⟩:=dst_some h3
  have hpo:=lL hd hx ho hj
  unfold pairOk at hpo
  simp only[zA]at hpo
  have h2:=hpo.1.1.1
  rw[hxd]at h2
  simp only[zK,beq_iff_eq]at h2
  grind[clos_ready]
 rw[e1,e2]
theorem md(x:Operand)(h:x∈o.op.operands):aN (cfL ops frs res L) x=aN (frs i) x:=by
 cases x with
 | tmp t =>
  refine look_same ht hd hcl ho hu hp t ?_
  unfold reads Oper.looksAt
  exact List.mem_append_left _ (List.mem_filterMap.2 ⟨.tmp t,by simpa using h,rfl⟩)
 | _=>rfl
theorem look_wanted:bo ops (cfL ops frs res L) o=bo ops (frs i) o:=by
 unfold bo
 cases hg:o.guard<;>grind[look_same,reads,Oper.looksAt]
omit hp ht in
include hs in
theorem cf_put:cfL ops frs res (L.setIfInBounds i true)=putF (cfL ops frs res L) o.dst (res i):=by
  have hi:=lZ ho
  have hset:∀j,(L.setIfInBounds i true).getD j false=(if j=i then true else L.getD j false):=λj=>nU L i j (by omega)
  apply List.ext_getElem?
  intro t
  have hl1:=cf_len ops frs res (L.setIfInBounds i true)
  have hl2:(putF (cfL ops frs res L) o.dst (res i)).length=(frs 0).length:=by unfold putF;grind[cf_len]
  rcases zI t (frs 0).length with q | q
  · have a1 : (cfL ops frs res (L.setIfInBounds i true))[t]? = some ((cfL ops frs res (L.setIfInBounds i true)).getD t .undef) := by
      simp_all
    have a2:(putF (cfL ops frs res L) o.dst (res i))[t]? = some ((putF (cfL ops frs res L) o.dst (res i)).getD t .undef):=by
      simp_all
    rw[a1,a2,pf]
    congr 1
    by_cases e:o.dst=some t
    · have : lw ops (λj => (L.setIfInBounds i true).getD j false) t ops.size = some i := by
        refine lw_top i ops.size hi (by simp_all) (by simp_all) (λj h1 h2 h3=>?_)
        rw[hset,qU (by omega)]
        obtain⟨x,hx,hxd⟩:=dst_some h3
        have hpo:=lL hd ho hx h1
        cases hj:L.getD j false with
        | false=>rfl
        | true =>
          unfold pairOk at hpo
          simp only[zA]at hpo
          have h2:=hpo.1.1.1
          rw[e]at h2
          simp only[zK,beq_iff_eq]at h2
          grind[clos_lis]
      simp_all[valAt,putF]
    · have e1 : (putF (cfL ops frs res L) o.dst (res i)).getD t .undef = (cfL ops frs res L).getD t .undef := by
        unfold putF
        grind
      rw[e1,pf]
      unfold valAt
      rw[lw_ext (q:=λj=>L.getD j false) ops.size (λj hj h3=>by
        grind)]
  simp_all
end drawn
theorem pair_app(hd:gu ops=true){y:Oper}(hx:ops[i]? = some x)(hy:ops[j]? = some y)(hij:i<j):¬(opApp x.op=true∧opApp y.op=true):=by
 have h:=lL hd hx hy hij
 unfold pairOk at h
 grind
theorem store_ptr{cs:List V}(h:il g obs lns k t o ρ=some (y,.store j cs)):kn o.op=true∧∃x off,qa o.op=some x∧ρ x=.ptr j off:=by
 have hk:=(stepS_kind h).2.1 rfl
 refine⟨hk,?_⟩
 obtain⟨dst,op,type,pos,after,guard⟩:=o
 cases op<;>simp[kn]at hk
 rename_i ty a x
 simp only[il,extS,fJ]at h
 split at h
 ·rename_i j' off hx
  split at h
  ·split at h
   ·injection h with h;injection h with _ h;injection h with h1 h2;subst h1
    exact⟨a,off,rfl,hx⟩
   ·cases h
  ·cases h
 ·cases h
section drawn
variable {P : Program} {g : Pg P} {ops : Array Oper} {frs : Nat → Fr} {sgs : Nat → Sg} {res : Nat → V} {eff : Nat → Ef} (ht : Tr g ops 0 frs sgs res eff) (hd : gu ops = true) (hsp : sepL (seps ops) (frs ops.size) = true)
include ht
theorem Tr.fits(i:Nat)(hi:i<ops.size):(eff i).fits (sgs i):=by
 obtain⟨o,ho⟩:∃o,ops[i]? = some o:=⟨ops[i],Array.getElem?_eq_getElem hi⟩
 rcases ht.one i o (zB _) ho with⟨_,_,h⟩|⟨_,p,args,tys,fid,xs,_,_,_,h⟩|⟨_,h⟩
 ·rw[h];trivial
 ·rw[h];trivial
 ·exact pu h
theorem Tr.stp{i:Nat}{o:Oper}(ho:ops[i]? = some o){k:Nat}{cs:List V}(he:eff i=.store k cs):kn o.op=true∧∃x off,qa o.op=some x∧aN (frs i) x=.ptr k off:=by
 rcases ht.one i o (zB _) ho with⟨_,_,h⟩|⟨_,p,args,tys,fid,xs,_,_,_,h⟩|⟨_,h⟩
 simp_all
 simp_all
 grind[store_ptr]
theorem Tr.endS{i:Nat}(hi:i≤ops.size){a:Tmp}(h:laterW ops i a=false):(frs ops.size).getD a .undef=(frs i).getD a .undef:=by
 rw[ht.at ops.size (zE _),ht.at i hi]
 unfold valAt
 rw[lw_cut i ops.size hi λj h1 h2 h3=>?_]
 exfalso
 obtain⟨x,hx,hxd⟩:=dst_some h3
 unfold laterW at h
 rw[zM]at h
 apply h
 rw[zF]
 refine⟨x,?_,by simp[hxd]⟩
 refine List.mem_of_getElem? (i:=j-i) ?_
 simp_all
include hd hsp
theorem Tr.edge{i j:Nat}{x y:Oper}(hx:ops[i]? = some x)(hy:ops[j]? = some y)(hij:i<j)(hn:needE x.op y.op=true){p q:Operand}{k o1 o2:Nat}(h1:qa x.op=some p)(h2:qa y.op=some q)(e1:aN (frs i) p=.ptr k o1)(e2:aN (frs j) q=.ptr k o2):i∈(clos ops.toList []).getD j []:=by
 rcases drawOk_sep hd hx hy hij hn with h | ⟨a,b,a1,a2,a3,a4,a5⟩
 ·exact h
 ·exfalso
  have hs:=sepL_mem hsp a5
  rw[ht.endS (zT (lZ hx)) a3,ht.endS (zT (lZ hy)) a4]at hs
  unfold touchT at a1 a2
  rw[h1]at a1
  rw[h2]at a2
  have ep:p=.tmp a:=by
   grind
  have eq:q=.tmp b:=by
   grind
  subst ep;subst eq
  have e1':(frs i).getD a .undef=.ptr k o1:=e1
  have e2':(frs j).getD b .undef=.ptr k o2:=e2
  simp_all[sepV]
theorem Tr.onE{i j:Nat}{k:Nat}(hj:j<ops.size)(hij:i<j)(h1:(eff i).on (sgs i).obs.length k=true)(h2:(eff j).on (sgs j).obs.length k=true):i∈(clos ops.toList []).getD j []:=by
 obtain⟨x,hx⟩:∃o,ops[i]? = some o:=⟨ops[i],Array.getElem?_eq_getElem (by omega)⟩
 obtain⟨y,hy⟩:∃o,ops[j]? = some o:=⟨ops[j],Array.getElem?_eq_getElem hj⟩
 have f1:=ht.fits i (by omega)
 have hm:=ht.mono i j (by omega) (by omega)
 cases ej:eff j with
 | none=>rw[ej]at h2;cases h2
 | app=>rw[ej]at h2;cases h2
 | alloc cs =>
  exfalso
  rw[ej]at h2
  simp only[Ef.on,beq_iff_eq]at h2
  cases ei:eff i with
  | none=>rw[ei]at h1;cases h1
  | app=>rw[ei]at h1;cases h1
  | alloc cs' =>
   rw[ei]at h1
   simp only[Ef.on,beq_iff_eq]at h1
   have:=ht.toks i j (by omega) hj (by rw[ei];rfl) (by rw[ej];rfl) (by omega)
   omega
  | store k' cs' =>
   (simp_all[Ef.on,Ef.fits];omega)
 | store k2 cs =>
  rw[ej]at h2
  simp only[Ef.on,beq_iff_eq]at h2
  subst h2
  obtain⟨s2,q,o2,t2,e2⟩:=ht.stp hy ej
  cases ei:eff i with
  | none=>rw[ei]at h1;cases h1
  | app=>rw[ei]at h1;cases h1
  | alloc cs' =>
   have kx:=(ht.kind i x hx).1 (by rw[ei];rfl)
   rcases drawOk_sep hd hx hy hij (by simp_all[needE])with h | ⟨a,b,a1,_⟩
   ·exact h
   ·exfalso
    unfold touchT at a1
    cases hop:x.op<;>rw[hop]at kx a1<;>simp[opNew,qa]at kx a1
  | store k' cs' =>
   rw[ei]at h1
   simp only[Ef.on,beq_iff_eq]at h1
   subst h1
   obtain⟨s1,p,o1,t1,e1⟩:=ht.stp hx ei
   exact ht.edge hd hsp hx hy hij (by simp_all[needE]) t1 t2 e1 e2
omit hd hsp in
theorem obsR_all{L:Array Bool}{k:Nat}:∀{i:Nat},i≤ops.size→(∀j,j<i→(eff j).on (sgs j).obs.length k=true→L.getD j false=true)→obsR sgs eff L i k=(sgs i).obs[k]?
 | 0,_,_=>rfl
 | i+1,hi,h=>by
  obtain⟨o,ho⟩:∃o,ops[i]? = some o:=⟨ops[i],Array.getElem?_eq_getElem (by omega)⟩
  have h1:((eff i).sg (sgs i)).obs[k]? = (eff i).obs (λk=>(sgs i).obs[k]?) (sgs i).obs.length k:=congrFun (sg_obs (eff i) (sgs i) (ht.fits i (by omega))) k
  rw[ht.sg i o (zB _) ho,h1,obs_at]
  unfold obsR
  rw[obsR_all (by omega) λj hj=>h j (by omega)]
  grind
omit hd hsp in
theorem obsR_at{L:Array Bool}{k i:Nat}(hi:i≤ops.size)(h1:∀j,j<i→(eff j).on (sgs j).obs.length k=true→L.getD j false=true)(h2:∀j,i≤j→j<ops.size→(eff j).on (sgs j).obs.length k=true→L.getD j false=false):obsR sgs eff L ops.size k=(sgs i).obs[k]?:=by
 rw[kg hi h2,obsR_all ht hi h1]
end drawn
variable {w0:World}
theorem reg_drawn    {frs:Nat → Fr} {sgs:Nat → Sg} {res:Nat → V} {eff:Nat → Ef} (ht : Tr g ops 0 frs sgs res eff) (hd : gu ops = true)  {G0:Cx} {Q:Exit → Act → World → Prop} {K:Fr → Sg → Prop}
    (hQ:∀a w,Post g w0 G0 K a w→Q .normal a w) (hK:K (frs ops.size) (sgs ops.size)) (hsp:sepL (seps ops) (frs ops.size)=true) :
    ∀(fuel:Nat) (L:Array Bool) (G:Cx) (a:Act) (w:World),L.size=ops.size→(∀i o,ops[i]? = some o→L.getD i false=true→∀p∈ju o,L.getD p false=true)→cnt L ops.size≤fuel→G0.le G→HRp P w0 w G (obsR sgs eff L ops.size) (lnsL ops.size sgs eff L)→FR G (cfL ops frs res L) a→a.defers=[] →
    wpAny P .any ops Q fuel L a w:=by
  have hop:∀i,i<ops.size→∃o,ops[i]? = some o:=λi hi=>⟨ops[i],Array.getElem?_eq_getElem hi⟩
  have happ:∀i j,i<ops.size→j<ops.size→(eff i).isApp=true→(eff j).isApp=true→i=j:=by
    intro i j hi hj h1 h2
    obtain⟨x,hx⟩:=hop i hi
    obtain⟨y,hy⟩:=hop j hj
    have k1:=(ht.kind i x hx).2.2 h1
    have k2:=(ht.kind j y hy).2.2 h2
    grind[pair_app]
  -- the end
  have hend:∀(L:Array Bool) (G:Cx) (a:Act) (w:World),(∀i,i<ops.size→L.getD i false=true)→G0.le G→HRp P w0 w G (obsR sgs eff L ops.size) (lnsL ops.size sgs eff L)→FR G (cfL ops frs res L) a→a.defers=[]→Q .normal a w:=by
    intro L G a w hall h0 hH hfr hdf
    refine hQ a w ⟨G,frs ops.size,sgs ops.size,h0,?_,?_,hdf,hK⟩
    · have e1 : obsR sgs eff L ops.size = obsOf (sgs ops.size) := by
        funext k
        exact obsR_all ht (zE _) λj hj _=>hall j hj
      have e2:lnsL ops.size sgs eff L=lnsOf (sgs ops.size):=by
        unfold lnsL
        split
        · rfl
        · rename_i hl
          have:(sgs ops.size).lns=(sgs 0).lns:=ht.lnsq 0 ops.size (zB _) (zE _) (λm _ hm=>by
            simp_all)
          grind[lnsOf]
      rw[e1,e2]at hH
      exact hH
    · have : cfL ops frs res L = frs ops.size := by
        apply List.ext_getElem?
        intro t
        have hl1:=cf_len ops frs res L
        have hl2:=ht.len ops.size (zE _)
        rcases zI t (frs 0).length with z | z
        · have a1 : (cfL ops frs res L)[t]? = some ((cfL ops frs res L).getD t .undef) := by
            simp_all
          have a2:(frs ops.size)[t]? = some ((frs ops.size).getD t .undef):=by
            simp_all
          rw[a1,a2,pf,ht.at ops.size (zE _) t]
          simp_all[valAt,lw_ext]
        simp_all
      simp_all
  intro fuel
  induction fuel with
  | zero =>
    intro L G a w hs hcl hc h0 hH hfr hdf
    have hall:=pQ L ops.size (by omega)
    refine⟨?_,hend L G a w hall h0 hH hfr hdf⟩
    simp_all[Region.ready]
  | succ fuel ih =>
    intro L G a w hs hcl hc h0 hH hfr hdf
    refine⟨λhr=>?_,λi hi=>?_⟩
    · refine hend L G a w ?_ h0 hH hfr hdf
      intro i
      induction i using Nat.strongRecOn with
      | _ i ihi =>
        intro hlt
        cases hb:L.getD i false with
        | true=>rfl
        | false =>
          exfalso
          obtain⟨o,ho⟩:=hop i hlt
          have:i∈Region.ready .any ops L:=by
            grind[mem_ready,ju,drawOk_pred]
          simp_all
    · obtain⟨h1,o,ho,hpr⟩:=mem_ready.1 hi
      have hlt:=lZ ho
      have hu:L.getD i false=false:=by
        rw[Array.getD_eq_getD_getElem?,Array.getElem?_eq_getElem (by omega)]at h1 ⊢
        simpa using h1
      have hp:∀p∈ju o,L.getD p false=true:=by
        intro p hpp
        obtain⟨e,he,rfl⟩:=List.mem_map.1 hpp
        obtain⟨he1,he2⟩:=List.mem_filter.1 he
        exact hpr e (by simpa using he1) he2
      have hset:∀j,(L.setIfInBounds i true).getD j false=(if j=i then true else L.getD j false):=λj=>nU L i j (by omega)
      have hcf:=cf_put (res:=res) (frs:=frs) hd hs hcl ho hu
      have honL:∀k j,i<j→j<ops.size→(eff i).on (sgs i).obs.length k=true→(eff j).on (sgs j).obs.length k=true→L.getD j false=false:=by
        intro k j h1 h2 h3 h4
        cases hj:L.getD j false with
        | false=>rfl
        | true =>
          have:=clos_lis hcl j i (ht.onE hd hsp h2 h1 h3 h4) hj
          rw[hu]at this;cases this
      -- the next state
      have hnext:∀(G':Cx) (a':Act) (w':World),G.le G'→HRp P w0 w' G' ((eff i).obs (obsR sgs eff L ops.size) (sgs i).obs.length) ((eff i).lns (lnsL ops.size sgs eff L))→FR G' (putF (cfL ops frs res L) o.dst (res i)) a'→a'.defers=[]→wpAny P .any ops Q fuel (L.setIfInBounds i true) a' w':=by
        intro G' a' w' hle hH' hfr' hdf'
        refine ih (L.setIfInBounds i true) G' a' w' (by simpa using hs) ?_ ?_ (h0.trans hle) ?_ (by rw[hcf];exact hfr') hdf'
        · intro j x hx hj p hpp
          rw[hset]at hj ⊢
          split
          · rfl
          · by_cases ej:j=i
            · subst ej
              rw[ho]at hx;injection hx with hx;subst hx
              exact hp p hpp
            · rw[qU ej]at hj
              exact hcl j x hx hj p hpp
        · have:=(lM L i (by omega) hu ops.size).1 hlt
          omega
        · have e1 : obsR sgs eff (L.setIfInBounds i true) ops.size = (eff i).obs (obsR sgs eff L ops.size) (sgs i).obs.length := by
            funext k
            rw[obs_at]
            by_cases hon:(eff i).on (sgs i).obs.length k=true
            · rw [qV hon, kg (i := i + 1) (by omega) λj j1 j2 j3 => by
                rw[hset,qU (by omega)];exact honL k j (by omega) j2 hon j3]
              unfold obsR
              rw[qV ⟨by rw[hset,qV rfl],hon⟩]
            · rw[qU hon]
              refine obsR_congr λj _ hj=>?_
              rw[hset]
              split
              · rename_i e;subst e;exact absurd hj hon
              · rfl
          have e2:lnsL ops.size sgs eff (L.setIfInBounds i true)=(eff i).lns (lnsL ops.size sgs eff L):=by
            by_cases hap:(eff i).isApp=true
            · have hno : (zJ ops.size).any (λi => L.getD i false && (eff i).isApp) = false := by
                rw[zM]
                intro h
                rw[zF]at h
                obtain⟨j,hj,hj2⟩:=h
                simp only[zA]at hj2
                have:=happ i j hlt (List.mem_range.1 hj) hap hj2.2
                subst this
                rw[hu]at hj2;cases hj2.1
              have hyes:(zJ ops.size).any (λj=>(L.setIfInBounds i true).getD j false&&(eff j).isApp)=true:=by
                rw[zF]
                exact⟨i,List.mem_range.2 hlt,by rw[hset,qV rfl,hap];rfl⟩
              unfold lnsL
              rw[hno,hyes]
              simp only[qX,zQ,qW]
              have hfit:(eff i).fits (sgs i):=by
                rcases ht.one i o (zB _) ho with⟨_,_,h⟩|⟨_,p,args,tys,fid,xs,_,_,_,h⟩|⟨_,h⟩
                · rw[h]at hap;cases hap
                · rw[h]at hap;cases hap
                · exact pu h
              have q1:(sgs i).lns=(sgs 0).lns:=ht.lnsq 0 i (zB _) (by omega) (λm _ hm=>by
                cases h:(eff m).isApp with
                | false=>rfl
                | true=>have:=happ m i (by omega) hlt h hap;omega)
              have q2:(sgs ops.size).lns=(sgs (i+1)).lns:=ht.lnsq (i+1) ops.size (by omega) (zE _) (λm hm1 hm=>by
                cases h:(eff m).isApp with
                | false=>rfl
                | true=>have:=happ m i hm hlt h hap;omega)
              have q3:=sg_lns (eff i) (sgs i) hfit
              have q4:lnsOf (sgs 0)=lnsOf (sgs i):=by unfold lnsOf;rw[q1]
              rw[q4]
              show (λk=>(sgs ops.size).lns[k]?)=_
              rw[q2,ht.sg i o (zB _) ho]
              exact q3
            · have hid : (eff i).lns (lnsL ops.size sgs eff L) = lnsL ops.size sgs eff L := by
                cases he:eff i with
                | app t e n=>rw[he]at hap;simp[Ef.isApp]at hap
                | _=>rfl
              rw[hid]
              unfold lnsL
              have:(zJ ops.size).any (λj=>(L.setIfInBounds i true).getD j false&&(eff j).isApp)=(zJ ops.size).any (λj=>L.getD j false&&(eff j).isApp):=by
                rw[Bool.eq_iff_iff,zF,zF]
                refine⟨λ⟨j,h1,h2⟩=>⟨j,h1,?_⟩,λ⟨j,h1,h2⟩=>⟨j,h1,?_⟩⟩
                · simp only[zA]at h2 ⊢
                  rw[hset]at h2
                  by_cases ej:j=i
                  · subst ej;exact absurd h2.2 hap
                  · rw[qU ej]at h2;exact h2
                · simp only[zA]at h2 ⊢
                  rw[hset]
                  split
                  · exact⟨rfl,h2.2⟩
                  · exact h2
              rw[this]
          rw[e1,e2]
          exact hH'
      unfold wpOp
      rw[ho]
      simp only
      have hlw:=look_wanted (frs:=frs) (res:=res) ht hd hcl ho hu hp
      rcases ht.one i o (zB _) ho with⟨h1,h2,h3⟩|⟨h1,p,args,tys,fid,xs,h2,h3,h4,h5⟩|⟨h1,h2⟩
      · rw[fK hfr (hlw.trans h1),qU (by simp)]
        refine hnext G _ w (Cx.le.refl G) ?_ ?_ (by rw[cg];exact hdf)
        · rw[h3];exact hH
        · rw[h2];exact ii hfr .skip o.dst
      · rw[fK hfr (hlw.trans h1),qV rfl]
        left
        have hc:callS (cfL ops frs res L) ⟨.value p,args,tys⟩=some (fid,xs):=by
          rw[←h3]
          unfold callS
          simp only
          rw[md ht hd hcl ho hu hp p (by rw[h2];simp[Op.operands,Call.operands])]
          have:args.toList.map (aN (cfL ops frs res L))=args.toList.map (aN (frs i)):=zG λx hx=>md ht hd hcl ho hu hp x (by rw[h2];simp at hx;simp[Op.operands,Call.operands,hx])
          rw[this]
        obtain⟨vs,r1,r2⟩:=exec_call hfr h2 hc h4.1 w
        unfold Oper.wp
        rw[r1]
        refine (h4.2 w G.F vs hH.fs (hH.gb.kp hH.kp) ?_).mono ?_
        · refine⟨by simp[r2.1],λm x v a1 a2=>?_⟩
          rw[List.getElem?_map]at a1
          cases hx:xs[m]? with
          | none=>rw[hx]at a1;cases a1
          | some y=>rw[hx]at a1;simp at a1;subst a1;exact cleanF_rel (r2.2 m y v hx a2) G.F (λ_ _ _ q=>q)
        · rintro e w' ⟨v,rfl,hk,hv⟩
          have hv':rel (G.withF (fresh w w')) (res i) v:=by
            have:∀{x:V} {u:Value},rel (iz λb o u=>G.F b o u∨fresh w w' b o u) x u→rel (G.withF (fresh w w')) x u:=by
              intro x u q
              induction q with
              | undef v=>exact .undef v
              | d q=>exact .d q
              | agg cs vs hl _ ih=>exact .agg cs vs hl ih
              | tuple cs vs hl _ ih=>exact .tuple cs vs hl ih
              | ptr k off b q=>cases q
              | iptr cs off b o u q1 q2=>exact .iptr cs off b o u q1 q2
              | own t es v q L hL _ _=>cases hL
              | full es A q=>exact .full es A q
              | nil=>exact .nil
              | skip=>exact .skip
              | sl k off len cap b q=>cases q
              | mp k b q=>cases q
              | gr k n v h1 L hL=>cases hL
              | gp k n i off v h1 L hL=>cases hL
              | adr k v b q=>cases q
              | gs k n off len v h1 L hL=>cases hL
              | fn f cs vs hl _ ih=>exact .fn f cs vs hl ih
            exact this hv
          refine hnext (G.withF (fresh w w')) _ w' (G.le_withF _) ?_ (ii (ku (G.le_withF _) hfr) hv' o.dst) (by rw[cg];exact hdf)
          rw[h5]
          exact hH.grow hk
      · rw[fK hfr (hlw.trans h1),qV rfl]
        left
        have hkd:=stepS_kind h2
        -- the same step in the state at hand
        have hst:il g (obsR sgs eff L ops.size) (lnsL ops.size sgs eff L) (if (eff i).isAlloc=true then (sgs i).obs.length else (sgs ops.size).obs.length) (if opApp o.op=true then (sgs i).lns.length else (sgs ops.size).lns.length+(sgs 0).lns.length) o (aN (cfL ops frs res L))=some (res i,eff i):=by
          refine stepS_same h2 (λx hx=>(md ht hd hcl ho hu hp x hx).symm) ?_ ?_ ?_
          · intro j off x cs hx hxp hcs
            have hls:opLoad o.op=true∨kn o.op=true:=by
              cases hop':o.op<;>rw[hop']at hx<;>simp[qa,opLoad,kn]at hx ⊢
            have hxo:x∈o.op.operands:=by
              cases hop':o.op<;>rw[hop']at hx<;>simp[qa]at hx<;>subst hx<;>simp[Op.operands]
            have hr:=aK hfr x
            rw[md ht hd hcl ho hu hp x hxo,hxp]at hr
            obtain⟨b,hb,_⟩:=ly hr
            have hne:=hH.obd j b hb
            have hji:j<(sgs i).obs.length:=aF hcs
            have key:obsR sgs eff L ops.size j=(sgs i).obs[j]?:=by
              refine obsR_at ht (zT hlt) (λm hm hon=>?_) (λm hm1 hm2 hon=>?_)
              · obtain⟨y,hy⟩:=hop m (by omega)
                cases em:eff m with
                | none=>rw[em]at hon;cases hon
                | app=>rw[em]at hon;cases hon
                | alloc c =>
                  cases hL:L.getD m false with
                  | true=>rfl
                  | false =>
                    exfalso
                    have hon':=hon
                    rw[em]at hon
                    simp only[Ef.on,beq_iff_eq]at hon
                    refine hne (obsR_none (λm' hm' hon2=>?_) (by have:=ht.mono 0 m (zB _) (by omega);omega))
                    rcases zH m m' with z | z | z
                    · cases hL':L.getD m' false with
                      | false=>rfl
                      | true =>
                        have:=clos_lis hcl m' m (ht.onE hd hsp hm' z hon' hon2) hL'
                        rw[hL]at this;cases this
                    · rw[←z];exact hL
                    · exfalso
                      have hf:=ht.fits m' hm'
                      have hmm:=ht.mono (m'+1) m (by omega) (by omega)
                      have hg:=ht.grow m' hm'
                      cases em':eff m' with
                      | none=>rw[em']at hon2;cases hon2
                      | app=>rw[em']at hon2;cases hon2
                      | alloc c' =>
                        rw[em']at hon2
                        simp only[Ef.on,beq_iff_eq]at hon2
                        have:=hg.2.1 (by rw[em'];rfl)
                        omega
                      | store k' c' =>
                        rw[em']at hon2 hf
                        simp only[Ef.on,beq_iff_eq]at hon2
                        simp only[Ef.fits]at hf
                        omega
                | store k' c =>
                  have hon':=hon
                  rw[em]at hon
                  simp only[Ef.on,beq_iff_eq]at hon
                  subst hon
                  obtain⟨s1,p,o1,t1,e1⟩:=ht.stp hy em
                  have hn:needE y.op o.op=true:=by unfold needE;rw[s1];rcases hls with z | z<;>rw[z]<;>simp
                  exact clos_ready hcl ho hp m (ht.edge hd hsp hy ho hm hn t1 hx e1 hxp) (by omega)
              · rcases zD hm1 with z | z
                · rw[←z];exact hu
                · obtain⟨y,hy⟩:=hop m hm2
                  cases em:eff m with
                  | none=>rw[em]at hon;cases hon
                  | app=>rw[em]at hon;cases hon
                  | alloc c =>
                    exfalso
                    rw[em]at hon
                    simp only[Ef.on,beq_iff_eq]at hon
                    have:=ht.mono i m (by omega) (by omega)
                    omega
                  | store k' c =>
                    rw[em]at hon
                    simp only[Ef.on,beq_iff_eq]at hon
                    subst hon
                    obtain⟨s1,p,o1,t1,e1⟩:=ht.stp hy em
                    have hn:needE o.op y.op=true:=by unfold needE;rw[s1];rcases hls with z | z<;>rw[z]<;>simp
                    cases hL:L.getD m false with
                    | false=>rfl
                    | true =>
                      have:=clos_lis hcl m i (ht.edge hd hsp ho hy z hn hx t1 hxp e1) hL
                      rw[hu]at this;cases this
            rw[key];exact hcs
          · intro hap
            rw[qV hap]
            have hno:∀m,m<ops.size→m≠i→(eff m).isApp=false:=by
              intro m hm hmi
              cases h:(eff m).isApp with
              | false=>rfl
              | true =>
                obtain⟨x,hx⟩:=hop m hm
                have kx:=(ht.kind m x hx).2.2 h
                rcases zH m i with z | z | z
                · exact absurd ⟨kx,hap⟩ (pair_app hd hx ho z)
                · exact absurd z hmi
                · exact absurd ⟨hap,kx⟩ (pair_app hd ho hx z)
            have q1:(sgs i).lns=(sgs 0).lns:=ht.lnsq 0 i (zB _) (by omega) (λm _ hm=>hno m (by omega) (by omega))
            refine⟨?_,rfl⟩
            unfold lnsL
            have hno2:(zJ ops.size).any (λi=>L.getD i false&&(eff i).isApp)=false:=by
              rw[zM]
              intro h
              rw[zF]at h
              obtain⟨j,hj,hj2⟩:=h
              simp only[zA]at hj2
              by_cases ej:j=i
              · subst ej;rw[hu]at hj2;cases hj2.1
              · rw[hno j (List.mem_range.1 hj) ej]at hj2;cases hj2.2
            rw[hno2]
            simp only[zQ,qW]
            unfold lnsOf
            rw[q1]
          · intro hal
            rw[qV hal]
        have hk0:obsR sgs eff L ops.size (if (eff i).isAlloc=true then (sgs i).obs.length else (sgs ops.size).obs.length)=none:=by
          split
          · rename_i hal
            have hia:(eff i).on (sgs i).obs.length (sgs i).obs.length=true:=by cases he:eff i<;>rw[he]at hal<;>simp[Ef.isAlloc]at hal;simp[Ef.on]
            refine obsR_none (λm hm hon=>?_) (by have:=ht.mono 0 i (zB _) (by omega);omega)
            rcases zH i m with z | z | z
            · exact honL _ m z hm hia hon
            · rw[←z];exact hu
            · exfalso
              have hf:=ht.fits m hm
              have hmm:=ht.mono (m+1) i (by omega) (by omega)
              have hg:=ht.grow m hm
              cases em:eff m with
              | none=>rw[em]at hon;cases hon
              | app=>rw[em]at hon;cases hon
              | alloc c' =>
                rw[em]at hon
                simp only[Ef.on,beq_iff_eq]at hon
                have:=hg.2.1 (by rw[em];rfl)
                omega
              | store k' c' =>
                rw[em]at hon hf
                simp only[Ef.on,beq_iff_eq]at hon
                simp only[Ef.fits]at hf
                omega
          · refine obsR_none (λm hm hon=>?_) (by have:=ht.mono 0 ops.size (zB _) (zE _);omega)
            exfalso
            have hf:=ht.fits m hm
            have hmm:=ht.mono (m+1) ops.size (by omega) (zE _)
            have hg:=ht.grow m hm
            cases em:eff m with
            | none=>rw[em]at hon;cases hon
            | app=>rw[em]at hon;cases hon
            | alloc c' =>
              rw[em]at hon
              simp only[Ef.on,beq_iff_eq]at hon
              have:=hg.2.1 (by rw[em];rfl)
              omega
            | store k' c' =>
              rw[em]at hon hf
              simp only[Ef.on,beq_iff_eq]at hon
              simp only[Ef.fits]at hf
              omega
        have ht0:lnsL ops.size sgs eff L (if opApp o.op=true then (sgs i).lns.length else (sgs ops.size).lns.length+(sgs 0).lns.length)=none:=by
          split
          · rename_i hap
            have hno:∀m,m<ops.size→m≠i→(eff m).isApp=false:=by
              intro m hm hmi
              cases h:(eff m).isApp with
              | false=>rfl
              | true =>
                obtain⟨x,hx⟩:=hop m hm
                have kx:=(ht.kind m x hx).2.2 h
                rcases zH m i with z | z | z
                · exact absurd ⟨kx,hap⟩ (pair_app hd hx ho z)
                · exact absurd z hmi
                · exact absurd ⟨hap,kx⟩ (pair_app hd ho hx z)
            have q1:(sgs i).lns=(sgs 0).lns:=ht.lnsq 0 i (zB _) (by omega) (λm _ hm=>hno m (by omega) (by omega))
            unfold lnsL
            have hno2:(zJ ops.size).any (λi=>L.getD i false&&(eff i).isApp)=false:=by
              rw[zM]
              intro h
              rw[zF]at h
              obtain⟨j,hj,hj2⟩:=h
              simp only[zA]at hj2
              by_cases ej:j=i
              · subst ej;rw[hu]at hj2;cases hj2.1
              · rw[hno j (List.mem_range.1 hj) ej]at hj2;cases hj2.2
            rw[hno2]
            simp only[zQ,qW]
            unfold lnsOf
            rw[q1]
            exact List.getElem?_eq_none (zE _)
          · unfold lnsL
            split
            · unfold lnsOf;rw[List.getElem?_eq_none (by omega)]
            · unfold lnsOf;rw[List.getElem?_eq_none (by omega)]
        obtain⟨nx,w',G',r1,r2,r3,r4⟩:=stepS_ok hH hk0 ht0 hfr hst
        have eo:(eff i).obs (obsR sgs eff L ops.size) (if (eff i).isAlloc=true then (sgs i).obs.length else (sgs ops.size).obs.length)=(eff i).obs (obsR sgs eff L ops.size) (sgs i).obs.length:=by
          cases he:eff i<;>simp[Ef.obs,Ef.isAlloc]
        rw[eo]at r4
        unfold Oper.wp
        rw[r1]
        rcases r2 with⟨v,rfl,hv⟩|⟨rfl,hv⟩
        · exact hnext G' _ w' r3 r4 (ii (ku r3 hfr) hv o.dst) (by rw[cg];exact hdf)
        · exact hnext G' _ w' r3 r4 (by rw[hv];exact ii (ku r3 hfr) (.undef _) o.dst) (by rw[cg];exact hdf)
variable {G:Cx}{Q:Exit→Act→World→Prop}
theorem region_draw{id:Nat}{fr:Fr}{s:Sg}{K:Fr→Sg→Prop}(h:regS g true ops ops.toList fr s (λfr' s'=>sepL (seps ops) fr'=true∧K fr' s'))(hd:gu ops=true){w:World}{G0:Cx}{a:Act}(hQ:∀a w,Post g w0 G0 K a w→Q .normal a w)(h0:G0.le G)(hH:HR P w0 w G s)(hfr:FR G fr a)(hdf:a.defers=[]) :
  (Code.region id ops true).wp P Q a w:=by
 obtain⟨frs,sgs,res,eff,e1,e2,ht,hK⟩:=trace_of ops.toList 0 fr s rfl (zB _) h
 refine wp_region_any g.mixed ?_
 have hrep:∀j,(Array.replicate ops.size false).getD j false=false:=by
  intro j
  rw[Array.getD_eq_getD_getElem?]
  grind
 refine reg_drawn ht hd hQ hK.2 hK.1 ops.size (Array.replicate ops.size false) G a _ (by simp) (λi o _ hl=>by simp_all) (cnt_le _ _) h0 ?_ ?_ hdf
 ·have e3:obsR sgs eff (Array.replicate ops.size false) ops.size=λk=>s.obs[k]?:=by
   funext k
   rw[kg (i:=0) (zB _) λj _ _ _=>hrep j]
   show (sgs 0).obs[k]? = _
   rw[e2]
  have e4:lnsL ops.size sgs eff (Array.replicate ops.size false)=λk=>s.lns[k]?:=by
   unfold lnsL
   rw[qU]
   ·rw[←e2];rfl
   simp_all
  rw[e3,e4]
  exact hH.kept ((Kp.refl w).drew)
 ·have:cfL ops frs res (Array.replicate ops.size false)=fr:=by
   rw[←e1]
   apply List.ext_getElem?
   intro t
   have hl1:=cf_len ops frs res (Array.replicate ops.size false)
   rcases zI t (frs 0).length with z | z
   ·have a1:(cfL ops frs res (Array.replicate ops.size false))[t]? = some ((cfL ops frs res (Array.replicate ops.size false)).getD t .undef):=by
     simp_all
    have a2:(frs 0)[t]? = some ((frs 0).getD t .undef):=by
     simp_all
    rw[a1,a2,pf]
    unfold valAt
    rw[lw_cut 0 ops.size (zB _) (λj _ _ _=>hrep j)]
    rfl
   simp_all
  simp_all
mutual
def V.under(n m:Nat):V→Bool
 | .own t _=>decide (t<m)
 | .ptr k _=>decide (k<n)
 | .sl k _ _ _=>decide (k<n)
 | .mp k=>decide (k<n)
 | .gr k _=>decide (k<n)
 | .gp k _ _ _=>decide (k<n)
 | .adr k=>decide (k<n)
 | .gs k _ _ _=>decide (k<n)
 | .agg cs=>V.unders n m cs
 | .tuple cs=>V.unders n m cs
 | .fn _ cs=>V.unders n m cs
 | _=>true
def V.unders(n m:Nat):List V→Bool
 | []=>true
 | x::xs=>V.under n m x&&V.unders n m xs
end
theorem kX{n m:Nat}:∀{cs:List V} {i:Nat} {x:V},V.unders n m cs=true→cs[i]? = some x→V.under n m x=true
 | [],i,x,_,h=>by simp at h
 | y::ys,i,x,hb,h=>by
  simp only[V.unders,zA]at hb
  cases i with
  | zero=>simp_all
  | succ i=>simp at h;exact kX hb.2 h
def Cx.restr(G:Cx)(n m:Nat):Cx:={ G with ob:=λk=>if k<n then G.ob k else none,lv:=λt=>if t<m then G.lv t else none,mp:=λk=>if k<n then G.mp k else none,rv:=λk=>if k<n then G.rv k else none }
variable {m:Nat}
theorem ox{x:V}{v:Value}(r:rel G x v):x.under n m=true→rel (G.restr n m) x v:=by
 induction r with
 | undef v=>intro _;exact .undef v
 | d q=>intro _;exact .d q
 | agg cs vs hl _ ih=>intro hb;simp only[V.under]at hb;exact .agg cs vs hl (λi x v h1 h2=>ih i x v h1 h2 (kX hb h1))
 | tuple cs vs hl _ ih=>intro hb;simp only[V.under]at hb;exact .tuple cs vs hl (λi x v h1 h2=>ih i x v h1 h2 (kX hb h1))
 | ptr k off b q=>intro hb;simp only[V.under,rc]at hb;exact .ptr k off b (by grind[Cx.restr])
 | iptr cs off b o u q1 q2=>intro _;exact .iptr cs off b o u q1 q2
 | own t es v q L hL hs hl=>intro hb;simp only[V.under,rc]at hb;exact .own t es v q L (by simp_all[Cx.restr]) hs hl
 | full es A q=>intro _;exact .full es A q
 | nil=>intro _;exact .nil
 | skip=>intro _;exact .skip
 | sl k off len cap b q=>intro hb;simp only[V.under,rc]at hb;exact .sl k off len cap b (by grind[Cx.restr])
 | fn f cs vs hl _ ih=>intro hb;simp only[V.under]at hb;exact .fn f cs vs hl (λi x v h1 h2=>ih i x v h1 h2 (kX hb h1))
 | mp k b q=>intro hb;simp only[V.under,rc]at hb;exact .mp k b (by grind[Cx.restr])
 | gr k j v h1 L hL hl=>intro hb;simp only[V.under,rc]at hb;exact .gr k j v h1 L (by simp_all[Cx.restr]) hl
 | gp k j i off v h1 L hL hl=>intro hb;simp only[V.under,rc]at hb;exact .gp k j i off v h1 L (by simp_all[Cx.restr]) hl
 | adr k v b q1 q2 q3=>intro hb;simp only[V.under,rc]at hb;exact .adr k v b (by simp_all[Cx.restr]) q2 q3
 | gs k j off len v h1 L hL hl=>intro hb;simp only[V.under,rc]at hb;exact .gs k j off len v h1 L (by simp_all[Cx.restr]) hl
def Sg.cut(s:Sg)(n m:Nat):Sg:=⟨s.obs.take n,s.lns.take m⟩
def maskF(L:List Nat)(fr:Fr):Fr:=fr.zipIdx.map λp=>if L.contains p.2 then p.1 else .undef
def keptOk(L:List Nat)(n m:Nat)(fr:Fr)(s:Sg):Bool:=(fr.zipIdx.all λp=>!L.contains p.2||p.1.under n m)&&(s.obs.take n).all λcs=>V.unders n m cs
theorem mask_len(L:List Nat)(fr:Fr):(maskF L fr).length=fr.length:=by simp[maskF]
theorem mask_getD(L:List Nat)(fr:Fr)(t:Nat):(maskF L fr).getD t .undef=if L.contains t=true then fr.getD t .undef else .undef:=by
 grind[maskF]
variable {a:Act}{fr:Fr}
theorem FR_mask(h:FR G fr a)(L:List Nat):FR G (maskF L fr) a:=by
 refine⟨by rw[mask_len];exact h.1,λt=>?_⟩
 rw[mask_getD]
 split
 ·exact h.2 t
 ·exact .undef _
variable {L:List Nat}{s:Sg}
theorem FR_cut(h:FR G fr a)(hk:keptOk L n m fr s=true):FR (G.restr n m) (maskF L fr) a:=by
 refine⟨by rw[mask_len];exact h.1,λt=>?_⟩
 rw[mask_getD]
 split
 ·rename_i hc
  have h2:=h.2 t
  refine ox h2 ?_
  unfold keptOk at hk
  simp only[zA,zR]at hk
  rw[List.getD_eq_getElem?_getD]
  cases hx:fr[t]? with
  | none=>simp[V.under]
  | some x =>
   have:=hk.1 (x,t) (by grind)
   simp_all
 ·exact .undef _
variable {w:World}
theorem HR_cut(h:HR P w0 w G s)(hk:keptOk L n m fr s=true):HR P w0 w (G.restr n m) (s.cut n m):=by
 have ho:∀k b,(G.restr n m).ob k=some b→k<n∧G.ob k=some b:=by
  simp_all[Cx.restr]
 have hl:∀t L',(G.restr n m).lv t=some L'→t<m∧G.lv t=some L':=by
  simp_all[Cx.restr]
 unfold keptOk at hk
 simp only[zA,zR]at hk
 have hm:∀k b,(G.restr n m).mp k=some b→k<n∧G.mp k=some b:=by
  simp_all[Cx.restr]
 have hrv:∀k L',(G.restr n m).rv k=some L'→k<n∧G.rv k=some L':=by
  grind[Cx.restr]
 refine⟨h.kp,h.fs,h.fb,?_,?_,?_,?_,?_,?_,h.gb,λk b q=>?_,λk b q=>?_,λk k' b q q'=>h.mpi k k' b (hm k b q).2 (hm k' b q').2,λk b q=>?_,λk L q=>?_,λk k' L L' b q q'=>h.rvi k k' L L' b (hrv k L q).2 (hrv k' L' q').2,h.tgs⟩
 ·intro k b q
  obtain⟨q1,q2⟩:=ho k b q
  have:=h.obd k b q2
  show (s.obs.take n)[k]?≠none
  simp_all
 ·intro k cs q hmk hrk
  have q':(s.obs.take n)[k]? = some cs:=q
  have hmem:=List.mem_of_getElem? q'
  rw[List.getElem?_take]at q'
  split at q'
  ·rename_i hkn
   obtain⟨b,vs,t,h1,h2,h3,h4,h5⟩:=h.obl k cs q' (by grind[Cx.restr]) (by grind[Cx.restr])
   refine⟨b,vs,t,by grind[Cx.restr],h2,h3,⟨h4.1,λi x v a1 a2=>ox (h4.2 i x v a1 a2) (kX (hk.2 cs hmem) a1)⟩,h5⟩
  ·cases q'
 ·intro k k' b q q'
  exact h.obi k k' b (ho k b q).2 (ho k' b q').2
 ·intro t L' q
  obtain⟨q1,q2⟩:=hl t L' q
  have:=h.lvd t L' q2
  show (s.lns.take m)[t]?≠none
  simp_all
 ·intro t e n' q
  have q':(s.lns.take m)[t]? = some (e,n'):=q
  rw[List.getElem?_take]at q'
  split at q'
  ·rename_i htm
   obtain⟨v,xs,h1,h2,h3⟩:=h.lvl t e n' q'
   exact⟨v,xs,by grind[Cx.restr],h2,λb hb=>⟨λk q=>(h3 b hb).1 k (ho k b q).2,(h3 b hb).2⟩⟩
  ·cases q'
 ·intro t t' L1 L2 b q q' h1 h2
  exact h.lvi t t' L1 L2 b (hl t L1 q).2 (hl t' L2 q').2 h1 h2
 ·obtain⟨q1,q2⟩:=ho k b q
  simp[Cx.restr,h.obm k b q2]
 ·obtain⟨q1,q2⟩:=hm k b q
  obtain⟨h1,es,c,ik,kvs,h2,h3,h4⟩:=h.mpl k b q2
  exact⟨h1,es,c,ik,kvs,by show (s.obs.take n)[k]? = _;simp_all,h3,h4⟩
 ·obtain⟨q1,q2⟩:=ho k b q
  simp[Cx.restr,h.obr k b q2]
 ·obtain⟨q1,q2⟩:=hrv k L q
  obtain⟨e,es,xs,h1,h2,h3,h4,h5,h6⟩:=h.rvl k L q2
  exact⟨e,es,xs,by show (s.obs.take n)[k]? = _;simp_all,h2,h3,h4,h5,λb hb=>⟨λj q=>(h6 b hb).1 j (ho j b q).2,(h6 b hb).2.1,λt L' q=>(h6 b hb).2.2 t L' (hl t L' q).2⟩⟩
theorem le_restr{w':World}{G':Cx}(h:HR P w0 w G s)(hle:G.le G'):G.le (G'.restr s.obs.length s.lns.length):=by
 refine⟨hle.base,hle.F,λk b q=>?_,λt L q=>?_,λk b q=>?_,λk L q=>?_,hle.tg⟩
 ·have:=h.obd k b q
  have hk:k<s.obs.length:=by
   simp_all
  simp only[Cx.restr,qV hk]
  exact hle.ob k b q
 ·have:=h.lvd t L q
  have ht:t<s.lns.length:=by
   simp_all
  simp only[Cx.restr,qV ht]
  exact hle.lv t L q
 ·obtain⟨_,es,c,ik,kvs,h2,_⟩:=h.mpl k b q
  have hk:k<s.obs.length:=aF h2
  simp only[Cx.restr,qV hk]
  exact hle.mp k b q
 ·obtain⟨e,es,xs,h2,_⟩:=h.rvl k L q
  have hk:k<s.obs.length:=aF h2
  simp only[Cx.restr,qV hk]
  exact hle.rv k L q
inductive Gh where
 | slot (t:Nat) (e:TypeId)
 | cell (k off:Nat) (e:TypeId)
def ghS:List Gh→Fr→Sg→Option (Fr×Sg)
 | [],fr,s=>some (fr,s)
 | .slot t e::r,fr,s=>match fr.getD t .undef with
  | .nil=>ghS r (fr.set t (.own s.lns.length [])) ⟨s.obs,s.lns++[(e,0)]⟩
  | _=>none
 | .cell k off e::r,fr,s=>match s.obs[k]? with
  | some cs=>match cs[off]? with
   | some .nil=>ghS r fr ⟨s.obs.set k (cs.set off (.own s.lns.length [])),s.lns++[(e,0)]⟩
   | _=>none
  | none=>none
theorem own_nil{sz:Nat}{v:Value}(r:rel G .nil v)(h:G.lv t=some ⟨0,sz,.slice none 0 0⟩):rel G (.own t []) v:=by
 cases r
 exact .own t [] _ (.nil _ _) _ h (λi e q=>by simp at q) (.inl ⟨rfl,rfl⟩)
theorem ghS_ok{P:Program}{w0 w:World}:∀(gh:List Gh) (fr:Fr) (s:Sg) (G:Cx) (a:Act) (fr':Fr) (s':Sg),ghS gh fr s=some (fr',s')→HR P w0 w G s→FR G fr a→∃G',G.le G'∧HR P w0 w G' s'∧FR G' fr' a
 | [],fr,s,G,a,fr',s',h,hH,hfr=>by
  grind[ghS,Cx.le.refl]
 | x::r,fr,s,G,a,fr',s',h,hH,hfr=>by
  have begin:∀e,∃G',G.le G'∧HR P w0 w G' ⟨s.obs,s.lns++[(e,0)]⟩∧G'.lv s.lns.length=some ⟨0,P.cellsOf e,.slice none 0 0⟩:=by
   intro e
   obtain⟨b1,b2⟩:=HRp.begin hH s.lns.length (by simp) e
   refine⟨_,b1,?_,aG _ _ _⟩
   have:upd (λt=>s.lns[t]?) s.lns.length (e,0)=λt=>(s.lns++[(e,0)])[t]?:=by
    grind[aG,aU]
   rw[this]at b2
   exact b2
  cases x with
  | slot t e =>
   simp only[ghS]at h
   split at h
   ·rename_i hx
    obtain⟨G1,b1,b2,b3⟩:=begin e
    have hr:=hfr.2 t
    rw[hx]at hr
    have hown:=own_nil (fG b1 hr) b3
    have hlt:t<fr.length:=by
     grind
    have hfr1:FR G1 (fr.set t (.own s.lns.length [])) a:=by
     refine⟨by simp[hfr.1],λj=>?_⟩
     by_cases e:t=j
     simp_all
     ·rw[List.getD_eq_getElem?_getD,List.getElem?_set_ne e,←List.getD_eq_getElem?_getD]
      exact fG b1 (hfr.2 j)
    obtain⟨G2,c1,c2,c3⟩:=ghS_ok r _ _ G1 a fr' s' h b2 hfr1
    exact⟨G2,b1.trans c1,c2,c3⟩
   ·cases h
  | cell k off e =>
   simp only[ghS]at h
   split at h
   ·rename_i cs hcs
    split at h
    ·rename_i hx
     obtain⟨G1,b1,b2,b3⟩:=begin e
     have hm:G1.mp k=none:=by
      cases hq:G1.mp k with
      | none=>rfl
      | some b =>
       obtain⟨_,_,_,ik,kvs,z,_⟩:=b2.mpl k b hq
       grind
     have hrv:G1.rv k=none:=by
      cases hq:G1.rv k with
      | none=>rfl
      | some L =>
       obtain⟨e',es,_,z,_⟩:=b2.rvl k L hq
       grind
     obtain⟨b,vs,t,q1,q2,q3,q4,q5⟩:=b2.obl k cs hcs hm hrv
     have hlt:=aF hx
     have hkl:=aF hcs
     have hr':rels G1 (cs.set off (.own s.lns.length [])) vs:=by
      refine⟨by simp[q4.1],λi x v a1 a2=>?_⟩
      by_cases e':off=i
      ·subst e'
       rw[List.getElem?_set,qV rfl,qV hlt]at a1
       injection a1 with a1;subst a1
       exact own_nil (q4.2 off _ v hx a2) b3
      ·rw[List.getElem?_set_ne e']at a1
       exact q4.2 i x v a1 a2
     have hp:=HRp.put b2 q1 (w':=w) ⟨rfl,rfl,rfl,zE _,λ_ _ _=>rfl⟩ (λ_ _ q=>q) q3 hr'
     have hH1:HR P w0 w G1 ⟨s.obs.set k (cs.set off (.own s.lns.length [])),s.lns++[(e,0)]⟩:=by
      have:upd (λj=>s.obs[j]?) k (cs.set off (.own s.lns.length []))=λj=>(s.obs.set k (cs.set off (.own s.lns.length [])))[j]?:=by
       grind[aG,aU]
      rw[this]at hp
      exact hp
     obtain⟨G2,c1,c2,c3⟩:=ghS_ok r _ _ G1 a fr' s' h hH1 (ku b1 hfr)
     exact⟨G2,b1.trans c1,c2,c3⟩
    ·cases h
   ·cases h
abbrev SQ:=Exit→Fr→Sg→Prop
def seqQ(K:Fr→Sg→Prop)(Q:SQ):SQ
 | .normal,fr,s=>K fr s
 | e,fr,s=>Q e fr s
def blockQ(id:Nat)(Q:SQ):SQ
 | .exit j,fr,s=>if j=id then Q .normal fr s else Q (.exit j) fr s
 | e,fr,s=>Q e fr s
def fg:Code→Bool
 | .region _ _ _=>true
 | .seq a b=>fg a&&fg b
 | .cond _ x y=>fg x&&fg y
 | .block _ c=>fg c
 | .loop c=>fg c
 | _=>true
def jk:Code→Bool
 | .region _ ops dr=>!dr||(gu ops&&(seps ops).isEmpty)
 | .seq a b=>jk a&&jk b
 | .cond _ x y=>jk x&&jk y
 | .block _ c=>jk c
 | .loop c=>jk c
 | _=>true
def SW{P:Program}(g:Pg P):Code→SQ→Fr→Sg→Prop
 | .skip,Q,fr,s=>Q .normal fr s
 | .region _ ops dr,Q,fr,s=>regS g dr ops ops.toList fr s (Q .normal)
 | .seq a b,Q,fr,s=>SW g a (seqQ (SW g b Q) Q) fr s
 | .cond c x y,Q,fr,s=>match aN fr c with
  | .d (.bool b)=>if b=true then SW g x Q fr s else SW g y Q fr s
  | _=>False
 | .block id c,Q,fr,s=>SW g c (blockQ id Q) fr s
 | .loop c,Q,fr,s=>∃(gh:List Gh) (fr0:Fr) (s0:Sg) (L:List Nat) (I:Nat→Fr→Sg→Prop) (n:Nat),ghS gh fr s=some (fr0,s0)∧I n (maskF L fr0) s0 ∧
   ∀m fr1 s1,I m fr1 s1→s1.obs.length=s0.obs.length∧s1.lns.length=s0.lns.length ∧
    SW g c (seqQ (λfr' s'=>keptOk L s0.obs.length s0.lns.length fr' s'=true∧∃m',m'<m∧I m' (maskF L fr') (s'.cut s0.obs.length s0.lns.length)) Q) fr1 s1
 | .exit id,Q,fr,s=>Q (.exit id) fr s
 | .ret,Q,fr,s=>Q .ret fr s
 | .label _,Q,fr,s=>Q .normal fr s
 | _,_,_,_=>False
def lift{P:Program}(g:Pg P)(w0:World)(G0:Cx)(Q:SQ):Exit→Act→World→Prop:=λe a w=>Post g w0 G0 (Q e) a w
variable {c:Code}
theorem nf(I:Nat→Act→World→Prop){a:Act}{w:World}(h₀:I n a w)
  (round:∀m a w,I m a w→c.wp P (Exit.then (λa' w'=>∃m',m'<m∧I m' a' w') Q) a w):(Code.loop c).wp P Q a w:=by
 intro b k cs
 have key:∀n a w,I n a w→∃e a' w',Q e a' w'∧Arrives P (lone (b.at a (.code c::.inLoop c::k)) cs w) b k cs e a' w':=by
  intro n
  induction n using Nat.strongRecOn with
  | _ n ih =>
   intro a w hI
   obtain⟨e,a₁,w₁,hq,harr⟩:=round n a w hI b (.inLoop c::k) cs
   cases e with
   | normal =>
    obtain⟨m',hlt,hI₁⟩:=hq
    obtain⟨e₂,a₂,w₂,hq₂,harr₂⟩:=ih m' hlt a₁ w₁ hI₁
    exact⟨e₂,a₂,w₂,hq₂,.of_steps (Steps.trans harr (.one step_inLoop)) harr₂⟩
   | exit id=>exact⟨_,a₁,w₁,hq,.pass (x:=.inLoop c) rfl (λ_ _=>.inl (by simp)) harr⟩
   | goto l=>exact⟨_,a₁,w₁,hq,.pass (x:=.inLoop c) rfl (λ_ _=>.inl (by simp)) harr⟩
   | ret=>exact⟨_,a₁,w₁,hq,.pass (x:=.inLoop c) rfl (λ_ _=>.inl (by simp)) harr⟩
   | panic ch=>exact⟨_,a₁,w₁,hq,.pass (x:=.inLoop c) rfl (λ_ _=>.inl (by simp)) harr⟩
   | outgrown=>exact⟨_,a₁,w₁,hq,.pass (x:=.inLoop c) rfl (λ_ _=>.inl (by simp)) harr⟩
 obtain⟨e,a',w',hq,harr⟩:=key _ a w h₀
 exact⟨e,a',w',hq,.of_steps (.one step_loop) harr⟩
theorem SW_ok:∀(c:Code),jk c=true→∀(Q:SQ) (fr:Fr) (s:Sg),SW g c Q fr s→∀(w0:World) (G0 G:Cx) (a:Act) (w:World),G0.le G→HR P w0 w G s→FR G fr a→a.defers=[]→c.wp P (lift g w0 G0 Q) a w:=by
 intro c
 induction c with
 | skip=>intro _ Q fr s h w0 G0 G a w h0 hH hfr hd;exact wp_skip ⟨G,fr,s,h0,hH,hfr,hd,h⟩
 | region id ops dr =>
  intro hdr Q fr s h w0 G0 G a w h0 hH hfr hd
  cases dr with
  | false=>exact wp_region_list (reg_seq (K:=Q .normal) (λa w q=>q) ops.toList fr s G a w h h0 hH hfr hd)
  | true =>
   have h2:gu ops=true∧seps ops=[]:=by simp_all[jk]
   refine region_draw (K:=Q .normal) ?_ h2.1 (λa w q=>q) h0 hH hfr hd
   have:(λfr' s'=>sepL (seps ops) fr'=true∧Q .normal fr' s')=Q .normal:=by
    simp_all[sepL]
   rw[this];exact h
 | seq x y ihx ihy =>
  intro hdr Q fr s h w0 G0 G a w h0 hH hfr hd
  simp only[jk,zA]at hdr
  refine wp_seq (Code.wp_mono ?_ (ihx hdr.1 _ fr s h w0 G0 G a w h0 hH hfr hd))
  intro e a w q
  cases e with
  | normal =>
   obtain⟨G',fr',s',q1,q2,q3,q4,q5⟩:=q
   exact ihy hdr.2 Q fr' s' q5 w0 G0 G' a w q1 q2 q3 q4
  | _=>exact q
 | cond c x y ihx ihy =>
  intro hdr Q fr s h w0 G0 G a w h0 hH hfr hd
  simp only[jk,zA]at hdr
  simp only[SW]at h
  split at h
  ·rename_i b hb
   have hr:=aK hfr c
   grind[inv_bool,wp_cond_true,wp_cond_false]
  simp_all
 | block id c ih =>
  intro hdr Q fr s h w0 G0 G a w h0 hH hfr hd
  refine wp_block (Code.wp_mono ?_ (ih hdr _ fr s h w0 G0 G a w h0 hH hfr hd))
  intro e a w q
  cases e with
  | exit j =>
   obtain⟨G',fr',s',q1,q2,q3,q4,q5⟩:=q
   simp only[blockQ]at q5
   simp only[Exit.inBlock]
   split
   ·rename_i e;rw[qV e]at q5;exact⟨G',fr',s',q1,q2,q3,q4,q5⟩
   ·rename_i e;rw[qU e]at q5;exact⟨G',fr',s',q1,q2,q3,q4,q5⟩
  | _=>exact q
 | loop c ih =>
  intro hdr Q fr s h w0 G0 G a w h0 hH hfr hd
  obtain⟨gh,fr0,s0,L,I,n,hgh,hI,hround⟩:=h
  obtain⟨G1,g1,g2,g3⟩:=ghS_ok gh fr s G a fr0 s0 hgh hH hfr
  refine nf (λm a w=>∃G' fr1 s1,G1.le G'∧HR P w0 w G' s1∧FR G' fr1 a∧a.defers=[]∧I m fr1 s1) (n:=n) ⟨G1,maskF L fr0,s0,Cx.le.refl _,g2,FR_mask g3 L,hd,hI⟩ ?_
  rintro m a w ⟨G',fr1,s1,k1,k2,k3,k4,k5⟩
  obtain⟨l1,l2,hbody⟩:=hround m fr1 s1 k5
  refine Code.wp_mono ?_ (ih hdr _ fr1 s1 hbody w0 G1 G' a w k1 k2 k3 k4)
  intro e a w q
  obtain⟨G2,fr2,s2,q1,q2,q3,q4,q5⟩:=q
  cases e with
  | normal =>
   obtain⟨q6,m',q7,q8⟩:=q5
   refine⟨m',q7,G2.restr s0.obs.length s0.lns.length,_,_,le_restr (w':=w) g2 q1,HR_cut q2 q6,FR_cut q3 q6,q4,q8⟩
  | _=>exact⟨G2,fr2,s2,(h0.trans g1).trans q1,q2,q3,q4,q5⟩
 | exit id=>intro _ Q fr s h w0 G0 G a w h0 hH hfr hd;exact wp_exit ⟨G,fr,s,h0,hH,hfr,hd,h⟩
 | ret=>intro _ Q fr s h w0 G0 G a w h0 hH hfr hd;exact wp_ret ⟨G,fr,s,h0,hH,hfr,hd,h⟩
 | label l=>intro _ Q fr s h w0 G0 G a w h0 hH hfr hd;exact wp_label ⟨G,fr,s,h0,hH,hfr,hd,h⟩
 | rangeFunc=>intro _ Q fr s h;exact h.elim
 | scope=>intro _ Q fr s h;exact h.elim
 | goto=>intro _ Q fr s h;exact h.elim
 | refuse=>intro _ Q fr s h;exact h.elim
def resOne{P:Program}(g:Pg P)(fr:Fr)(s:Sg):ResultVar→Option V
 | .tmp t=>some (fr.getD t .undef)
 | .cell a ty=>match fr.getD a .undef with
  | .ptr k off=>match s.obs[k]? with | some cs=>jv P ty cs off | none=>none
  | _=>none
def qi{P:Program}(g:Pg P)(fr:Fr)(s:Sg):List ResultVar→Option (List V)
 | []=>some []
 | r::rs=>match resOne g fr s r,qi g fr s rs with | some x,some xs=>some (x::xs) | _,_=>none
def resV{P:Program}(g:Pg P)(rs:List ResultVar)(fr:Fr)(s:Sg):Option V :=
 match qi g fr s rs with
 | some [x]=>some x
 | some xs=>some (.tuple xs)
 | none=>none
def retQ{P:Program}(g:Pg P)(rs:List ResultVar)(R:V→Sg→Prop):SQ
 | .normal,fr,s=>match resV g rs fr s with | some y=>R y s | none=>False
 | .ret,fr,s=>match resV g rs fr s with | some y=>R y s | none=>False
 | _,_,_=>False
theorem resAll_ok{P:Program}{g:Pg P}{w0 w:World}{G:Cx}{s:Sg}{fr:Fr}{a:Act}(hH:HR P w0 w G s)(hfr:FR G fr a):∀(rs:List ResultVar) (ys:List V),qi g fr s rs=some ys →
  ∃vs,(rs.mapM λ| .tmp t=>pure (a.tmps.getD t undef) | .cell ad ty=>do loadVar ty (←asAddr (a.tmps.getD ad undef)):Sem (List Value)).run P w=.ok vs w∧rels G ys vs
 | [],ys,h=>by
  simp_all[qi,i6]
 | r::rs,ys,h=>by
  unfold qi at h
  split at h
  ·rename_i x xs hx hxs
   injection h with h;subst h
   obtain⟨vs,v1,v2⟩:=resAll_ok hH hfr rs xs hxs
   have hone:∃v,((match r with | .tmp t=>pure (a.tmps.getD t undef) | .cell ad ty=>do loadVar ty (←asAddr (a.tmps.getD ad undef))):Sem Value).run P w=.ok v w∧rel G x v:=by
    cases r with
    | tmp t=>simp only[resOne]at hx;injection hx with hx;subst hx;exact⟨_,rfl,hfr.2 t⟩
    | cell ad ty =>
     simp only[resOne]at hx
     split at hx
     ·rename_i k off hk
      split at hx
      ·rename_i cs hcs
       have hr:=hfr.2 ad
       rw[hk]at hr
       obtain⟨b,hb,hv⟩:=ly hr
       obtain⟨b',us,tt,h1,h2,h3,h4,h5⟩:=hH.obl k cs hcs (hH.obm k b hb) (hH.obr k b hb)
       rw[hb]at h1;injection h1 with h1;subst h1
       obtain⟨v,r1,r2⟩:=me (P:=P) (b:=b) (o:=0) (w:=w) hx h4 (λi v hi=>by
        rw[cell_of_row w b _ _ _ _ h3];simp_all)
       simp_all[asAddr]
      ·cases hx
     ·cases hx
   obtain⟨v,o1,o2⟩:=hone
   simp_all[dM]
  ·cases h
variable {fn:Func}
theorem resV_ok(hH:HR P w0 w G s)(hfr:FR G fr a)(h:resV g fn.results.toList fr s=some y):∃v,(results fn a.tmps).run P w=.ok v w∧rel G y v:=by
 unfold resV at h
 cases hall:qi g fr s fn.results.toList with
 | none=>simp_all
 | some ys =>
  rw[hall]at h
  obtain⟨vs,v1,v2⟩:=resAll_ok hH hfr _ ys hall
  have hrun:∀f:Array Value→Sem Value,((do let vs ←fn.results.mapM (λ| .tmp t=>pure (a.tmps.getD t undef) | .cell ad ty=>do loadVar ty (←asAddr (a.tmps.getD ad undef)));f vs):Sem Value).run P w=(f ⟨vs⟩).run P w:=by
   simp_all[Array.mapM_eq_mapM_toList]
  have hres:(results fn a.tmps).run P w=(pure (if h:(⟨vs⟩:Array Value).size=1 then (⟨vs⟩:Array Value)[0]else .tuple ⟨vs⟩):Sem Value).run P w:=by
   unfold results
   exact hrun _
  rw[hres]
  have hl:=v2.1
  cases ys with
  | nil =>
   simp only at h;injection h with h;subst h
   have:vs=[]:=zO hl.symm
   subst this
   exact⟨_,by simp,.tuple [] [] rfl (λi x v q=>by simp at q)⟩
  | cons x xs =>
   cases xs with
   | nil =>
    simp only at h;injection h with h;subst h
    cases vs with
    | nil=>simp at hl
    | cons u us =>
     have:us=[]:=zO (by simp_all)
     subst this
     exact⟨u,by simp,v2.2 0 x u rfl rfl⟩
   | cons x2 xs =>
    simp only at h;injection h with h;subst h
    refine⟨.tuple ⟨vs⟩,?_,.tuple _ _ v2.1 v2.2⟩
    (simp_all;omega)
variable {args:List V}
theorem init_FR{vs:List Value}(h:rels G args vs)(n:Nat):FR G (args++zL (n-args.length) .undef) { tmps:=⟨vs⟩++Array.replicate (n-(⟨vs⟩:Array Value).size) undef,defers:=[] }:=by
 refine⟨by simp[h.1],λt=>?_⟩
 rw[List.getD_eq_getElem?_getD]
 rcases zI t args.length with q | q
 ·have q2:t<vs.length:=by rw[←h.1];exact q
  rw[List.getElem?_append_left q,Array.getD_eq_getD_getElem?,Array.getElem?_append_left (by omega)]
  have:=h.2 t args[t] vs[t] (List.getElem?_eq_getElem q) (List.getElem?_eq_getElem q2)
  simp_all
 ·rw[List.getElem?_append_right q]
  cases hx:(zL (n-args.length) V.undef)[t-args.length]? with
  | none=>exact .undef _
  | some x =>
   have:=List.mem_of_getElem? hx
   have:=List.eq_of_mem_replicate this
   subst this;exact .undef _
variable {xs:List D}
theorem kinds_cons{k:SK}{l:List (Option SK)}(h:xs.map D.kind? = some k::l):∃x r,xs=x::r∧x.kind? = some k∧r.map D.kind? = l:=by
 cases xs<;>grind
theorem kinds_nil(h:xs.map D.kind? = []):xs=[]:=by simpa using h
theorem kind_int{x:D}{k:IntKind}(h:x.kind? = some (.int k)):∃n,x=.int k n:=by cases x<;>simp[D.kind?]at h;simp_all
theorem kind_bool{x:D}(h:x.kind? = some .bool):∃b,x=.bool b:=by cases x<;>simp[D.kind?]at h;simp_all
theorem kind_str{x:D}(h:x.kind? = some .str):∃s,x=.str s:=by cases x<;>simp[D.kind?]at h;simp_all
open Go.RowKit
theorem nr{α:Sort _}{a b:α}(h:a=b):a=b:=Eq.trans h (Eq.trans rfl rfl)
section
variable {P : Program} {g : Pg P} {Q : SQ} {fr : Fr} {s : Sg}
theorem regS_nil{dr:Bool}{ops:Array Oper}{K:Fr→Sg→Prop}:regS g dr ops [] fr s K=K fr s:=nr rfl
theorem contK_eq{F:Fr→Sg→(Fr→Sg→Prop)→Prop}{K:Fr→Sg→Prop}{dst:Option Tmp}{r:V}:contK F K fr dst r s=F (putF fr dst r) s K:=nr rfl
theorem contD_eq{F:Fr→Sg→(Fr→Sg→Prop)→Prop}{K:Fr→Sg→Prop}{dst:Option Tmp}{r:V}:contD F K fr dst s r=F (putF fr dst r) s K:=nr rfl
end
def jp(n m:Nat):List (List V)→Bool
 | []=>true
 | cs::r=>V.unders n m cs&&jp n m r
variable {R:V→Sg→Prop}{args':List V}{f:FuncId}{r:V}
theorem bf.by(h:Spec g f args' r)(ha:args.map V.clean=args')(hR:R r s):bf g f args s R:=Spec.toS (by simp_all) hR
variable {K:V→Prop}
theorem Spec.by(h:Spec g f args' r)(ha:args.map V.clean=args')(hK:K r):callD g f args K:=⟨r,Spec.weak (by simp_all),hK⟩
theorem Spec.byF(h:Spec g f args' r)(ha:args=args')(hK:K r):callD g f args K:=⟨r,by simp_all,hK⟩
theorem bf.byF(h:Spec g f args' r)(ha:args.map V.cleanF=args')(hR:R r s):bf g f args s R:=Spec.toSF (by simp_all) hR
theorem bf.imp{s:Sg}{R':V→Sg→Prop}(h:bf g f args s R)(hi:∀y s',R y s'→R' y s'):bf g f args s R':=by
 refine⟨h.1,λw0 w G vs hH hr=>(h.2 w0 w G vs hH hr).mono ?_⟩
 grind
@[simp] theorem natCast_succ_neg(j:Nat):((j:Int)+1<0)=False:=by simp;omega
@[simp] theorem natCast_neg(j:Nat):((j:Int)<0)=False:=by simp
@[simp] theorem wrap_succ(j:Nat)(h:j<9223372036854775807):IntKind.i64.wrap ((j:Int)+1)=(j:Int)+1:=IntWalk.i64_in _ (by omega)
open Go.RowKit
def SWs{P:Program}(g:Pg P)(c:Code)(Q:SQ)(fr:Fr)(s:Sg):Prop :=
 fg c=true→∀(w0:World) (G0 G:Cx) (a:Act) (w:World),G0.le G→HR P w0 w G s→FR G fr a→a.defers=[]→c.wp P (lift g w0 G0 Q) a w
section
variable {P : Program} {g : Pg P} {Q : SQ} {fr : Fr} {s : Sg}
theorem SWs.of{c:Code}(hs:jk c=true)(h:SW g c Q fr s):SWs g c Q fr s:=λ_ w0 G0 G a w h0 hH hfr hdf=>SW_ok c hs Q fr s h w0 G0 G a w h0 hH hfr hdf
theorem SWs.mono{c:Code}{Q':SQ}(h:SWs g c Q fr s)(hq:∀e fr s,Q e fr s→Q' e fr s):SWs g c Q' fr s:=by
 intro hd w0 G0 G a w h0 hH hfr hdf
 refine Code.wp_mono ?_ (h hd w0 G0 G a w h0 hH hfr hdf)
 rintro e a w ⟨G',fr',s',q1,q2,q3,q4,q5⟩
 exact⟨G',fr',s',q1,q2,q3,q4,hq _ _ _ q5⟩
theorem SWs.skip(h:Q .normal fr s):SWs g .skip Q fr s:=SWs.of rfl h
theorem SWs.ret(h:Q .ret fr s):SWs g .ret Q fr s:=SWs.of rfl h
theorem SWs.exit{id:Nat}(h:Q (.exit id) fr s):SWs g (.exit id) Q fr s:=SWs.of rfl h
theorem SWs.region{id:Nat}{ops:Array Oper}(h:regS g false ops ops.toList fr s (Q .normal)):SWs g (.region id ops false) Q fr s:=SWs.of rfl h
theorem SWs.regionD{id:Nat}{ops:Array Oper}{L:List (Tmp×Tmp)}(hL:(gu ops,seps ops)=(true,L))(h:regS g true ops ops.toList fr s (λfr' s'=>sepL L fr'=true∧Q .normal fr' s')):SWs g (.region id ops true) Q fr s:=by
 intro hdr w0 G0 G a w h0 hH hfr hd
 injection hL with h1 h2
 exact region_draw (by simp_all) h1 (λa w q=>q) h0 hH hfr hd
theorem SWs.seq{x y:Code}(h:SWs g x (seqQ (SWs g y Q) Q) fr s):SWs g (.seq x y) Q fr s:=by
 intro hdr w0 G0 G a w h0 hH hfr hd
 simp only[fg,zA]at hdr
 refine wp_seq (Code.wp_mono ?_ (h hdr.1 w0 G0 G a w h0 hH hfr hd))
 intro e a w q
 cases e with
 | normal =>
  obtain⟨G',fr',s',q1,q2,q3,q4,q5⟩:=q
  exact q5 hdr.2 w0 G0 G' a w q1 q2 q3 q4
 | _=>exact q
theorem SWs.cut{x y:Code}(L:List Nat)(J:Fr→Sg→Prop)(h:SWs g x (seqQ (λfr' s'=>keptOk L s.obs.length s.lns.length fr' s'=true∧J (maskF L fr') (s'.cut s.obs.length s.lns.length)) Q) fr s)
  (h2:∀fr1 s1,J fr1 s1→SWs g y Q fr1 s1):SWs g (.seq x y) Q fr s:=by
 intro hdr w0 G0 G a w h0 hH hfr hd
 simp only[fg,zA]at hdr
 refine wp_seq (Code.wp_mono ?_ (h hdr.1 w0 G G a w (Cx.le.refl G) hH hfr hd))
 rintro e a w ⟨G',fr',s',q1,q2,q3,q4,q5⟩
 cases e with
 | normal =>
  obtain⟨q6,q7⟩:=q5
  exact h2 _ _ q7 hdr.2 w0 G0 _ a w (h0.trans (le_restr (w':=w) hH q1)) (HR_cut q2 q6) (FR_cut q3 q6) q4
 | _=>exact⟨G',fr',s',h0.trans q1,q2,q3,q4,q5⟩
theorem SWs.gh{c:Code}(gh:List Gh){fr0:Fr}{s0:Sg}(hgh:ghS gh fr s=some (fr0,s0))(h:SWs g c Q fr0 s0):SWs g c Q fr s:=by
 intro hdr w0 G0 G a w h0 hH hfr hd
 obtain⟨G1,g1,g2,g3⟩:=ghS_ok gh fr s G a fr0 s0 hgh hH hfr
 exact h hdr w0 G0 G1 a w (h0.trans g1) g2 g3 hd
theorem SWs.cond{o:Operand}{x y:Code}{b:Bool}(hb:aN fr o=.d (.bool b))(hx:b=true→SWs g x Q fr s)(hy:b=false→SWs g y Q fr s):SWs g (.cond o x y) Q fr s:=by
 intro hdr w0 G0 G a w h0 hH hfr hd
 simp only[fg,zA]at hdr
 have hr:=aK hfr o
 rw[hb]at hr
 have hv:=inv_bool hr
 cases b with
 | true=>exact wp_cond_true hv (hx rfl hdr.1 w0 G0 G a w h0 hH hfr hd)
 | false=>exact wp_cond_false hv (hy rfl hdr.2 w0 G0 G a w h0 hH hfr hd)
theorem SWs.block{id:Nat}{c:Code}(h:SWs g c (blockQ id Q) fr s):SWs g (.block id c) Q fr s:=by
 intro hdr w0 G0 G a w h0 hH hfr hd
 refine wp_block (Code.wp_mono ?_ (h hdr w0 G0 G a w h0 hH hfr hd))
 intro e a w q
 cases e with
 | exit j =>
  obtain⟨G',fr',s',q1,q2,q3,q4,q5⟩:=q
  simp only[blockQ]at q5
  simp only[Exit.inBlock]
  split
  ·rename_i e;rw[qV e]at q5;exact⟨G',fr',s',q1,q2,q3,q4,q5⟩
  ·rename_i e;rw[qU e]at q5;exact⟨G',fr',s',q1,q2,q3,q4,q5⟩
 | _=>exact q
theorem SWs.loop{c:Code}(L:List Nat)(I:Nat→Fr→Sg→Prop)(n:Nat)(h0:I n (maskF L fr) s)
  (hr:∀m fr1 s1,I m fr1 s1→s1.obs.length=s.obs.length∧s1.lns.length=s.lns.length ∧
   SWs g c (seqQ (λfr' s'=>keptOk L s.obs.length s.lns.length fr' s'=true∧∃m',m'<m∧I m' (maskF L fr') (s'.cut s.obs.length s.lns.length)) Q) fr1 s1):SWs g (.loop c) Q fr s:=by
 intro hdr w0 G0 G a w hG hH hfr hd
 refine nf (λm a w=>∃G' fr1 s1,G.le G'∧HR P w0 w G' s1∧FR G' fr1 a∧a.defers=[]∧I m fr1 s1) (n:=n) ⟨G,maskF L fr,s,Cx.le.refl _,hH,FR_mask hfr L,hd,h0⟩ ?_
 rintro m a w ⟨G',fr1,s1,k1,k2,k3,k4,k5⟩
 obtain⟨l1,l2,hbody⟩:=hr m fr1 s1 k5
 refine Code.wp_mono ?_ (hbody hdr w0 G G' a w k1 k2 k3 k4)
 intro e a w q
 obtain⟨G2,fr2,s2,q1,q2,q3,q4,q5⟩:=q
 cases e with
 | normal =>
  obtain⟨q6,m',q7,q8⟩:=q5
  exact⟨m',q7,G2.restr s.obs.length s.lns.length,_,_,le_restr (w':=w) hH q1,HR_cut q2 q6,FR_cut q3 q6,q4,q8⟩
 | _=>exact⟨G2,fr2,s2,hG.trans q1,q2,q3,q4,q5⟩
end
theorem nt(hf:P.funcs[f]? = some fn)(hb:fn.body=some c)(he:cm P f=true)(hdr:fg c=true)
  (h:SWs g c (retQ g fn.results.toList R) (args++zL (fn.ntmps-args.length) .undef) s):bf g f args s R:=by
 refine⟨he,λw0 w G vs hH hr=>?_⟩
 refine calls_of_wp hf hb (Code.wp_mono ?_ (h hdr w0 G G _ w (Cx.le.refl G) hH (init_FR hr fn.ntmps) rfl))
 rintro e a w' ⟨G',fr,s',q1,q2,q3,q4,q5⟩
 cases e with
 | normal =>
  simp only[retQ]at q5
  split at q5
  ·rename_i y hy
   obtain⟨v,r1,r2⟩:=resV_ok q2 q3 hy
   exact⟨q4,v,r1,v,y,s',G',rfl,q1,q2,r2,q5⟩
  simp_all
 | ret =>
  simp only[retQ]at q5
  split at q5
  ·rename_i y hy
   obtain⟨v,r1,r2⟩:=resV_ok q2 q3 hy
   exact⟨q4,v,r1,v,y,s',G',rfl,q1,q2,r2,q5⟩
  simp_all
 | _=>exact q5.elim
theorem spec_by(hf:P.funcs[f]? = some fn)(hb:fn.body=some c)(he:cm P f=true)(hdr:fg c=true)
  (h:SWs g c (retQ g fn.results.toList (λy _=>y.clean=r)) (args++zL (fn.ntmps-args.length) .undef) ⟨[],[]⟩):Spec g f args r:=by
 refine⟨he,λw F vs hF hgl hr=>?_⟩
 have hs:=nt hf hb he hdr h
 have hH:HR P w w (iz F) ⟨[],[]⟩:=by
  refine⟨Kp.refl w,hF,λb o v q=>.inl q,?_,?_,?_,?_,?_,?_,hgl,λk b q=>(by cases q),λk b q=>(by cases q),λk k' b q=>(by cases q),λk b q=>(by cases q),λk L q=>(by cases q),λk k' L L' b q=>(by cases q),λb t q=>(by cases q)⟩
  ·intro k b q;cases q
  simp_all
  ·intro k k' b q;cases q
  ·intro t L q;cases q
  simp_all
  ·intro t t' L L' b q;cases q
 refine (hs.2 w w (iz F) vs hH hr).mono ?_
 rintro e w' ⟨v,y,s',G',rfl,q1,q2,q3,q4⟩
 refine⟨v,rfl,q2.kp,?_⟩
 subst q4
 refine jo q3 _ (λb o u q=>?_)
 rcases q2.fb b o u q with z | z
 ·left
  have:=q1.base
  rw[this]at z
  exact z
 ·exact .inr ⟨z,(q2.fs b o u q).2⟩
theorem specF_by(hf:P.funcs[f]? = some fn)(hb:fn.body=some c)(he:cm P f=true)(hdr:fg c=true)
  (h:SWs g c (retQ g fn.results.toList (λy _=>y.cleanF=r)) (args++zL (fn.ntmps-args.length) .undef) ⟨[],[]⟩):Spec g f args r:=by
 refine⟨he,λw F vs hF hgl hr=>?_⟩
 have hs:=nt hf hb he hdr h
 have hH:HR P w w (iz F) ⟨[],[]⟩:=by
  refine⟨Kp.refl w,hF,λb o v q=>.inl q,?_,?_,?_,?_,?_,?_,hgl,λk b q=>(by cases q),λk b q=>(by cases q),λk k' b q=>(by cases q),λk b q=>(by cases q),λk L q=>(by cases q),λk k' L L' b q=>(by cases q),λb t q=>(by cases q)⟩
  ·intro k b q;cases q
  simp_all
  ·intro k k' b q;cases q
  ·intro t L q;cases q
  simp_all
  ·intro t t' L L' b q;cases q
 refine (hs.2 w w (iz F) vs hH hr).mono ?_
 rintro e w' ⟨v,y,s',G',rfl,q1,q2,q3,q4⟩
 refine⟨v,rfl,q2.kp,?_⟩
 subst q4
 refine cleanF_rel q3 _ (λb o u q=>?_)
 rcases q2.fb b o u q with z | z
 ·left
  have:=q1.base
  rw[this]at z
  exact z
 ·exact .inr ⟨z,(q2.fs b o u q).2⟩
end Go.Proofs.YtphbhdoljnokkaaGreatDoor
