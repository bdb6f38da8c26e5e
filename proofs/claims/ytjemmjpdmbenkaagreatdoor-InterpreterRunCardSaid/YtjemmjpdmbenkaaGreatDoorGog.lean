/-
  Go, Gp in one text.
-/
import Derived.Test.YtjemmjpdmbenkaaGreatDoorG1
import Derived.ProofKit
import Derived.ChangeArms
import Derived.OpenShut
import Derived.Deep.Slices
open List renaming eq_nil_of_length_eq_zero → zA,length_drop → zF,length_map → zG
open Nat renaming eq_zero_or_pos → zB,lt_or_ge → zD,mul_one → zE,add_assoc → zI
namespace Go.Proofs.YtjemmjpdmbenkaaGreatDoor
open Go.ChangeShapes Go.WideShapes Go.ChangeAt Go.RowKit Go.Deep
def ia(w:World)(b o:Nat)(u:Value):Prop:=w.cell? ⟨b,o,none⟩=some u
def RelC(w:World)(ds:List D)(cs:List Value):Prop:=ds.length=cs.length∧∀(j:Nat) (d:D) (c:Value),ds[j]? = some d→cs[j]? = some c→relD (ia w) d c
theorem RelC.one{w:World}{d:D}{c:Value}(h:relD (ia w) d c):RelC w [d] [c]:=by
 refine⟨rfl,λj d' c' h1 h2=>?_⟩
 cases j with
 | zero=>simp at h1 h2;subst h1;subst h2;exact h
 | succ j=>simp at h1
theorem RelC.cut{w:World}{d r:List D}{cs:List Value}(off k:Nat)(h:RelC w d ((cs.drop off).take k))(hk:d.length=k)(h2:RelC w r (cs.drop (off+k))):RelC w (d++r) (cs.drop off):=by
 have hl:=h.1
 have hl2:=h2.1
 simp only[List.length_take,zF]at hl hl2
 refine⟨by simp only[List.length_append,zF];omega,λj x c q1 q2=>?_⟩
 rcases zD j d.length with z | z
 ·rw[List.getElem?_append_left z]at q1
  exact h.2 j x c q1 (by rw[List.getElem?_take,od (by omega)];exact q2)
 ·rw[List.getElem?_append_right z]at q1
  refine h2.2 (j-d.length) x c q1 ?_
  rw[List.getElem?_drop]at q2 ⊢
  rw[←q2];congr 1;omega
theorem RelC.nil{w:World}{cs:List Value}{n:Nat}(h:cs.length≤n):RelC w [] (cs.drop n):=⟨by simp;omega,λj d c h1 _=>by simp at h1⟩
def Opn(P:Program)(t:TypeId){X:Type}(en:X→List D)(ok:X→Prop):Prop :=
 ∀(w:World) (H:Type) (enc:TypeId×Value→H) (fuel:Nat) (cs:List Value) (x:DataW H×List MemPlace),DataW.trod enc P w 0 (λ_=>true) true fuel t cs=some x→∃s:X,RelC w (en s) cs∧ok s
def inInt(k:IntKind)(n:Int):Prop:=(Lit.int k n).wf=true
def inBool(_:Bool):Prop:=True
def inStr(s:List UInt8):Prop:=s.length≤maxLen
def inList{X:Type}(ok:X→Prop)(l:List X):Prop:=l.length≤maxLen∧∀x∈l,ok x
variable {P : Program} {t : TypeId}
theorem Opn.int{k:IntKind}(ht:P.underlying t=some (.int k)):Opn P t (eInt k) (inInt k):=by
 intro w H enc fuel cs x h
 obtain⟨n,rfl,_,h2⟩:=DataW.trod_int ht h
 exact⟨n,.one (.int k n),h2⟩
theorem Opn.bool(ht:P.underlying t=some .bool):Opn P t bV inBool:=by
 intro w H enc fuel cs x h
 obtain⟨b,rfl,_⟩:=DataW.trod_bool ht h
 exact⟨b,.one (.bool b),trivial⟩
theorem Opn.str(ht:P.underlying t=some .string):Opn P t eStr inStr:=by
 intro w H enc fuel cs x h
 obtain⟨s,rfl,_,h2⟩:=DataW.trod_string ht h
 refine⟨s.data.toList,.one ?_,by unfold inStr;simpa using h2⟩
 have:=relD.str (F:=ia w) s.data.toList
 simpa using this
theorem addr_at{b off n:Nat}:(⟨b,off,none⟩:Addr).add n=⟨b,off+n,none⟩:=by
 unfold Addr.add
 split
 ·rename_i h;simp_all
 ·rfl
theorem each_list{X:Type}{n:Nat}{Q:Nat→X→Prop}(h:∀i,i<n→∃m,Q i m):∃l:List X,l.length=n∧∀i m,l[i]? = some m→Q i m:=by
 induction n with
 | zero=>exact⟨[],rfl,λi m hi=>by simp at hi⟩
 | succ n ih =>
  obtain⟨l,h1,h2⟩:=ih (λi hi=>h i (by omega))
  obtain⟨m,hm⟩:=h n (by omega)
  refine⟨l++[m],by simp[h1],λi x hi=>?_⟩
  rcases zD i l.length with z | z
  ·rw[List.getElem?_append_left z]at hi;exact h2 i x hi
  ·rw[List.getElem?_append_right z]at hi
   have:i-l.length=0:=by
    rcases zB (i-l.length)with q | q
    ·exact q
    ·rw[List.getElem?_eq_none (by simp;omega)]at hi;cases hi
   rw[this]at hi
   simp at hi;subst hi
   rw[show i=n by omega];exact hm
theorem Opn.slice{e:TypeId}{X:Type}{en:X→List D}{ok:X→Prop}(ht:P.underlying t=some (.slice e))(h0:Opn P e en ok)(hz:∀x,(en x).length=P.cellsOf e)(hp:0<P.cellsOf e) :
  Opn P t (bC en) (inList ok):=by
 intro w H enc fuel cs x h
 rcases open_slice ht h with⟨rfl,_⟩|⟨a,len,cap,m,n,DD,Pl,rfl,_,hl,hm,hmm,_,hi⟩
 ·exact⟨[],.one (.nil _ _),by simp[inList]⟩
 ·simp only[og]at hmm
  subst m
  have hQ:∀i,i<len→∃s:X,ok s∧∃cs',w.cells? 0 (a.add (i*P.cellsOf e)) (P.cellsOf e)=some cs'∧RelC w (en s) cs':=by
   intro i hil
   obtain⟨cs',hc,ht'⟩:=hi i (by omega)
   obtain⟨s,r,o⟩:=h0 w H enc n cs' _ ht'
   exact⟨s,o,cs',hc,r⟩
  obtain⟨l,hll,hlq⟩:=each_list hQ
  refine⟨l,.one ?_,by omega,λs hs=>?_⟩
  ·rcases zB len with z | z
   ·have:l=[]:=zA (by omega)
    subst this
    rw[z]
    exact .nil _ _
   ·obtain⟨b,off,spot⟩:=a
    have hcell:∀i s,l[i]? = some s→∀j d,(en s)[j]? = some d→∃u,w.cell? ((⟨b,off,spot⟩:Addr).add (i*P.cellsOf e+j))=some u∧relD (ia w) d u:=by
     intro i s his j d hd
     obtain⟨_,cs',hc,hr⟩:=hlq i s his
     obtain⟨_,_,hat⟩:=World.cells?_some hc
     have hj:j<P.cellsOf e:=by rw[←hz s];exact ak hd
     have:=hat j hj
     rw[Go.Deep.add_add]at this
     have hjc:j<cs'.length:=by rw[←hr.1,hz];exact hj
     refine⟨cs'[j],?_,hr.2 j d _ hd (List.getElem?_eq_getElem hjc)⟩
     rw[this,List.getElem?_eq_getElem hjc]
    have hspot:spot=none:=by
     obtain⟨s0,hs0⟩:∃s,l[0]? = some s:=⟨_,List.getElem?_eq_getElem (by omega)⟩
     obtain⟨d0,hd0⟩:∃d,(en s0)[0]? = some d:=⟨_,List.getElem?_eq_getElem (by rw[hz];exact hp)⟩
     obtain⟨u,hu,_⟩:=hcell 0 s0 hs0 0 d0 hd0
     simpa [Addr.add] using World.cell?_spot hu
    subst hspot
    have key:=relD.list (F:=ia w) (l.map en) b off cap (P.cellsOf e) (λi j=>(w.cell? ⟨b,off+i*P.cellsOf e+j,none⟩).getD Go.undef) (by simp;omega) (by simp;omega)
     (λi e' he=>by
      rw[List.getElem?_map]at he
      cases hq:l[i]? with
      | none=>rw[hq]at he;cases he
      | some s=>rw[hq]at he;simp at he;subst he;exact hz s)
     (λi j e' d he hd=>by
      rw[List.getElem?_map]at he
      cases hq:l[i]? with
      | none=>rw[hq]at he;cases he
      | some s =>
       rw[hq]at he;simp at he;subst he
       obtain⟨u,hu,_⟩:=hcell i s hq j d hd
       have hu':w.cell? ⟨b,off+i*P.cellsOf e+j,none⟩=some u:=by rw[addr_at]at hu;simpa [zI] using hu
       unfold ia
       rw[hu'];rfl)
     (λi j e' d he hd=>by
      rw[List.getElem?_map]at he
      cases hq:l[i]? with
      | none=>rw[hq]at he;cases he
      | some s =>
       rw[hq]at he;simp at he;subst he
       obtain⟨u,hu,hr⟩:=hcell i s hq j d hd
       have hu':w.cell? ⟨b,off+i*P.cellsOf e+j,none⟩=some u:=by rw[addr_at]at hu;simpa [zI] using hu
       rw[hu'];exact hr)
    rw[zG,hll]at key
    exact key
  ·obtain⟨i,hi,rfl⟩:=List.mem_iff_getElem.1 hs
   exact (hlq i _ (List.getElem?_eq_getElem hi)).1
theorem Opn.field{H:Type}{enc:TypeId×Value→H}{w:World}{fs:Array Field}{n:Nat}{cs:List Value}{xs:List (DataW H×List MemPlace)}(hf:∀(i:Nat) (f:Field),fs[i]? = some f→DataW.trod enc P w 0 (λ_=>true) true n f.type ((cs.drop f.offset).take (P.cellsOf f.type))=xs[i]?)
  (i:Nat) (t off k:Nat) (h:fs[i]?.map (λf=>(f.type,f.offset))=some (t,off)) (hc:P.cellsOf t=k) (hi:i<xs.length) {X:Type} {en:X→List D} {ok:X→Prop} (ho:Opn P t en ok):∃s:X,RelC w (en s) ((cs.drop off).take k)∧ok s:=by
 obtain⟨f,h1,h2⟩:=Option.map_eq_some_iff.1 h
 injection h2 with h2 h3
 subst h2 h3 hc
 exact ho w H enc n _ _ ((hf i f h1).trans (List.getElem?_eq_getElem hi))
theorem Opn.elem{H:Type}{enc:TypeId×Value→H}{w:World}{e n m:Nat}{cs:List Value}{xs:List (DataW H×List MemPlace)}(hf:∀(i:Nat),i<n→DataW.trod enc P w 0 (λ_=>true) true m e ((cs.drop (i*P.cellsOf e)).take (P.cellsOf e))=xs[i]?)
  (i k:Nat) (hc:P.cellsOf e=k) (hi:i<n) (hx:xs.length=n) {X:Type} {en:X→List D} {ok:X→Prop} (ho:Opn P e en ok):∃s:X,RelC w (en s) ((cs.drop (i*k)).take k)∧ok s:=by
 subst hc
 exact ho w H enc m _ _ ((hf i hi).trans (List.getElem?_eq_getElem (by omega)))
theorem RelC.single{w:World}{d:D}{c:Value}(h:RelC w [d] [c]):relD (ia w) d c:=h.2 0 d c rfl rfl
theorem RelC.agg{w:World}{ds:List D}{cs:Array Value}(h:RelC w ds cs.toList):rel (gc (ia w)) (.agg (ds.map .d)) (.agg cs):=by
  have:=rel.agg (G:=gc (ia w)) (ds.map V.d) cs.toList (by simpa using h.1) (λi x v h1 h2=>by
    rw[List.getElem?_map]at h1
    cases hq:ds[i]? with
    | none=>rw[hq]at h1;cases h1
    | some d=>rw[hq]at h1;simp at h1;subst h1;exact .d (h.2 i d v hq h2))
  simpa using this
open Go.ChangeShapes Go.WideShapes Go.ChangeAt Go.RowKit Go.Deep
theorem laidOut_ok:laidOutB Tryz.prog=true:=by kernel_rfl
theorem Opn.arg{P:Program}{t:TypeId}{X:Type}{en:X→List D}{ok:X→Prop}(h0:Opn P t en ok)(f:X→D)(hf:∀s,en s=[f s]){W:World}{H:Type}{enc:TypeId×Value→H}{v:Value}{d:DataW H}{p:List MemPlace}
  (h1:v.cells.toList=[v]) (h:DataW.Trod enc P W 0 (λ_=>true) true t v d p):∃s,rel (gc (ia W)) (.d (f s)) v∧ok s:=by
 obtain⟨fuel,hd⟩:=h
 rw[h1]at hd
 obtain⟨s,r,o⟩:=h0 W H enc fuel _ _ hd
 rw[hf s]at r
 exact⟨s,.d r.single,o⟩
theorem Opn.argS{P:Program}{t:TypeId}{X:Type}{en:X→List D}{ok:X→Prop}(h0:Opn P t en ok){W:World}{H:Type}{enc:TypeId×Value→H}{cs:Array Value}{d:DataW H}{p:List MemPlace}
  (h:DataW.Trod enc P W 0 (λ_=>true) true t (.agg cs) d p):∃s,rel (gc (ia W)) (.agg ((en s).map .d)) (.agg cs)∧ok s:=by
 obtain⟨fuel,hd⟩:=h
 obtain⟨s,r,o⟩:=h0 W H enc fuel _ _ hd
 exact⟨s,r.agg,o⟩
theorem glob_ints{P:Program}{W:World}{H:Type}{enc:TypeId×Value→H}{held:Bool}{fuel t e:Nat}{cs:List Value}{ns:List Int}{rest:List (DataW H)}{p:List MemPlace}{k:IntKind}(ht:P.underlying t=some (.slice e))(he:P.underlying e=some (.int k))(hc:P.cellsOf e=1)
  (h:DataW.trod enc P W 0 (λ_=>true) held fuel t cs=some (.slice (ns.map λn=>.lit (.int k n)) rest,p)):∃u,cs=[u]∧relD (ia W) (.list (ns.map λn=>[.int k n])) u:=by
 rcases open_slice ht h with⟨_,hx⟩|⟨a,len,cap,m,n,DD,Pl,rfl,_,hl,hm,hmm,hx,hi⟩
 ·cases hx
 ·simp only[og]at hmm
  subst m
  refine⟨_,rfl,?_⟩
  have hx1:=(DataW.slice.inj (Prod.mk.inj hx).1).1
  have hlen:ns.length=len:=by have:=congrArg List.length hx1;simpa using this
  have hD:∀i,i<len→∀n,ns[i]? = some n→DD i=.lit (.int k n):=by
   intro i hil n hn
   have:=congrArg (λl:List (DataW H)=>l[i]?) hx1
   simp[List.getElem?_map,hn,List.getElem?_range hil]at this
   exact this.symm
  have hcell:∀i n,ns[i]? = some n→W.cell? (a.add i)=some (.int k n):=by
   intro i nn hn
   have hil:i<len:=by rw[←hlen];exact ak hn
   obtain⟨cs',hcs,htr⟩:=hi i (by omega)
   obtain⟨n',rfl,hx2,_⟩:=DataW.trod_int he htr
   have e1:=(Prod.mk.inj hx2).1
   rw[hD i hil nn hn]at e1
   injection e1 with e1
   injection e1 with e1 e2
   subst e2
   rw[hc,zE]at hcs
   obtain⟨_,_,hat⟩:=World.cells?_some hcs
   have:=hat 0 (by omega)
   rw[Go.Deep.add_add,Nat.add_zero]at this
   simpa using this
  rcases zB len with z | z
  ·have:ns=[]:=zA (by omega)
   subst this
   rw[z]
   exact .nil _ _
  ·obtain⟨b,off,spot⟩:=a
   have hspot:spot=none:=by
    obtain⟨n0,hn0⟩:∃n,ns[0]? = some n:=⟨_,List.getElem?_eq_getElem (by omega)⟩
    simpa [Addr.add] using World.cell?_spot (hcell 0 n0 hn0)
   subst hspot
   have key:=relD.list (F:=ia W) (ns.map λn=>[D.int k n]) b off cap 1 (λi _=>.int k (ns.getD i 0)) (by simp;omega) (by simp;omega)
    (λi e' he'=>by
     rw[List.getElem?_map]at he'
     cases hq:ns[i]? with
     | none=>rw[hq]at he';cases he'
     | some s=>rw[hq]at he';simp at he';subst he';rfl)
    (λi j e' d he' hd=>by
     rw[List.getElem?_map]at he'
     cases hq:ns[i]? with
     | none=>rw[hq]at he';cases he'
     | some s =>
      rw[hq]at he';simp at he';subst he'
      have hj:j=0:=by
       cases j with
       | zero=>rfl
       | succ j=>simp at hd
      subst hj
      have:=hcell i s hq
      rw[addr_at]at this
      unfold ia
      simp only[zE,Nat.add_zero]
      rw[this,List.getD_eq_getElem?_getD,hq];rfl)
    (λi j e' d he' hd=>by
     rw[List.getElem?_map]at he'
     cases hq:ns[i]? with
     | none=>rw[hq]at he';cases he'
     | some s =>
      rw[hq]at he';simp at he';subst he'
      have hj:j=0:=by
       cases j with
       | zero=>rfl
       | succ j=>simp at hd
      subst hj
      simp at hd;subst hd
      rw[List.getD_eq_getElem?_getD,hq]
      exact .int k s)
   rw[zG,hlen]at key
   exact key
theorem var_cell{P:Program}{W:World}{n:String}{g:Nat}{u:Value}{cs:Array Value}(hg:P.globalNamed n=some g)(hv:W.var? P n=some cs)(hc:cs.toList=[u]):W.cell? ⟨g,0,none⟩=some u:=by
 have:=World.var?_cell hg hv 0
 rw[this,←Array.getElem?_toList,hc];rfl
theorem glob_tab{P:Program}{W:World}{H:Type}{enc:TypeId×Value→H}{held:Bool}{fuel t e n:Nat}{cs:List Value}{ns:List Int}{p:List MemPlace}{k:IntKind}(ht:P.underlying t=some (.array n e))(he:P.underlying e=some (.int k))(hc:P.cellsOf e=1)(hct:P.cellsOf t=n)(hn:ns.length=n)
  (h:DataW.trod enc P W 0 (λ_=>true) held fuel t cs=some (.agg (ns.map λz=>.lit (.int k z)),p)):cs=ns.map λz=>Value.int k z:=by
 obtain⟨xs,m,_,hx,hl,hxl,hf⟩:=DataW.trod_array ht h
 have hx1:=DataW.agg.inj (Prod.mk.inj hx).1
 apply List.ext_getElem?
 intro i
 rcases zD i n with hi | hi
 ·have q:=hf i hi
  rw[List.getElem?_eq_getElem (by omega)]at q
  obtain⟨z,e1,e2,_⟩:=DataW.trod_int he q
  rw[hc,zE]at e1
  have hx2:=congrArg (λl:List (DataW H)=>l[i]?) hx1
  simp only[List.getElem?_map]at hx2
  rw[List.getElem?_eq_getElem (show i<xs.length by omega),List.getElem?_eq_getElem (show i<ns.length by omega)]at hx2
  simp only[Option.map_some,Option.some.injEq]at hx2
  rw[e2]at hx2
  injection hx2 with hx2
  injection hx2 with _ hx2
  rw[List.getElem?_map,List.getElem?_eq_getElem (show i<ns.length by omega),Option.map_some,hx2]
  have:=congrArg (λl:List Value=>l[0]?) e1
  simpa [List.getElem?_take,List.getElem?_drop] using this
 ·rw[List.getElem?_eq_none (by omega),List.getElem?_eq_none (by simp;omega)]
theorem var_row{P:Program}{W:World}{n:String}{g:Nat}{cs:Array Value}(hg:P.globalNamed n=some g)(hv:W.var? P n=some cs):∃t f,W.heap[g]? = some (.cells cs t f):=by
 simp only[World.var?,hg,Option.bind_some]at hv
 split at hv
 ·rename_i c t f hq
  injection hv with hv
  subst hv
  exact⟨t,f,hq⟩
 ·cases hv
end Go.Proofs.YtjemmjpdmbenkaaGreatDoor
