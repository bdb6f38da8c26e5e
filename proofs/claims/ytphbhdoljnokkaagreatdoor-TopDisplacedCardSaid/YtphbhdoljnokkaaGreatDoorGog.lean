/-
  Go, Gp in one text.
-/
import Derived.Test.YtphbhdoljnokkaaGreatDoorG1
import Derived.ProofKit
import Derived.ChangeArms
import Derived.OpenShut
import Derived.Deep.Slices
namespace Go.Proofs.YtphbhdoljnokkaaGreatDoor
open Go.ChangeShapes Go.WideShapes Go.ChangeAt Go.RowKit Go.Deep
def kz(w:World)(b o:Nat)(u:Value):Prop:=w.cell? ⟨b,o,none⟩=some u
def RelC(w:World)(ds:List D)(cs:List Value):Prop:=ds.length=cs.length∧∀(j:Nat) (d:D) (c:Value),ds[j]? = some d→cs[j]? = some c→relD (kz w) d c
theorem RelC.one{w:World}{d:D}{c:Value}(h:relD (kz w) d c):RelC w [d] [c]:=by
 refine⟨rfl,λj d' c' h1 h2=>?_⟩
 grind
theorem RelC.cut{w:World}{d r:List D}{cs:List Value}(off k:Nat)(h:RelC w d ((cs.drop off).take k))(hk:d.length=k)(h2:RelC w r (cs.drop (off+k))):RelC w (d++r) (cs.drop off):=by
 have hl:=h.1
 have hl2:=h2.1
 simp only[List.length_take,List.length_drop]at hl hl2
 refine⟨by grind,λj x c q1 q2=>?_⟩
 rcases Nat.lt_or_ge j d.length with z | z
 ·rw[List.getElem?_append_left z]at q1
  exact h.2 j x c q1 (by grind)
 ·rw[List.getElem?_append_right z]at q1
  refine h2.2 (j-d.length) x c q1 ?_
  grind
theorem RelC.nil{w:World}{cs:List Value}{n:Nat}(h:cs.length≤n):RelC w [] (cs.drop n):=⟨by simp;omega,λj d c h1 _=>by simp at h1⟩
def Opn(P:Program)(t:TypeId){X:Type}(en:X→List D)(ok:X→Prop):Prop :=
 ∀(w:World) (H:Type) (enc:TypeId×Value→H) (fuel:Nat) (cs:List Value) (x:DataW H×List MemPlace),DataW.trod enc P w 0 (λ_=>true) true fuel t cs=some x→∃s:X,RelC w (en s) cs∧ok s
def lD(k:IntKind)(n:Int):Prop:=(Lit.int k n).wf=true
def inBool(_:Bool):Prop:=True
def inStr(s:List UInt8):Prop:=s.length≤maxLen
def inList{X:Type}(ok:X→Prop)(l:List X):Prop:=l.length≤maxLen∧∀x∈l,ok x
variable {P : Program} {t : TypeId}
theorem Opn.int{k:IntKind}(ht:P.underlying t=some (.int k)):Opn P t (eInt k) (lD k):=by
 intro w H enc fuel cs x h
 obtain⟨n,rfl,_,h2⟩:=DataW.trod_int ht h
 exact⟨n,.one (.int k n),h2⟩
theorem Opn.bool(ht:P.underlying t=some .bool):Opn P t eBool inBool:=by
 intro w H enc fuel cs x h
 obtain⟨b,rfl,_⟩:=DataW.trod_bool ht h
 exact⟨b,.one (.bool b),trivial⟩
theorem Opn.str(ht:P.underlying t=some .string):Opn P t eStr inStr:=by
 intro w H enc fuel cs x h
 obtain⟨s,rfl,_,h2⟩:=DataW.trod_string ht h
 refine⟨s.data.toList,.one ?_,by simp_all[inStr]⟩
 have:=relD.str (F:=kz w) s.data.toList
 omega
theorem addr_at{b off n:Nat}:(⟨b,off,none⟩:Addr).add n=⟨b,off+n,none⟩:=by
 simp_all[Addr.add]
theorem each_list{X:Type}{n:Nat}{Q:Nat→X→Prop}(h:∀i,i<n→∃m,Q i m):∃l:List X,l.length=n∧∀i m,l[i]? = some m→Q i m:=by
 induction n with
 | zero=>simp_all
 | succ n ih =>
  obtain⟨l,h1,h2⟩:=ih (λi hi=>h i (by omega))
  obtain⟨m,hm⟩:=h n (by omega)
  refine⟨l++[m],by simp[h1],λi x hi=>?_⟩
  grind
theorem Opn.slice{e:TypeId}{X:Type}{en:X→List D}{ok:X→Prop}(ht:P.underlying t=some (.slice e))(h0:Opn P e en ok)(hz:∀x,(en x).length=P.cellsOf e)(hp:0<P.cellsOf e) :
  Opn P t (eList en) (inList ok):=by
 intro w H enc fuel cs x h
 rcases open_slice ht h with⟨rfl,_⟩|⟨a,len,cap,m,n,DD,Pl,rfl,_,hl,hm,hmm,_,hi⟩
 ·exact⟨[],.one (.nil _ _),by simp[inList]⟩
 ·simp only[qX]at hmm
  subst m
  have hQ:∀i,i<len→∃s:X,ok s∧∃cs',w.cells? 0 (a.add (i*P.cellsOf e)) (P.cellsOf e)=some cs'∧RelC w (en s) cs':=by
   intro i hil
   obtain⟨cs',hc,ht'⟩:=hi i (by omega)
   obtain⟨s,r,o⟩:=h0 w H enc n cs' _ ht'
   grind
  obtain⟨l,hll,hlq⟩:=each_list hQ
  refine⟨l,.one ?_,by omega,λs hs=>?_⟩
  ·rcases Nat.eq_zero_or_pos len with z | z
   ·have:l=[]:=List.eq_nil_of_length_eq_zero (by omega)
    subst this
    rw[z]
    exact .nil _ _
   ·obtain⟨b,off,spot⟩:=a
    have hcell:∀i s,l[i]? = some s→∀j d,(en s)[j]? = some d→∃u,w.cell? ((⟨b,off,spot⟩:Addr).add (i*P.cellsOf e+j))=some u∧relD (kz w) d u:=by
     intro i s his j d hd
     obtain⟨_,cs',hc,hr⟩:=hlq i s his
     obtain⟨_,_,hat⟩:=World.cells?_some hc
     have hj:j<P.cellsOf e:=by grind
     have:=hat j hj
     rw[Go.Deep.add_add]at this
     have hjc:j<cs'.length:=by omega
     refine⟨cs'[j],?_,hr.2 j d _ hd (List.getElem?_eq_getElem hjc)⟩
     simp_all
    have hspot:spot=none:=by
     obtain⟨s0,hs0⟩:∃s,l[0]? = some s:=⟨_,List.getElem?_eq_getElem (by omega)⟩
     obtain⟨d0,hd0⟩:∃d,(en s0)[0]? = some d:=⟨_,List.getElem?_eq_getElem (by simp_all)⟩
     obtain⟨u,hu,_⟩:=hcell 0 s0 hs0 0 d0 hd0
     simpa [Addr.add] using World.cell?_spot hu
    subst hspot
    have key:=relD.list (F:=kz w) (l.map en) b off cap (P.cellsOf e) (λi j=>(w.cell? ⟨b,off+i*P.cellsOf e+j,none⟩).getD Go.undef) (by simp;omega) (by simp;omega)
     (λi e' he=>by
      grind)
     (λi j e' d he hd=>by
      grind[addr_at,kz])
     (λi j e' d he hd=>by
      grind[addr_at])
    simp_all
  ·obtain⟨i,hi,rfl⟩:=List.mem_iff_getElem.1 hs
   exact (hlq i _ (List.getElem?_eq_getElem hi)).1
theorem Opn.field{H:Type}{enc:TypeId×Value→H}{w:World}{fs:Array Field}{n:Nat}{cs:List Value}{xs:List (DataW H×List MemPlace)}(hf:∀(i:Nat) (f:Field),fs[i]? = some f→DataW.trod enc P w 0 (λ_=>true) true n f.type ((cs.drop f.offset).take (P.cellsOf f.type))=xs[i]?)
  (i:Nat) (t off k:Nat) (h:fs[i]?.map (λf=>(f.type,f.offset))=some (t,off)) (hc:P.cellsOf t=k) (hi:i<xs.length) {X:Type} {en:X→List D} {ok:X→Prop} (ho:Opn P t en ok):∃s:X,RelC w (en s) ((cs.drop off).take k)∧ok s:=by
 obtain⟨f,h1,h2⟩:=Option.map_eq_some_iff.1 h
 injection h2 with h2 h3
 subst h2 h3 hc
 exact ho w H enc n _ _ ((hf i f h1).trans (List.getElem?_eq_getElem hi))
theorem Opn.elem{H:Type}{enc:TypeId×Value→H}{w:World}{e n m:Nat}{cs:List Value}{xs:List (DataW H×List MemPlace)}(hf:∀(i:Nat),i<n→DataW.trod enc P w 0 (λ_=>true) true m e ((cs.drop (i*P.cellsOf e)).take (P.cellsOf e))=xs[i]?)
  (i k:Nat) (hc:P.cellsOf e=k) (hi:i<n) (hx:xs.length=n) {X:Type} {en:X→List D} {ok:X→Prop} (ho:Opn P e en ok):∃s:X,RelC w (en s) ((cs.drop (i*k)).take k)∧ok s:=by
 subst hc
 exact ho w H enc m _ _ ((hf i hi).trans (List.getElem?_eq_getElem (by omega)))
theorem RelC.agg{w:World}{ds:List D}{cs:Array Value}(h:RelC w ds cs.toList):rel (iz (kz w)) (.agg (ds.map .d)) (.agg cs):=by
  have:=rel.agg (G:=iz (kz w)) (ds.map V.d) cs.toList (by simpa using h.1) (λi x v h1 h2=>by
    rw[List.getElem?_map]at h1
    cases hq:ds[i]? with
    | none=>simp_all
    | some d=>rw[hq]at h1;simp at h1;subst h1;exact .d (h.2 i d v hq h2))
  omega
open Go.ChangeShapes Go.WideShapes Go.ChangeAt Go.RowKit Go.Deep
theorem laidOut_ok:laidOutB Tryz.prog=true:=by kernel_rfl
theorem Opn.argS{P:Program}{t:TypeId}{X:Type}{en:X→List D}{ok:X→Prop}(h0:Opn P t en ok){W:World}{H:Type}{enc:TypeId×Value→H}{cs:Array Value}{d:DataW H}{p:List MemPlace}
  (h:DataW.Trod enc P W 0 (λ_=>true) true t (.agg cs) d p):∃s,rel (iz (kz W)) (.agg ((en s).map .d)) (.agg cs)∧ok s:=by
 obtain⟨fuel,hd⟩:=h
 obtain⟨s,r,o⟩:=h0 W H enc fuel _ _ hd
 exact⟨s,r.agg,o⟩
theorem glob_ints{P:Program}{W:World}{H:Type}{enc:TypeId×Value→H}{held:Bool}{fuel t e:Nat}{cs:List Value}{ns:List Int}{rest:List (DataW H)}{p:List MemPlace}{k:IntKind}(ht:P.underlying t=some (.slice e))(he:P.underlying e=some (.int k))(hc:P.cellsOf e=1)
  (h:DataW.trod enc P W 0 (λ_=>true) held fuel t cs=some (.slice (ns.map λn=>.lit (.int k n)) rest,p)):∃u,cs=[u]∧relD (kz W) (.list (ns.map λn=>[.int k n])) u:=by
 rcases open_slice ht h with⟨_,hx⟩|⟨a,len,cap,m,n,DD,Pl,rfl,_,hl,hm,hmm,hx,hi⟩
 ·cases hx
 ·simp only[qX]at hmm
  subst m
  refine⟨_,rfl,?_⟩
  have hx1:=(DataW.slice.inj (Prod.mk.inj hx).1).1
  have hlen:ns.length=len:=by have:=congrArg List.length hx1;grind
  have hD:∀i,i<len→∀n,ns[i]? = some n→DD i=.lit (.int k n):=by
   intro i hil n hn
   have:=congrArg (λl:List (DataW H)=>l[i]?) hx1
   grind
  have hcell:∀i n,ns[i]? = some n→W.cell? (a.add i)=some (.int k n):=by
   intro i nn hn
   have hil:i<len:=by grind
   obtain⟨cs',hcs,htr⟩:=hi i (by omega)
   obtain⟨n',rfl,hx2,_⟩:=DataW.trod_int he htr
   have e1:=(Prod.mk.inj hx2).1
   rw[hD i hil nn hn]at e1
   injection e1 with e1
   injection e1 with e1 e2
   subst e2
   rw[hc,Nat.mul_one]at hcs
   obtain⟨_,_,hat⟩:=World.cells?_some hcs
   simp_all[Go.Deep.add_add]
  rcases Nat.eq_zero_or_pos len with z | z
  ·have:ns=[]:=List.eq_nil_of_length_eq_zero (by omega)
   subst this
   rw[z]
   exact .nil _ _
  ·obtain⟨b,off,spot⟩:=a
   have hspot:spot=none:=by
    obtain⟨n0,hn0⟩:∃n,ns[0]? = some n:=⟨_,List.getElem?_eq_getElem (by omega)⟩
    simpa [Addr.add] using World.cell?_spot (hcell 0 n0 hn0)
   subst hspot
   have key:=relD.list (F:=kz W) (ns.map λn=>[D.int k n]) b off cap 1 (λi _=>.int k (ns.getD i 0)) (by simp;omega) (by simp;omega)
    (λi e' he'=>by
     grind)
    (λi j e' d he' hd=>by
     rw[List.getElem?_map]at he'
     cases hq:ns[i]? with
     | none=>simp_all
     | some s =>
      rw[hq]at he';simp at he';subst he'
      have hj:j=0:=by
       grind
      simp_all[addr_at,kz])
    (λi j e' d he' hd=>by
     rw[List.getElem?_map]at he'
     cases hq:ns[i]? with
     | none=>simp_all
     | some s =>
      rw[hq]at he';simp at he';subst he'
      have hj:j=0:=by
       grind
      subst hj
      simp at hd;subst hd
      rw[List.getD_eq_getElem?_getD,hq]
      exact .int k s)
   simp_all
theorem var_cell{P:Program}{W:World}{n:String}{g:Nat}{u:Value}{cs:Array Value}(hg:P.globalNamed n=some g)(hv:W.var? P n=some cs)(hc:cs.toList=[u]):W.cell? ⟨g,0,none⟩=some u:=by
 have:=World.var?_cell hg hv 0
 rw[this,←Array.getElem?_toList,hc];rfl
theorem glob_arr{P:Program}{W:World}{n:String}{g:Nat}{cs:Array Value}{ns:List Int}{k:IntKind}(hg:P.globalNamed n=some g)(hv:W.var? P n=some cs)(hc:cs.toList=ns.map λz=>Value.int k z):∃u:Nat→Value,∀(j:Nat) (x:D),(ns.map λz=>D.int k z)[j]? = some x→kz W g j (u j)∧relD (kz W) x (u j):=by
 refine⟨λj=>.int k (ns.getD j 0),λj x hx=>?_⟩
 rw[List.getElem?_map]at hx
 cases hq:ns[j]? with
 | none=>simp_all
 | some s =>
  rw[hq]at hx;simp at hx;subst hx
  have h:=World.var?_cell hg hv j
  rw[←Array.getElem?_toList,hc,List.getElem?_map,hq]at h
  have hd:ns.getD j 0=s:=by simp_all
  simp only[hd]
  exact⟨h,.int k s⟩
theorem glob_tab{P:Program}{W:World}{H:Type}{enc:TypeId×Value→H}{held:Bool}{fuel t e n:Nat}{cs:List Value}{ns:List Int}{p:List MemPlace}{k:IntKind}(ht:P.underlying t=some (.array n e))(he:P.underlying e=some (.int k))(hc:P.cellsOf e=1)(hct:P.cellsOf t=n)(hn:ns.length=n)
  (h:DataW.trod enc P W 0 (λ_=>true) held fuel t cs=some (.agg (ns.map λz=>.lit (.int k z)),p)):cs=ns.map λz=>Value.int k z:=by
 obtain⟨xs,m,_,hx,hl,hxl,hf⟩:=DataW.trod_array ht h
 have hx1:=DataW.agg.inj (Prod.mk.inj hx).1
 apply List.ext_getElem?
 intro i
 rcases Nat.lt_or_ge i n with hi | hi
 ·have q:=hf i hi
  rw[List.getElem?_eq_getElem (by omega)]at q
  obtain⟨z,e1,e2,_⟩:=DataW.trod_int he q
  rw[hc,Nat.mul_one]at e1
  have hx2:=congrArg (λl:List (DataW H)=>l[i]?) hx1
  simp only[List.getElem?_map]at hx2
  rw[List.getElem?_eq_getElem (show i<xs.length by omega),List.getElem?_eq_getElem (show i<ns.length by omega)]at hx2
  simp only[Option.map_some,Option.some.injEq]at hx2
  rw[e2]at hx2
  injection hx2 with hx2
  injection hx2 with _ hx2
  rw[List.getElem?_map,List.getElem?_eq_getElem (show i<ns.length by omega),Option.map_some,hx2]
  have:=congrArg (λl:List Value=>l[0]?) e1
  grind
 simp_all
theorem var_row{P:Program}{W:World}{n:String}{g:Nat}{cs:Array Value}(hg:P.globalNamed n=some g)(hv:W.var? P n=some cs):∃t f,W.heap[g]? = some (.cells cs t f):=by
 grind[World.var?]
end Go.Proofs.YtphbhdoljnokkaaGreatDoor
