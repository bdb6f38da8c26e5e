/-
  Se, Sf, Sg in one text.
-/
import Derived.Test.YtplhejpjnfjopaaGreatDoorSx2
open List renaming eq_nil_of_length_eq_zero → zA,length_append → zB,length_cons → zG
open Nat renaming le_refl → zD,lt_or_ge → zE
namespace Go.Proofs.YtplhejpjnfjopaaGreatDoor
open Go.RowKit
theorem iZ{F:Nat→Nat→Value→Prop}{es:List (List D)}{v:Value}(h:relD F (.list es) v):∃A c,v=.slice A es.length c:=by
 cases h with
 | nil A c=>exact⟨A,c,rfl⟩
 | list _ b off c sz u hne hcap hsz hF hr=>exact⟨_,c,rfl⟩
theorem az{α:Type}{l:List α}{i:Nat}{x:α}(h:l[i]? = some x):i<l.length:=by
 rcases zE i l.length with q | q
 ·exact q
 ·rw[List.getElem?_eq_none q]at h;cases h
theorem indexAddr_list{P:Program}{G:Cx}{t e:TypeId}{sz:Nat}{es:List (List D)}{n:Int}{k:IntKind}{c:List D}{v:Value}(hv:relD G.F (.list es) v)(hu:P.underlying t=some (.slice e))(hs:sizeT P e=some sz)(hn:¬n<0)(hc:es[n.toNat]? = some c)(hl:c.length=sz)(w:World) :
  ∃u,(Instr.indexAt t v (.int k n)).run P w=.ok u w∧rel G (.iptr c 0) u:=by
 cases hv with
 | nil A c'=>simp at hc
 | list _ b off c' sz' u hne hcap hsz hF hr =>
  have hlt:=az hc
  have e1:=hsz _ _ hc
  have e2:sz'=sz:=by omega
  subst e2
  refine⟨.pointer (some ⟨b,off+n.toNat*sz'+0,none⟩),?_,.iptr c 0 b (off+n.toNat*sz') (λj=>u n.toNat j) (λj x hx=>hF _ j c x hc hx) (λj x hx=>hr _ j c x hc hx)⟩
  have h1:(0:Int)≤n:=by omega
  have h2:n<(es.length:Int):=by omega
  simp[Instr.indexAt,asIntOf,run_underlying hu,h1,h2,bJ hs,Addr.add_lit]
theorem indexAddrV_ok{P:Program}{G:Cx}{t:TypeId}{x i y:V}{v vi:Value}(r:rel G x v)(ri:rel G i vi)(h:io P t x i=some y)(w:World):∃u,(Instr.indexAt t v vi).run P w=.ok u w∧rel G y u:=by
 unfold io at h
 split at h
 ·rename_i k n
  split at h
  ·cases h
  ·rename_i hn
   have hvi:vi=.int k n:=by cases ri with | d q=>cases q;rfl
   subst hvi
   have hn0:(0:Int)≤n:=by omega
   split at h
   ·rename_i e hu
    cases hs:sizeT P e with
    | none=>rw[hs]at h;cases h
    | some sz =>
     rw[hs]at h
     simp only at h
     split at h
     ·rename_i k' off len cap
      split at h
      ·rename_i hlt
       injection h with h;subst h
       cases r with
       | sl _ _ _ _ b q =>
        have h2:n<(len:Int):=by omega
        exact⟨_,by simp[Instr.indexAt,asIntOf,run_underlying hu,hn0,h2,bJ hs,Addr.add_lit],.ptr _ _ b q⟩
      ·cases h
     ·split at h
      ·rename_i es hes
       split at h
       ·rename_i c hc
        split at h
        ·rename_i hl
         injection h with h;subst h
         exact indexAddr_list (ko r hes) hu hs hn hc hl w
        ·cases h
       ·cases h
      ·cases h
   ·rename_i len e hu
    cases hs:sizeT P e with
    | none=>rw[hs]at h;cases h
    | some sz =>
     rw[hs]at h
     simp only at h
     split at h
     ·rename_i hlt
      have h2:n<(len:Int):=by omega
      cases r with
      | ptr k' off b q =>
       simp only at h;injection h with h;subst h
       exact⟨_,by simp[Instr.indexAt,asIntOf,run_underlying hu,Instr.sureAddr,hn0,h2,bJ hs,Addr.add_lit],.ptr _ _ b q⟩
      | iptr cs off b o u hF hr =>
       simp only at h;injection h with h;subst h
       exact⟨.pointer (some ⟨b,o+(off+n.toNat*sz),none⟩),by simp[Instr.indexAt,asIntOf,run_underlying hu,Instr.sureAddr,hn0,h2,bJ hs,Addr.add_lit,Nat.add_assoc],.iptr cs (off+n.toNat*sz) b o u hF hr⟩
      | d q =>
       cases q with
       | other v h1 =>
        have hg:globA (.d (.other v)) (n.toNat*sz)=some y:=h
        unfold globA at hg
        split at hg
        ·rename_i b off he
         injection he with he;injection he with he;subst he
         injection hg with hg;subst hg
         exact⟨_,by simp[Instr.indexAt,asIntOf,run_underlying hu,Instr.sureAddr,hn0,h2,bJ hs,Addr.add_lit],.d (.other _ rfl)⟩
        ·cases hg
       | _=>simp[globA]at h
      | _=>simp[globA]at h
     ·cases h
   ·cases h
 ·cases h
def indexV(P:Program)(t:TypeId)(x i:V):Option V :=
 match i with
 | .d (.int _ n) =>
  if n<0 then none else
  match x with
  | .agg cs=>match P.underlying t with
   | some (.array len e)=>match sizeT P e with
    | some sz=>if n.toNat<len then partV P e cs (n.toNat*sz)else none
    | none=>none
   | _=>none
  | .d (.str s)=>match P.underlying t with
   | some .string=>match s[n.toNat]? with
    | some b=>some (.d (.int .u8 b.toNat))
    | none=>none
   | _=>none
  | _=>none
 | _=>none
theorem indexV_ok{P:Program}{G:Cx}{t:TypeId}{x i y:V}{v vi:Value}(r:rel G x v)(ri:rel G i vi)(h:indexV P t x i=some y)(w:World):∃u,(Instr.index t v vi).run P w=.ok u w∧rel G y u:=by
 unfold indexV at h
 split at h
 ·rename_i k n
  split at h
  ·cases h
  ·rename_i hn
   have hvi:vi=.int k n:=by cases ri with | d q=>cases q;rfl
   subst hvi
   have hn0:(0:Int)≤n:=by omega
   split at h
   ·rename_i cs
    split at h
    ·rename_i len e hu
     cases hs:sizeT P e with
     | none=>rw[hs]at h;cases h
     | some sz =>
      rw[hs]at h
      simp only at h
      split at h
      ·rename_i hlt
       have h2:n<(len:Int):=by omega
       cases r with
       | agg _ vs hl hr =>
        obtain⟨u,q1,q2⟩:=partV_ok h ⟨hl,hr⟩ w
        exact⟨u,by simp[Instr.index,asIntOf,run_underlying hu,hn0,h2,bJ hs,q1],q2⟩
      ·cases h
    ·cases h
   ·rename_i s
    split at h
    ·rename_i hu
     split at h
     ·rename_i b hb
      injection h with h;subst h
      cases r with
      | d q =>
       cases q
       have hb':(⟨s.toArray⟩:ByteArray)[n.toNat]? = some b:=by
        have hlt:=az hb
        have:n.toNat<(⟨s.toArray⟩:ByteArray).size:=by simpa [ByteArray.size] using hlt
        rw[getElem?_pos (⟨s.toArray⟩:ByteArray) n.toNat this]
        rw[List.getElem?_eq_getElem hlt]at hb
        injection hb with hb
        rw[←hb]
        rfl
       exact⟨_,by simp[Instr.index,asIntOf,run_underlying hu,hn0,hb'],.d (.int _ _)⟩
     ·cases h
    ·cases h
   ·cases h
 ·cases h
def lenV(P:Program)(t:TypeId)(x:V):Option V :=
 match P.underlying t with
 | some .string=>match x with | .d (.str s)=>some (.d (.int .i64 s.length)) | _=>none
 | some (.slice _)=>match x with
  | .sl _ _ len _=>some (.d (.int .i64 len))
  | _=>match x.list? with | some es=>some (.d (.int .i64 es.length)) | none=>none
 | some (.array n _)=>some (.d (.int .i64 n))
 | _=>none
theorem lenV_ok{P:Program}{G:Cx}{t ty:TypeId}{x y:V}{v:Value}(r:rel G x v)(h:lenV P t x=some y)(w:World):∃u,(Builtin.len_ #[t] ty #[v]).run P w=.ok u w∧rel G y u:=by
 unfold lenV at h
 split at h
 ·rename_i hu
  split at h
  ·rename_i s
   injection h with h;subst h
   cases r with
   | d q =>
    cases q
    have hz:(⟨s.toArray⟩:ByteArray).size=s.length:=rfl
    exact⟨_,by simp[Builtin.len_,run_underlying hu,goInt,hz],.d (.int _ _)⟩
  ·cases h
 ·rename_i e hu
  split at h
  ·injection h with h;subst h
   cases r with
   | sl _ _ _ _ b q=>exact⟨_,by simp[Builtin.len_,run_underlying hu,goInt],.d (.int _ _)⟩
  ·split at h
   ·rename_i es hes
    injection h with h;subst h
    obtain⟨A,c,rfl⟩:=iZ (ko r hes)
    exact⟨_,by simp[Builtin.len_,run_underlying hu,goInt],.d (.int _ _)⟩
   ·cases h
 ·rename_i n e hu
  injection h with h;subst h
  exact⟨_,by simp[Builtin.len_,run_underlying hu,goInt],.d (.int _ _)⟩
 ·cases h
def convV(P:Program)(dst:TypeId)(x:V):Option V :=
 match x with
 | .d (.int _ n)=>match P.underlying dst with | some (.int k)=>some (.d (.int k (k.wrap n))) | _=>none
 | .d (.str s)=>match P.underlying dst with | some .string=>some (.d (.str s)) | _=>none
 | _=>none
theorem convV_ok{P:Program}{G:Cx}{src dst:TypeId}{x y:V}{v:Value}(r:rel G x v)(hsrc:(P.underlying src).isSome=true)(h:convV P dst x=some y)(w:World):∃u,(convert src dst v).run P w=.ok u w∧rel G y u:=by
 obtain⟨ds,hs⟩:=Option.isSome_iff_exists.1 hsrc
 unfold convV at h
 split at h
 ·rename_i k0 n
  split at h
  ·rename_i k hu
   injection h with h;subst h
   cases r with
   | d q =>
    cases q
    exact⟨_,by simp[convert,run_underlying hs,run_underlying hu,Conv.intToInt],.d (.int _ _)⟩
  ·cases h
 ·rename_i s
  split at h
  ·rename_i hu
   injection h with h;subst h
   cases r with
   | d q =>
    cases q
    exact⟨_,by simp[convert,run_underlying hs,run_underlying hu],.d (.str _)⟩
  ·cases h
 ·cases h
def unV(op:UnOp)(x:V):Option V :=
 match op,x with
 | .neg,.d (.int k n)=>some (.d (.int k (k.wrap (0-n))))
 | .not,.d (.bool b)=>some (.d (.bool (!b)))
 | _,_=>none
theorem unV_ok{P:Program}{G:Cx}{op:UnOp}{x y:V}{v:Value}(r:rel G x v)(h:unV op x=some y)(w:World):∃u,(Op.unary op v).run P w=.ok u w∧rel G y u:=by
 unfold unV at h
 split at h
 ·injection h with h;subst h
  cases r with
  | d q=>cases q;exact⟨_,by simp only[Op.unary,Op.intArith,Sem.run_pure],.d (.int _ _)⟩
 ·injection h with h;subst h
  cases r with
  | d q=>cases q;exact⟨_,by simp only[Op.unary,Sem.run_pure],.d (.bool _)⟩
 ·cases h
def gU(cs:List V)(off:Nat)(xs:List V):List V:=cs.take off++xs++cs.drop (off+xs.length)
def fillV(place:Nat→Option (Nat×Nat))(cells:List V):List (Nat×V)→Option (List V)
 | []=>some cells
 | (i,x)::rest =>
  match place i,x.cells? with
  | some (off,size),some cs=>if cs.length=size∧off+cs.length≤cells.length then fillV place (gU cells off cs) rest else none
  | _,_=>none
theorem fold_set(vs:List Value)(xs:List Value)(off:Nat)(h:off+xs.length≤vs.length) :
  (xs.zipIdx.foldl (λ(cs:Array Value) (p:Value×Nat)=>cs.setIfInBounds (off+p.2) p.1) ⟨vs⟩)=(⟨vs.take off++xs++vs.drop (off+xs.length)⟩:Array Value):=by
 have key:∀(xs:List Value) (k:Nat) (vs:List Value),off+k+xs.length≤vs.length→((xs.zipIdx k).foldl (λ(cs:Array Value) (p:Value×Nat)=>cs.setIfInBounds (off+p.2) p.1) ⟨vs⟩)=(⟨vs.take (off+k)++xs++vs.drop (off+k+xs.length)⟩:Array Value):=by
  intro xs
  induction xs with
  | nil=>intro k vs _;simp
  | cons x xs ih =>
   intro k vs hl
   simp only[List.zipIdx_cons,List.foldl_cons]
   simp only[zG]at hl
   rw[show (⟨vs⟩:Array Value).setIfInBounds (off+k) x=⟨vs.set (off+k) x⟩ by simp]
   rw[ih (k+1) (vs.set (off+k) x) (by simp;omega)]
   congr 1
   rw[show off+(k+1)=(off+k)+1 by omega]
   generalize off+k=p at *
   have hp:p<vs.length:=by omega
   have e1:(vs.set p x).take (p+1)=vs.take p++[x]:=by
    rw[List.take_succ_eq_append_getElem (by simpa using hp),List.take_set_of_le (by omega)]
    simp
   have e2:(vs.set p x).drop (p+1+xs.length)=vs.drop (p+(x::xs).length):=by
    rw[List.drop_set_of_lt (by omega)]
    simp only[zG]
    congr 1
    omega
   rw[e1,e2]
   simp
 have:=key xs 0 vs (by omega)
 simpa using this
theorem fillV_ok{G:Cx}{place:Nat→Option (Nat×Nat)}:∀(parts:List (Nat×V)) (us:List (Nat×Value)) (cells:List V) (vs:List Value) (out:List V),fillV place cells parts=some out→rels G cells vs →
  parts.length=us.length→(∀(i:Nat) (p:Nat×V) (q:Nat×Value),parts[i]? = some p→us[i]? = some q→p.1=q.1∧rel G p.2 q.2)→∃ws,Instr.fill place ⟨vs⟩ us=some ⟨ws⟩∧rels G out ws
 | [],us,cells,vs,out,h,r,hl,_=>by
  have:us=[]:=zA hl.symm
  subst this
  simp only[fillV]at h;injection h with h;subst h
  exact⟨vs,rfl,r⟩
 | (i,x)::rest,us,cells,vs,out,h,r,hl,hp=>by
  cases us with
  | nil=>simp at hl
  | cons q us =>
   obtain⟨j,v⟩:=q
   obtain⟨rfl,hx⟩:=hp 0 (i,x) (j,v) rfl rfl
   simp only at hx
   unfold fillV at h
   split at h
   ·rename_i off size cs hpl hcs
    split at h
    ·rename_i hc
     have hr:=eJ hx hcs
     have hsz:v.cells.size=cs.length:=by rw[hr.1];simp
     have hr':rels G (gU cells off cs) (vs.take off++v.cells.toList++vs.drop (off+v.cells.size)):=by
      refine⟨by simp[gU,r.1,hsz],λm y u h1 h2=>?_⟩
      unfold gU at h1
      have hlen:=r.1
      have hoff:(cells.take off).length=(vs.take off).length:=by simp[hlen]
      rcases zE m (cells.take off++cs).length with q | q
      ·rw[List.getElem?_append_left q]at h1
       rw[List.getElem?_append_left (by simp only[zB]at q ⊢;simp only[Array.length_toList];omega)]at h2
       rcases zE m (cells.take off).length with q2 | q2
       ·rw[List.getElem?_append_left q2]at h1
        rw[List.getElem?_append_left (hoff▸q2)]at h2
        rw[List.getElem?_take]at h1 h2
        split at h1
        ·rename_i hm;rw[if_pos hm]at h2;exact r.2 m y u h1 h2
        ·cases h1
       ·rw[List.getElem?_append_right q2]at h1
        rw[List.getElem?_append_right (hoff▸q2),←hoff]at h2
        exact hr.2 _ y u h1 h2
      ·rw[List.getElem?_append_right q]at h1
       rw[List.getElem?_append_right (by simp only[zB]at q ⊢;simp only[Array.length_toList];omega)]at h2
       rw[List.getElem?_drop]at h1 h2
       refine r.2 _ y u h1 ?_
       rw[←h2]
       congr 1
       simp only[zB,Array.length_toList]
       omega
     obtain⟨ws,w1,w2⟩:=fillV_ok rest us _ _ out h hr' (by simpa using hl) (λi p q h1 h2=>hp (i+1) p q (by simpa using h1) (by simpa using h2))
     refine⟨ws,?_,w2⟩
     have hno:¬(v.cells.size≠size||decide (off+v.cells.size>(⟨vs⟩:Array Value).size))=true:=by
      simp only[List.size_toArray,Bool.or_eq_true,decide_eq_true_eq]
      have:=r.1
      rintro (q | q)
      ·simp at q;omega
      ·omega
     simp only[Instr.fill,hpl]
     rw[if_neg hno]
     have hz:v.cells.zipIdx.foldl (λcs x=>cs.setIfInBounds (off+x.2) x.1) (⟨vs⟩:Array Value)=⟨vs.take off++v.cells.toList++vs.drop (off+v.cells.size)⟩:=by
      have:=fold_set vs v.cells.toList off (by simp only[Array.length_toList];have:=r.1;omega)
      rw[←Array.foldl_toList,Array.toList_zipIdx]
      simpa using this
     simp only[hz]
     exact w1
    ·cases h
   ·cases h
def bnd(d:Nat):Option V→Option Nat
 | none=>some d
 | some (.d (.int _ n))=>if n<0 then none else some n.toNat
 | _=>none
theorem bnd_some(d d':Nat)(x:V):bnd d (some x)=bnd d' (some x):=by
 cases x<;>first | rfl | (rename_i q;cases q<;>rfl)
def relO(G:Cx):Option V→Option Value→Prop
 | none,none=>True
 | some x,some v=>rel G x v
 | _,_=>False
theorem eB{P:Program}{G:Cx}{x:V}{v:Value}{d n y:Nat}(r:rel G x v)(h:bnd d (some x)=some n)(hy:n≤y)(code:BoundsCode)(w:World):(Instr.sliceBound v y code).run P w=.ok n w:=by
 unfold bnd at h
 split at h
 ·cases ‹_=none›
 ·rename_i k i hx
  injection hx with hx;subst hx
  split at h
  ·cases h
  ·rename_i hn
   injection h with h
   cases r with
   | d q =>
    cases q
    have h1:(0:Int)≤i:=by omega
    have h2:i≤(y:Int):=by omega
    simp[Instr.sliceBound,asIntOf,h1,h2,h]
 ·cases h
theorem ii{P:Program}{G:Cx}{lo hi mx:Option V}{vl vh vm:Option Value}{l h m len cap:Nat}(rl:relO G lo vl)(rh:relO G hi vh)(rm:relO G mx vm)
  (hm:bnd cap mx=some m) (hh:bnd len hi=some h) (hl:bnd 0 lo=some l) (h1:m≤cap) (h2:h≤m) (h3:l≤h) (hmx:mx.isSome=true→hi.isSome=true) (isS:Bool) (w:World) :
  (Instr.sliceBounds isS len cap vl vh vm).run P w=.ok (l,h,m) w:=by
 cases mx with
 | none =>
  cases vm with
  | some _=>exact rm.elim
  | none =>
   have hm':cap=m:=by simpa [bnd] using hm
   subst hm'
   cases hi with
   | none =>
    cases vh with
    | some _=>exact rh.elim
    | none =>
     have hh':len=h:=by simpa [bnd] using hh
     subst hh'
     cases lo with
     | none =>
      cases vl with
      | some _=>exact rl.elim
      | none =>
       have hl':0=l:=by simpa [bnd] using hl
       subst hl'
       simp[Instr.sliceBounds]
     | some x =>
      cases vl with
      | none=>exact rl.elim
      | some v=>simp[Instr.sliceBounds,eB rl hl h3]
   | some y =>
    cases vh with
    | none=>exact rh.elim
    | some vy =>
     cases lo with
     | none =>
      cases vl with
      | some _=>exact rl.elim
      | none =>
       have hl':0=l:=by simpa [bnd] using hl
       subst hl'
       simp[Instr.sliceBounds,eB rh hh h2]
     | some x =>
      cases vl with
      | none=>exact rl.elim
      | some v=>simp[Instr.sliceBounds,eB rl hl h3,eB rh hh h2]
 | some z =>
  cases vm with
  | none=>exact rm.elim
  | some vz =>
   cases hi with
   | none=>simp at hmx
   | some y =>
    cases vh with
    | none=>exact rh.elim
    | some vy =>
     cases lo with
     | none =>
      cases vl with
      | some _=>exact rl.elim
      | none =>
       have hl':0=l:=by simpa [bnd] using hl
       subst hl'
       simp[Instr.sliceBounds,eB rm hm h1,eB rh hh h2]
     | some x =>
      cases vl with
      | none=>exact rl.elim
      | some v=>simp[Instr.sliceBounds,eB rm hm h1,eB rl hl h3,eB rh hh h2]
def sliceV(P:Program)(t:TypeId)(x:V)(lo hi mx:Option V):Option V :=
 match P.underlying t with
 | some .string=>match x with
  | .d (.str s)=>if mx.isSome then none else match bnd 0 lo,bnd s.length hi with
   | some l,some h=>if l≤h∧h≤s.length then some (.d (.str ((s.drop l).take (h-l))))else none
   | _,_=>none
  | _=>none
 | some (.slice e)=>match sizeT P e with
  | none=>none
  | some sz=>match x with
   | .sl k off len cap=>match bnd 0 lo,bnd len hi,bnd cap mx with
    | some l,some h,some m=>if l≤h∧h≤m∧m≤cap∧(mx.isSome=true→hi.isSome=true)then some (.sl k (if m=l then off else off+l*sz) (h-l) (m-l))else none
    | _,_,_=>none
   | _=>match x.list? with
    | some es=>match mx with
     | none=>match bnd 0 lo,bnd es.length hi with
      | some l,some h=>if l≤h∧h≤es.length∧es.all (·.length==sz)then some (.d (.list ((es.drop l).take (h-l))))else none
      | _,_=>none
     | some _=>match bnd 0 lo,bnd es.length hi,bnd 0 mx with
      | some l,some h,some m=>if l≤h∧h=m∧m≤es.length∧hi.isSome=true∧es.all (·.length==sz)then some (.full ((es.drop l).take (h-l)))else none
      | _,_,_=>none
    | none=>none
 | some (.array n e)=>match sizeT P e with
  | none=>none
  | some sz=>match x with
   | .ptr k off=>match bnd 0 lo,bnd n hi,bnd n mx with
    | some l,some h,some m=>if l≤h∧h≤m∧m≤n∧(mx.isSome=true→hi.isSome=true)then some (.sl k (if m=l then off else off+l*sz) (h-l) (m-l))else none
    | _,_,_=>none
   | _=>none
 | _=>none
theorem extract_str(s:List UInt8)(l h:Nat):(⟨s.toArray⟩:ByteArray).extract l h=⟨((s.drop l).take (h-l)).toArray⟩:=by
 apply ByteArray.ext
 simp
theorem sub_list{F:Nat→Nat→Value→Prop}{es:List (List D)}{A:Option Addr}{n c sz l h m:Nat}(r:relD F (.list es) (.slice A n c))(hsz:es.all (·.length==sz)=true)(h1:l≤h)(h2:h≤es.length)(h3:h≤m) :
  relD F (.list ((es.drop l).take (h-l))) (.slice (if m=l then A else A.map (·.add (l*sz))) (h-l) (m-l)):=by
 have hlen:((es.drop l).take (h-l)).length=h-l:=by simp;omega
 by_cases hz:h=l
 ·subst hz
  have:(es.drop h).take (h-h)=[]:=by simp
  rw[this,Nat.sub_self]
  exact .nil _ _
 ·rw[if_neg (by omega)]
  cases r with
  | nil A c=>simp at h2;omega
  | list _ b off c sz' u hne hcap hs hF hr =>
   have e0:sz'=sz:=by
    have q:=List.all_eq_true.1 hsz es[0] (List.getElem_mem _)
    have q2:=hs 0 es[0] (List.getElem?_eq_getElem hne)
    simp at q
    omega
   subst e0
   have key:=relD.list (F:=F) ((es.drop l).take (h-l)) b (off+l*sz') (m-l) sz' (λi j=>u (l+i) j) (by omega) (by omega)
    (λi e he=>by
     rw[List.getElem?_take]at he
     split at he
     ·rw[List.getElem?_drop]at he;exact hs _ _ he
     ·cases he)
    (λi j e x he hx=>by
     rw[List.getElem?_take]at he
     split at he
     ·rw[List.getElem?_drop]at he
      have:=hF _ j e x he hx
      rw[Nat.add_mul]at this
      have e3:off+l*sz'+i*sz'+j=off+(l*sz'+i*sz')+j:=by omega
      rw[e3];exact this
     ·cases he)
    (λi j e x he hx=>by
     rw[List.getElem?_take]at he
     split at he
     ·rw[List.getElem?_drop]at he;exact hr _ j e x he hx
     ·cases he)
   rw[hlen]at key
   simp only[Option.map_some,Addr.add_lit]
   exact key
theorem sliceV_ok{P:Program}{G:Cx}{t:TypeId}{x y:V}{v:Value}{lo hi mx:Option V}{vl vh vm:Option Value}(r:rel G x v)(rl:relO G lo vl)(rh:relO G hi vh)(rm:relO G mx vm)(h:sliceV P t x lo hi mx=some y)(w:World) :
  ∃u,(Instr.sliceAt t v vl vh vm).run P w=.ok u w∧rel G y u:=by
 unfold sliceV at h
 split at h
 ·rename_i hu
  split at h
  ·rename_i s
   split at h
   ·cases h
   ·rename_i hmx
    split at h
    ·rename_i l hh hl hhi
     split at h
     ·rename_i hc
      injection h with h;subst h
      cases mx with
      | some _=>simp at hmx
      | none =>
       cases vm with
       | some _=>exact rm.elim
       | none =>
        cases r with
        | d q =>
         cases q
         have hz:(⟨s.toArray⟩:ByteArray).size=s.length:=rfl
         have hb:=ii (P:=P) (cap:=s.length) (m:=s.length) (mx:=none) (vm:=none) rl rh trivial rfl hhi hl (zD _) hc.2 hc.1 (by simp) false w
         refine⟨.string ⟨((s.drop l).take (hh-l)).toArray⟩,?_,.d (.str _)⟩
         simp only[Instr.sliceAt,Instr.slice,Sem.run_bind,run_underlying hu,Result.andThen_ok,Option.isSome_none,Bool.false_eq_true,if_false,hz,hb,Sem.run_pure,extract_str]
     ·cases h
    ·cases h
  ·cases h
 ·rename_i e hu
  cases hs:sizeT P e with
  | none=>rw[hs]at h;cases h
  | some sz =>
   rw[hs]at h
   simp only at h
   split at h
   ·rename_i k off len cap
    split at h
    ·rename_i l hh m hl hhi hm
     split at h
     ·rename_i hc
      injection h with h;subst h
      cases r with
      | sl _ _ _ _ b q =>
       have hb:=ii (P:=P) rl rh rm hm hhi hl hc.2.2.1 hc.2.1 hc.1 hc.2.2.2 true w
       refine⟨_,?_,.sl k (if m=l then off else off+l*sz) (hh-l) (m-l) b q⟩
       simp only[Instr.sliceAt,Instr.slice,Sem.run_bind,run_underlying hu,Result.andThen_ok,hb,bJ hs,Sem.run_pure,Option.map_some,Addr.add_lit]
       split<;>rfl
     ·cases h
    ·cases h
   ·split at h
    ·rename_i es hes
     have hL:=ko r hes
     split at h
     ·split at h
      ·rename_i l hh hl hhi
       split at h
       ·rename_i hc
        injection h with h;subst h
        cases vm with
        | some _=>exact rm.elim
        | none =>
         obtain⟨A,c,rfl⟩:=iZ hL
         have hcap:es.length≤c:=by cases hL<;>simp_all
         have hb:=ii (P:=P) (len:=es.length) (cap:=c) (m:=c) (mx:=none) (vm:=none) rl rh trivial rfl hhi hl (zD _) (by omega) hc.1 (by simp) true w
         refine⟨_,?_,.d (sub_list hL hc.2.2 hc.1 hc.2.1 (m:=c) (by omega))⟩
         simp only[Instr.sliceAt,Instr.slice,Sem.run_bind,run_underlying hu,Result.andThen_ok,hb,bJ hs,Sem.run_pure]
       ·cases h
      ·cases h
     ·rename_i mxv
      split at h
      ·rename_i l hh m hl hhi hm
       split at h
       ·rename_i hc
        obtain⟨c1,c2,c3,c4,c5⟩:=hc
        subst c2
        injection h with h;subst h
        obtain⟨A,c,rfl⟩:=iZ hL
        have hcap:es.length≤c:=by cases hL<;>simp_all
        have hm':bnd c (some mxv)=some hh:=by rw[bnd_some c 0];exact hm
        have hb:=ii (P:=P) (len:=es.length) (cap:=c) (m:=hh) rl rh rm hm' hhi hl (by omega) (zD _) c1 (λ_=>c4) true w
        have hlen:((es.drop l).take (hh-l)).length=hh-l:=by simp;omega
        have hsub:=sub_list hL c5 c1 (by omega) (m:=hh) (zD _)
        have hf:=rel.full (G:=G) ((es.drop l).take (hh-l)) (if hh=l then A else A.map (·.add (l*sz))) (by rw[hlen];exact hsub)
        rw[hlen]at hf
        refine⟨_,?_,hf⟩
        simp only[Instr.sliceAt,Instr.slice,Sem.run_bind,run_underlying hu,Result.andThen_ok,hb,bJ hs,Sem.run_pure]
       ·cases h
      ·cases h
    ·cases h
 ·rename_i n e hu
  cases hs:sizeT P e with
  | none=>rw[hs]at h;cases h
  | some sz =>
   rw[hs]at h
   simp only at h
   split at h
   ·rename_i k off
    split at h
    ·rename_i l hh m hl hhi hm
     split at h
     ·rename_i hc
      injection h with h;subst h
      cases r with
      | ptr _ _ b q =>
       have hb:=ii (P:=P) rl rh rm hm hhi hl hc.2.2.1 hc.2.1 hc.1 hc.2.2.2 false w
       refine⟨_,?_,.sl k (if m=l then off else off+l*sz) (hh-l) (m-l) b q⟩
       simp only[Instr.sliceAt,Sem.run_bind,run_underlying hu,Result.andThen_ok,Instr.sureAddr,Sem.run_pure,hb,bJ hs,Addr.add_lit]
       split<;>rfl
     ·cases h
    ·cases h
   ·cases h
 ·cases h
def datas:List V→Option (List D)
 | []=>some []
 | x::xs=>match x.data?,datas xs with | some a,some b=>some (a::b) | _,_=>none
theorem gI{G:Cx}:∀{xs:List V} {vs:List Value} {ds:List D},rels G xs vs→datas xs=some ds→ds.length=vs.length∧∀(i:Nat) (x:D) (v:Value),ds[i]? = some x→vs[i]? = some v→relD G.F x v
 | [],vs,ds,r,h=>by
  simp only[datas]at h;injection h with h;subst h
  exact⟨r.1,λi x v h=>by simp at h⟩
 | y::ys,vs,ds,r,h=>by
  cases vs with
  | nil=>have:=r.1;simp at this
  | cons v vs =>
   obtain⟨r1,r2⟩:=aR r
   unfold datas at h
   split at h
   ·rename_i a b ha hb
    injection h with h;subst h
    obtain⟨q1,q2⟩:=gI r2 hb
    refine⟨by simp[q1],λi x u h1 h2=>?_⟩
    cases i with
    | zero=>simp at h1 h2;subst h1;subst h2;exact kA r1 ha
    | succ i=>simp at h1 h2;exact q2 i x u h1 h2
   ·cases h
theorem kind_val{F:Nat→Nat→Value→Prop}{x:D}{v:Value}{k:SK}(r:relD F x v)(h:x.kind? = some k):v=x.val:=by
 cases r<;>first | rfl | (simp[D.kind?]at h)
theorem kinds_vals{F:Nat→Nat→Value→Prop}:∀{ds:List D} {vs:List Value} {ks:List SK},ds.length=vs.length→(∀(i:Nat) (x:D) (v:Value),ds[i]? = some x→vs[i]? = some v→relD F x v)→ds.map D.kind? = ks.map some→vs=ds.map D.val
 | [],vs,ks,hl,_,_=>by
  have:vs=[]:=zA hl.symm
  subst this;rfl
 | d::ds,vs,ks,hl,r,hk=>by
  cases vs with
  | nil=>simp at hl
  | cons v vs =>
   cases ks with
   | nil=>simp at hk
   | cons k ks =>
    simp only[List.map_cons,List.cons.injEq]at hk
    have h1:=kind_val (r 0 d v rfl rfl) hk.1
    have h2:=kinds_vals (ds:=ds) (vs:=vs) (ks:=ks) (by simpa using hl) (λi x u a b=>r (i+1) x u (by simpa using a) (by simpa using b)) hk.2
    rw[h1,h2];rfl
def binV{P:Program}(g:Pg P)(op:BinOp)(t:TypeId)(x y:V):Option V :=
 match x,y with
 | .d (.bool a),.d (.bool b) =>
  match P.underlying t with
  | some .bool=>match op with
   | .eql=>some (.d (.bool (a==b)))
   | .neq=>some (.d (.bool (!(a==b))))
   | _=>none
  | _=>none
 | .d a,.d b=>(binD op a b).map .d
 | .agg xs,.agg ys =>
  match g.E t,datas xs,datas ys with
  | some ks,some ds,some es =>
   if ds.map D.kind? = ks.map some∧es.map D.kind? = ks.map some then
    match op with
    | .eql=>some (.d (.bool (eqAll ds es)))
    | .neq=>some (.d (.bool (!(eqAll ds es))))
    | _=>none
   else none
  | _,_,_=>none
 | _,_=>none
theorem equal_bool{P:Program}{t:TypeId}(hu:P.underlying t=some .bool)(a b:Bool)(w:World):(Op.equal t (.bool a) (.bool b)).run P w=.ok (a==b) w:=by
 unfold Op.equal Op.maxDepth
 rw[show (10000:Nat)=9999+1 from rfl]
 unfold Op.equalIn
 simp only[Sem.run_bind,run_underlying hu,Result.andThen_ok]
 rfl
theorem eqGuard_bool{P:Program}(op:BinOp)(t:TypeId)(xo yo:Operand)(a b:Bool)(w:World):(eqGuard op t xo yo (.bool a) (.bool b)).run P w=.ok () w:=by
 unfold eqGuard;cases op<;>simp
theorem inv_bool{G:Cx}{t:Bool}{v:Value}(r:rel G (.d (.bool t)) v):v=.bool t:=by cases r with | d q=>cases q;rfl
theorem eW{G:Cx}{k:IntKind}{n:Int}{v:Value}(r:rel G (.d (.int k n)) v):v=.int k n:=by cases r with | d q=>cases q;rfl
theorem ic{G:Cx}{k off:Nat}{v:Value}(r:rel G (.ptr k off) v):∃b,G.ob k=some b∧v=.pointer (some ⟨b,off,none⟩):=by cases r with | ptr _ _ b q=>exact⟨b,q,rfl⟩
theorem inv_iptr{G:Cx}{cs:List D}{off:Nat}{v:Value}(r:rel G (.iptr cs off) v):∃b o,∃u:Nat→Value,v=.pointer (some ⟨b,o+off,none⟩)∧(∀(j:Nat) (x:D),cs[j]? = some x→G.F b (o+j) (u j))∧(∀(j:Nat) (x:D),cs[j]? = some x→relD G.F x (u j)):=by
 cases r with | iptr _ _ b o u q1 q2=>exact⟨b,o,u,rfl,q1,q2⟩
theorem binV_ok{P:Program}{g:Pg P}{G:Cx}{op:BinOp}{t:TypeId}{xo yo:Operand}{x y z:V}{v u:Value}(rx:rel G x v)(ry:rel G y u)(h:binV g op t x y=some z)(w:World) :
  ∃r,((do eqGuard op t xo yo v u;binOp op t v u):Sem Value).run P w=.ok r w∧rel G z r:=by
 unfold binV at h
 split at h
 ·rename_i a b
  cases rx with
  | d q1 =>
   cases q1
   cases ry with
   | d q2 =>
    cases q2
    split at h
    ·rename_i hu
     split at h
     ·injection h with h;subst h
      exact⟨.bool (a==b),by simp only[Sem.run_bind,eqGuard_bool,Result.andThen_ok,binOp,equal_bool hu,Sem.run_pure],.d (.bool _)⟩
     ·injection h with h;subst h
      exact⟨.bool (!(a==b)),by simp only[Sem.run_bind,eqGuard_bool,Result.andThen_ok,binOp,equal_bool hu,Sem.run_pure],.d (.bool _)⟩
     ·cases h
    ·cases h
 ·rename_i a b _
  cases rx with
  | d q1 =>
   cases ry with
   | d q2 =>
    cases hb:binD op a b with
    | none=>rw[hb]at h;cases h
    | some c =>
     rw[hb]at h
     simp at h;subst h
     obtain⟨r,h1,h2⟩:=binD_ok (P:=P) (t:=t) (xo:=xo) (yo:=yo) q1 q2 hb w
     exact⟨r,h1,.d h2⟩
 ·rename_i xs ys
  split at h
  ·rename_i ks ds es hE hx hy
   split at h
   ·rename_i hk
    cases rx with
    | agg _ vs l1 r1 =>
     cases ry with
     | agg _ us l2 r2 =>
      obtain⟨d1,d2⟩:=gI ⟨l1,r1⟩ hx
      obtain⟨e1,e2⟩:=gI ⟨l2,r2⟩ hy
      have hv:=kinds_vals d1 d2 hk.1
      have hu:=kinds_vals e1 e2 hk.2
      subst hv;subst hu
      obtain⟨g1,g2⟩:=g.hE t ks hE
      have hg:(eqGuard op t xo yo (.agg ⟨ds.map D.val⟩) (.agg ⟨es.map D.val⟩)).run P w=.ok () w:=by
       unfold eqGuard;cases op<;>simp[g1,program,Sem.run]
      have heq:=g2 ds es hk.1 hk.2 w
      split at h
      ·injection h with h;subst h
       exact⟨.bool (eqAll ds es),by simp only[Sem.run_bind,hg,Result.andThen_ok,binOp,heq,Sem.run_pure],.d (.bool _)⟩
      ·injection h with h;subst h
       exact⟨.bool (!(eqAll ds es)),by simp only[Sem.run_bind,hg,Result.andThen_ok,binOp,heq,Sem.run_pure],.d (.bool _)⟩
      ·cases h
   ·cases h
  ·cases h
 ·cases h
theorem run_mapM_list{P:Program}{α β:Type}(f:α→Sem β)(g:α→β)(w:World):∀(l:List α),(∀a∈l,(f a).run P w=.ok (g a) w)→(l.mapM f).run P w=.ok (l.map g) w
 | [],_=>by simp
 | a::l,h=>by
  have ih:=run_mapM_list f g w l (λb hb=>h b (by simp[hb]))
  simp[List.mapM_cons,h a (by simp),ih]
theorem run_mapM_array{P:Program}{α β:Type}(f:α→Sem β)(g:α→β)(w:World)(l:Array α)(h:∀a∈l.toList,(f a).run P w=.ok (g a) w):(l.mapM f).run P w=.ok (l.map g) w:=by
 rw[Array.mapM_eq_mapM_toList]
 simp only[Sem.run_map,run_mapM_list f g w l.toList h,Result.andThen_ok]
 congr 1
 apply Array.ext'
 simp
def zeroV(P:Program)(t:TypeId):Option V:=match P.info? t with | some i=>(match i.zero with | some z=>some (lit z) | none=>none) | none=>none
theorem ka{P:Program}{t:TypeId}{x:V}(h:zeroV P t=some x)(G:Cx)(w:World):∃z,(zeroValue t).run P w=.ok z w∧rel G x z∧x=lit z:=by
 unfold zeroV at h
 cases hi:P.info? t with
 | none=>rw[hi]at h;cases h
 | some i =>
  rw[hi]at h
  cases hz:i.zero with
  | none=>simp only[hz]at h;cases h
  | some z =>
   simp only[hz]at h
   injection h with h;subst h
   exact⟨z,by simp[zeroValue,typeInfo,hi,hz,program,Sem.run],lit_rel G z,rfl⟩
inductive Pl where
 | struct (l:List (Nat×Nat))
 | array (sz:Nat)
def cw(P:Program)(t:TypeId):Option Pl :=
 match P.underlying t with
 | some (.struct fields)=>if fields.toList.all (λf=>(sizeT P f.type).isSome)then some (.struct (fields.toList.map λf=>(f.offset,(sizeT P f.type).getD 0)))else none
 | some (.array _ e)=>match sizeT P e with | some sz=>some (.array sz) | none=>none
 | _=>none
def buildV(P:Program)(t:TypeId)(parts:List (Nat×V)):Option V :=
 match zeroV P t with
 | none=>none
 | some z=>match z.cells? with
  | none=>none
  | some zs=>match cw P t with
   | some (.struct l)=>(fillV (λi=>l[i]?) zs parts).map .agg
   | some (.array sz)=>(fillV (λi=>some (i*sz,sz)) zs parts).map .agg
   | none=>none
theorem buildV_ok{P:Program}{G:Cx}{t:TypeId}{parts:List (Nat×V)}{us:List (Nat×Value)}{y:V}(hl:parts.length=us.length)(hp:∀(i:Nat) (p:Nat×V) (q:Nat×Value),parts[i]? = some p→us[i]? = some q→p.1=q.1∧rel G p.2 q.2)(h:buildV P t parts=some y)(w:World) :
  ∃v,(Instr.build t ⟨us⟩).run P w=.ok v w∧rel G y v:=by
 unfold buildV at h
 cases hz:zeroV P t with
 | none=>rw[hz]at h;cases h
 | some z =>
  rw[hz]at h
  simp only at h
  cases hc:z.cells? with
  | none=>rw[hc]at h;cases h
  | some zs =>
   rw[hc]at h
   simp only at h
   obtain⟨zv,z1,z2,_⟩:=ka hz G w
   have hzr:=eJ z2 hc
   unfold cw at h
   cases hu:P.underlying t with
   | none=>simp only[hu]at h;cases h
   | some dd =>
   cases dd with
   | struct fields =>
    simp only[hu]at h
    cases hall:fields.toList.all (λf=>(sizeT P f.type).isSome)with
    | false=>simp only[hall,Bool.false_eq_true,if_false]at h;cases h
    | true =>
     simp only[hall,if_true]at h
     have hpl0:(λ(i:Nat)=>(fields.toList.map λ(f:Field)=>(f.offset,(sizeT P f.type).getD 0))[i]?)=(λi=>(fields[i]?).map λ(f:Field)=>(f.offset,(sizeT P f.type).getD 0)):=by
      funext i;simp
     rw[hpl0]at h
     cases hf:fillV (λi=>(fields[i]?).map λf=>(f.offset,(sizeT P f.type).getD 0)) zs parts with
     | none=>rw[hf]at h;cases h
     | some out =>
      rw[hf]at h
      simp at h;subst h
      obtain⟨ws,w1,w2⟩:=fillV_ok parts us zs zv.cells.toList out hf hzr hl hp
      refine⟨.agg ⟨ws⟩,?_,.agg _ _ w2.1 w2.2⟩
      have hm:(fields.mapM (λ(f:Field)=>(do pure (f.offset,←sizeOf f.type):Sem (Nat×Nat)))).run P w=.ok (fields.map λ(f:Field)=>(f.offset,(sizeT P f.type).getD 0)) w:=by
       refine run_mapM_array _ _ w fields (λf hf=>?_)
       have:=List.all_eq_true.1 hall f hf
       obtain⟨n,hn⟩:=Option.isSome_iff_exists.1 this
       simp[bJ hn,hn]
      have hpl:(λ(i:Nat)=>(fields.map λ(f:Field)=>(f.offset,(sizeT P f.type).getD 0))[i]?)=(λi=>(fields[i]?).map λ(f:Field)=>(f.offset,(sizeT P f.type).getD 0)):=by
       funext i;simp
      have hcell:(⟨zv.cells.toList⟩:Array Value)=zv.cells:=by simp
      rw[hcell]at w1
      simp only[Instr.build,Sem.run_bind,z1,Result.andThen_ok,run_underlying hu,hm,hpl,w1,Sem.run_pure]
   | array n e =>
    simp only[hu]at h
    cases hs:sizeT P e with
    | none=>simp only[hs]at h;cases h
    | some sz =>
     simp only[hs]at h
     cases hf:fillV (λi=>some (i*sz,sz)) zs parts with
     | none=>rw[hf]at h;cases h
     | some out =>
      rw[hf]at h
      simp at h;subst h
      obtain⟨ws,w1,w2⟩:=fillV_ok parts us zs zv.cells.toList out hf hzr hl hp
      refine⟨.agg ⟨ws⟩,?_,.agg _ _ w2.1 w2.2⟩
      have hcell:(⟨zv.cells.toList⟩:Array Value)=zv.cells:=by simp
      rw[hcell]at w1
      simp only[Instr.build,Sem.run_bind,z1,Result.andThen_ok,run_underlying hu,bJ hs,w1,Sem.run_pure]
   | _=>simp only[hu]at h;cases h
def pureS{P:Program}(g:Pg P)(o:Oper)(ρ:Operand→V):Option V :=
 match o.op with
 | .move x=>some (ρ x)
 | .assign x=>some (ρ x)
 | .pick c a b=>match ρ c with | .d (.bool t)=>some (if t then ρ a else ρ b) | _=>none
 | .build t parts=>buildV P t (parts.toList.map λp=>(p.1,ρ p.2))
 | .nilCheck x=>match ρ x with | .ptr k off=>some (.ptr k off) | .iptr cs off=>some (.iptr cs off) | _=>none
 | .binOp op t x y _=>binV g op t (ρ x) (ρ y)
 | .unOp op _ x=>unV op (ρ x)
 | .convert src dst x=>if (P.underlying src).isSome then convV P dst (ρ x)else none
 | .makeFunc (.func f) first captured=>if first.toList=[]then some (.fn f (captured.toList.map ρ))else none
 | .slice t x lo hi mx=>sliceV P t (ρ x) (lo.map ρ) (hi.map ρ) (mx.map ρ)
 | .fieldAddr t x f=>dP P t (ρ x) f
 | .field t x f=>fieldV P t (ρ x) f
 | .indexAddr t x i=>io P t (ρ x) (ρ i)
 | .index t x i=>indexV P t (ρ x) (ρ i)
 | .extract x i=>extractV (ρ x) i
 | .load t a=>match ρ a with | .iptr cs off=>partV P t (iy cs) off | _=>none
 | .call c=>match c.callee,c.args.toList,c.argTypes.toList with | .builtin .len,[x],[t]=>lenV P t (ρ x) | _,_,_=>none
 | _=>none
theorem relO_map{G:Cx}{fr:Fr}{a:Act}(h:FR G fr a)(x:Option Operand):relO G (x.map (evalO fr)) (x.map a.eval):=by
 cases x with
 | none=>trivial
 | some x=>exact aV h x
theorem pureS_ok {P : Program} {g : Pg P} {G : Cx} {o : Oper} {fr : Fr} {a : Act} {y : V} {w : World} (hF : ∀ b o v, G.F b o v → w.cell? ⟨b, o, none⟩ = some v) (hfr : FR G fr a) (h : pureS g o (evalO fr) = some y) :
    ∃v,(execOp a.eval o).run P w=.ok (.value v) w∧rel G y v:=by
  have ev:=λx=>aV hfr x
  have fin:∀(s:Sem Value) ,(∃u,s.run P w=.ok u w∧rel G y u)→∃v,((do pure (.value (←s)):Sem Next)).run P w=.ok (.value v) w∧rel G y v:=by
    rintro s ⟨u,h1,h2⟩
    exact⟨u,by simp[h1],h2⟩
  unfold pureS at h
  split at h<;>rename_i hop
  · injection h with h;subst h;exact⟨_,by simp[execOp,hop],ev _⟩
  · injection h with h;subst h;exact⟨_,by simp[execOp,hop],ev _⟩
  · rename_i c x z
    split at h
    · rename_i t hc
      injection h with h;subst h
      have hcv:a.eval c=.bool t:=inv_bool (hc▸ev c)
      cases t
      · exact⟨a.eval z,by simp[execOp,hop,hcv,asBool],ev _⟩
      · exact⟨a.eval x,by simp[execOp,hop,hcv,asBool],ev _⟩
    · cases h
  · rename_i t parts
    have:=buildV_ok (G:=G) (us:=parts.toList.map λp=>(p.1,a.eval p.2)) (by simp) (λi p q h1 h2=>by
      rw[List.getElem?_map]at h1 h2
      cases hq:parts.toList[i]? with
      | none=>rw[hq]at h1;cases h1
      | some r=>rw[hq]at h1 h2;simp at h1 h2;subst h1;subst h2;exact⟨rfl,ev _⟩) h w
    obtain⟨v,h1,h2⟩:=this
    refine⟨v,?_,h2⟩
    have he:(parts.map λx=>(x.1,a.eval x.2))=(⟨parts.toList.map λp=>(p.1,a.eval p.2)⟩:Array (Nat×Value)):=by apply Array.ext';simp
    simp only[execOp,hop,he,Sem.run_bind,h1,Result.andThen_ok,Sem.run_pure]
  · rename_i x
    have e:=ev x
    split at h
    · rename_i k off hx
      injection h with h;subst h
      rw[hx]at e
      obtain⟨b,q,hv⟩:=ic e
      exact⟨.pointer (some ⟨b,off,none⟩),by simp[execOp,hop,hv],.ptr _ _ b q⟩
    · rename_i cs off hx
      injection h with h;subst h
      rw[hx]at e
      obtain⟨b,o',u,hv,q1,q2⟩:=inv_iptr e
      exact⟨.pointer (some ⟨b,o'+off,none⟩),by simp[execOp,hop,hv],.iptr _ _ b o' u q1 q2⟩
    · cases h
  · simp only[execOp,hop];exact fin _ (binV_ok (ev _) (ev _) h w)
  · simp only[execOp,hop];exact fin _ (unV_ok (ev _) h w)
  · split at h
    · simp only[execOp,hop];exact fin _ (convV_ok (ev _) ‹_› h w)
    · cases h
  · rename_i f first captured
    split at h
    · rename_i hfirst
      injection h with h;subst h
      have hf:first=#[]:=by cases first;simp_all
      subst hf
      refine⟨.func (.func f) #[] ⟨captured.toList.map a.eval⟩,?_,.fn _ _ _ (by simp) (λi x v h1 h2=>?_)⟩
      · have he:(captured.map a.eval)=(⟨captured.toList.map a.eval⟩:Array Value):=by apply Array.ext';simp
        simp[execOp,hop,Instr.makeFunc,he]
      · rw[List.getElem?_map]at h1 h2
        cases hq:captured.toList[i]? with
        | none=>rw[hq]at h1;cases h1
        | some r=>rw[hq]at h1 h2;simp at h1 h2;subst h1;subst h2;exact ev _
    · cases h
  · simp only[execOp,hop];exact fin _ (sliceV_ok (ev _) (relO_map hfr _) (relO_map hfr _) (relO_map hfr _) h w)
  · simp only[execOp,hop];exact fin _ (jf (ev _) h w)
  · simp only[execOp,hop];exact fin _ (fieldV_ok (ev _) h w)
  · simp only[execOp,hop];exact fin _ (indexAddrV_ok (ev _) (ev _) h w)
  · simp only[execOp,hop];exact fin _ (indexV_ok (ev _) (ev _) h w)
  · simp only[execOp,hop];exact fin _ (extractV_ok (ev _) h w)
  · rename_i t x
    split at h
    · rename_i cs off hx
      have e:=ev x
      rw[hx]at e
      obtain⟨b,o',u,hv,q1,q2⟩:=inv_iptr e
      have hr:=iptr_cells (G:=G) q2
      obtain⟨v,h1,h2⟩:=km (b:=b) (o:=o') (w:=w) h hr (λj v hj=>by
        rw[List.getElem?_map]at hj
        cases hc:cs[j]? with
        | none =>
          rw[List.getElem?_eq_none (by rw[List.length_range];exact List.getElem?_eq_none_iff.1 hc)]at hj
          cases hj
        | some y =>
          rw[List.getElem?_range (az hc)]at hj
          simp at hj;subst hj
          exact hF _ _ _ (q1 j y hc))
      refine⟨v,?_,h2⟩
      simp only[execOp,hop,Instr.loadAt,hv,Instr.sureAddr,Sem.run_bind,Sem.run_pure,Result.andThen_ok,h1]
    · cases h
  · rename_i c
    split at h
    · rename_i x t hcal hargs htys
      obtain⟨u,h1,h2⟩:=lenV_ok (ty:=o.type) (ev x) h w
      have ha:c.args=#[x]:=by apply Array.ext';simp[hargs]
      have ht:c.argTypes=#[t]:=by apply Array.ext';simp[htys]
      refine⟨u,?_,h2⟩
      simp only[execOp,hop,resolve,hcal,ha,ht,Sem.run_bind,Sem.run_pure,Result.andThen_ok,invoke,builtin]
      simp[h1]
    · cases h
  · cases h
end Go.Proofs.YtplhejpjnfjopaaGreatDoor
