/-
  Svw, Sx, Sz in one text.
-/
import Derived.Test.YtplhejpjnfjopaaGreatDoorSrt
import Derived.Laws.MakeOwn
import Derived.Laws.OwnMore
import Derived.Lib.AppendStr
import Derived.Lib.UnsafeStr
open List renaming eq_nil_of_length_eq_zero → zA,length_append → zD,size_toArray → zE,append_assoc → zF,take_left → zG
namespace Go.Proofs.YtplhejpjnfjopaaGreatDoor
open Go.RowKit
set_option linter.unusedVariables false
set_option linter.unusedSimpArgs false
section
variable {P : Program} {g : Pg P} {d : Option Tmp} {t ty : TypeId} {p : String} {af : Array Edge} {gd : Option (Nat × Bool)} {fr : Fr} {s : Sg} {R : V → Sg → Prop}
theorem appT_parts{tt e:TypeId}{sz:Nat}(h:appT P tt=some (e,sz)):∃i z,P.underlying tt=some (.slice e)∧P.info? e=some i∧i.zero=some z∧z.cells.size=sz∧i.size=sz∧0<sz∧i.bytes≤8000000:=by
 unfold appT at h
 split at h
 ·rename_i e' hu
  split at h
  ·rename_i i hi
   split at h
   ·rename_i z hz
    split at h
    ·rename_i hc
     injection h with h;injection h with h1 h2;subst h1;subst h2
     exact⟨i,z,hu,hi,hz,hc.1,rfl,hc.2.1,hc.2.2⟩
    ·cases h
   ·cases h
  ·cases h
 ·cases h
end
def byteE(b:UInt8):List D:=[.int .u8 (b.toNat:Int)]
theorem byte_len(l:List UInt8):(Lib.byteCells l).length=l.length:=by simp[Lib.byteCells]
section
variable {P : Program}
theorem run_append_str(w:World)(t u ty e:TypeId)(i:TypeInfo)(base:Nat)(ht:P.underlying t=some (.slice e))(hu:P.underlying u=some .string)(hi:P.info? e=some i)(hz:i.zero=some (.int .u8 0))(hsize:i.size=1)(hby:i.bytes=1)
  (v:Value) (n:Nat) (xs:List Value) (hown:w.ownsRow base e 1 v n xs) (s:List UInt8) (hm:0<s.length) (hb:n+s.length≤16777216) (hbase:base≤w.heap.size) :
  ∃gg cap w',(Builtin.append_ #[t,u] ty #[v,.string ⟨s.toArray⟩]).run P w=.ok (.slice (some ⟨gg,0,none⟩) (n+s.length) cap) w' ∧
   w'.ownsRow base e 1 (.slice (some ⟨gg,0,none⟩) (n+s.length) cap) (n+s.length) (xs++Lib.byteCells s)∧((v.ownBlock=some gg∧w.grownBy w' (some gg))∨(gg=w.heap.size∧Kp w w')):=by
 have h63:n+s.length≤maxLen:=by unfold maxLen;omega
 have hss:(⟨s.toArray⟩:ByteArray).size=s.length:=rfl
 have hsc:Lib.strCells ⟨s.toArray⟩=Lib.byteCells s:=rfl
 have hxl:xs.length=n:=by simpa using hown.1
 have hlen:(xs++Lib.byteCells s).length=(n+s.length)*1:=by rw[zD,hxl,byte_len,Nat.mul_one]
 have grown:∀(old:Nat),old<n+s.length →
   (w.drew.alloc (.cells (xs.toArray++(Lib.byteCells s).toArray++Builtin.zeroCells (Value.int .u8 0).cells (grownCap w (n+s.length) old e-(n+s.length))) e)).ownsRow base e 1
    (.slice (some ⟨w.heap.size,0,none⟩) (n+s.length) (grownCap w (n+s.length) old e)) (n+s.length) (xs++Lib.byteCells s):=by
  intro old ho
  have hge:=grownCap_ge w (n+s.length) old e
  have hcm:grownCap w (n+s.length) old e≤maxLen:=grownCap_le_maxLen w (n+s.length) old e h63
  refine⟨hlen,.inr ⟨w.heap.size,_,_,rfl,hbase,heap_alloc_new w.drew _,hge,hcm,?_,?_⟩⟩
  ·have hz1:(Value.int IntKind.u8 0).cells.size=1:=rfl
   simp only[Array.size_append,zE,size_zeroCells,hz1,hxl,byte_len]
   omega
  ·simp only[Array.toList_append,zF]
   rw[←zF,←hlen]
   exact zG
 rcases hown.2 with⟨rfl,rfl⟩|⟨g,cap,cur,rfl,hbg,hg,hnc,hcm,hcs,htake⟩
 ·have hx:xs=[]:=zA hxl
  subst hx
  have hr:=run_append_nil_string (P:=P) w t u ty e i (.int .u8 0) ht hu hi hz ⟨s.toArray⟩ (by rw[hss];omega) (by rw[hss];omega) (by rw[hby,hss];omega)
  have hgr:=grown 0 (by omega)
  simp only[Nat.zero_add,List.nil_append,Array.empty_append]at hgr ⊢
  have e1:((⟨s.toArray⟩:ByteArray).data.map λb=>Value.int .u8 b.toNat)=(Lib.byteCells s).toArray:=by
   apply Array.ext'
   simp[Lib.byteCells]
  rw[e1,hss]at hr
  exact⟨_,_,_,hr,hgr,.inr ⟨rfl,((Kp.refl w).drew).alloc _⟩⟩
 ·by_cases hroom:n+s.length≤cap
  ·have hcs':cur.size=cap:=by simpa using hcs
   have hr:=Lib.run_append_room_string (P:=P) w t u ty e i ht hu hi hsize g n cap cur hg ⟨s.toArray⟩ hroom (by rw[hss];omega)
   rw[hss,hsc]at hr
   refine⟨_,_,_,hr,⟨hlen,.inr ⟨g,cap,_,rfl,hbg,setRow_heap w g cur _ e _ hg,hroom,hcm,?_,?_⟩⟩,.inl ⟨rfl,⟨rfl,rfl,rfl,by simp,λk _ hk=>setRow_other w g k _ (λe=>hk (by simp[e]))⟩⟩⟩
   ·simp only[zE,zD,List.length_take,List.length_drop,Array.length_toList,byte_len]
    omega
   ·have ht':cur.toList.take n=xs:=by simpa using htake
    rw[ht',←hlen]
    exact zG
  ·have hh:∀j u,xs[j]? = some u→w.cell? ((⟨g,0,none⟩:Addr).add j)=some u:=hown.cells (g:=g) rfl
   have hr:=Lib.run_append_grow_string (P:=P) w t u ty e i (.int .u8 0) ht hu hi hz ⟨g,0,none⟩ n cap xs (by rw[hsize];simpa using hxl) hh ⟨s.toArray⟩ (by rw[hss];omega) (by rw[hss];omega) (by rw[hby,hss];exact growslice_fits (by omega) (by omega))
   rw[hss,hsc]at hr
   have hgr:=grown cap (by omega)
   exact⟨_,_,_,hr,hgr,.inr ⟨rfl,((Kp.refl w).drew).alloc _⟩⟩
theorem run_append_str0(w:World)(t u ty e:TypeId)(i:TypeInfo)(ht:P.underlying t=some (.slice e))(hu:P.underlying u=some .string)(hi:P.info? e=some i)(A:Option Addr)(n c:Nat)(hn:n≤c) :
  (Builtin.append_ #[t,u] ty #[.slice A n c,.string ⟨#[]⟩]).run P w=.ok (.slice A n c) w:=by
 have hf:=Lib.run_firstCells_string (P:=P) w i.size ⟨#[]⟩
 have hz:(⟨#[]⟩:ByteArray).size=0:=rfl
 have hs:Lib.strCells ⟨#[]⟩=[]:=rfl
 rw[hz,hs]at hf
 cases A<;>simp[Builtin.append_,run_underlying ht,run_underlying hu,sizeOf,typeInfo,hi,Builtin.lenOf,hz,hf,storeCells,hn]
def byteT(P:Program)(t:TypeId):Option TypeId :=
 match P.underlying t with
 | some (.slice e)=>match P.info? e with
  | some i=>match i.zero with
   | some (.int .u8 0)=>if i.size=1∧i.bytes=1 then some e else none
   | _=>none
  | none=>none
 | _=>none
theorem byteT_parts{t e:TypeId}(h:byteT P t=some e):∃i,P.underlying t=some (.slice e)∧P.info? e=some i∧i.zero=some (.int .u8 0)∧i.size=1∧i.bytes=1:=by
 unfold byteT at h
 split at h
 ·rename_i e' hu
  split at h
  ·rename_i i hi
   split at h
   ·rename_i hz
    split at h
    ·rename_i hc
     injection h with h;subst h
     exact⟨i,hu,hi,hz,hc.1,hc.2⟩
    ·cases h
   ·cases h
  ·cases h
 ·cases h
theorem app_str{w0 w:World}{G:Cx}{obs:Nat→Option (List V)}{lns:Nat→Option (TypeId×Nat)}(h:HRp P w0 w G obs lns){t:Nat}{ty tt ut e:TypeId}{es:List (List D)}{s:List UInt8}{v:Value}(ht:byteT P tt=some e)(hut:P.underlying ut=some .string)(hl:lns t=some (e,es.length))
  (r:rel G (.own t es) v) (hb:es.length+s.length≤16777216) :
  ∃u w' G',(Builtin.append_ #[tt,ut] ty #[v,.string ⟨s.toArray⟩]).run P w=.ok u w'∧G.le G'∧HRp P w0 w' G' obs (upd lns t (e,es.length+s.length))∧rel G' (.own t (es++s.map byteE)) u:=by
 have hF:=λb o v q=>(h.fs b o v q).2
 obtain⟨i,hu,hi,hz,hsz1,hby⟩:=byteT_parts ht
 obtain⟨v0,xs,g1,g2,g3⟩:=h.lvl t e es.length hl
 have hce:P.cellsOf e=1:=by simp[Program.cellsOf,hi,hsz1]
 cases r with
 | own _ _ _ q L hL hs hlast =>
  rw[g1]at hL;injection hL with hL;subst hL
  simp only at hs hlast
  have hv:v=v0:=by rcases hlast with q | q;exact q.2;omega
  subst hv
  have g2:=g2.resolve_left (by rintro rfl;cases q)
  by_cases hy:s.length=0
  ·have:s=[]:=zA hy
   subst this
   obtain⟨A,c,rfl⟩:=dy g2
   have hn:es.length≤c:=by
    rcases g2.2 with⟨h1,h2⟩|⟨g,cap,cur,h1,_,_,h3,_⟩
    ·omega
    ·injection h1 with _ _ h1;omega
   refine⟨_,w,G,run_append_str0 w tt ut ty e i hu hut hi A es.length c hn,Cx.le.refl G,?_,?_⟩
   ·have:upd lns t (e,es.length+([]:List UInt8).length)=lns:=by
     funext j
     by_cases ej:j=t
     ·subst ej;rw[aD];simp[hl]
     ·rw[aL _ _ ej]
    rw[this];exact h
   ·rw[List.map_nil,List.append_nil]
    exact .own t es _ q _ g1 hs (.inl ⟨rfl,rfl⟩)
  ·rw[hce]at g2
   obtain⟨gg,cap,w',a1,a2,a3⟩:=run_append_str (P:=P) w tt ut ty e i w0.heap.size hu hut hi hz hsz1 hby v es.length xs g2 s (by omega) hb h.kp.size
   rw[←hce]at g2 a2
   obtain⟨hle,hH⟩:=h.app hl g1 g2 a2 (by omega) a3
   refine⟨_,w',_,a1,hle,hH,?_⟩
   have hcap:es.length+s.length≤cap:=by
    rcases a2.2 with⟨h1,h2⟩|⟨g,cap',cur,h1,_,_,h3,_⟩
    ·cases h1
    ·injection h1 with _ _ h1;omega
   have hlen:(es++s.map byteE).length=es.length+s.length:=by simp
   have hcl:∀(k:Nat) (c:List D),(es++s.map byteE)[k]? = some c→c.length=P.cellsOf e:=by
    intro k c hk
    rcases Nat.lt_or_ge k es.length with hlt | hge
    ·rw[List.getElem?_append_left hlt]at hk;exact hs _ _ hk
    ·rw[List.getElem?_append_right hge,List.getElem?_map]at hk
     cases hq:s[k-es.length]? with
     | none=>rw[hq]at hk;cases hk
     | some b=>rw[hq]at hk;injection hk with hk;rw[←hk,hce];rfl
   have hval:∀(k j:Nat) (c:List D) (x:D),(es++s.map byteE)[k]? = some c→c[j]? = some x→∃u,(xs++Lib.byteCells s)[k*P.cellsOf e+j]? = some u∧relD G.F x u:=by
    intro k j c x hk hx
    have hj:j<P.cellsOf e:=by have:=az hx;have:=hcl k c hk;omega
    rcases Nat.lt_or_ge k es.length with hlt | hge
    ·rw[List.getElem?_append_left hlt]at hk
     obtain⟨u,u1,u2⟩:=own_xs hF q g2 hs k j c x hk hx
     exact⟨u,by rw[List.getElem?_append_left (az u1)];exact u1,u2⟩
    ·rw[List.getElem?_append_right hge,List.getElem?_map]at hk
     cases hq:s[k-es.length]? with
     | none=>rw[hq]at hk;cases hk
     | some b =>
      rw[hq]at hk;injection hk with hk;subst hk
      have hj0:j=0:=by rw[hce]at hj;omega
      subst hj0
      simp only[byteE,List.getElem?_cons_zero]at hx
      injection hx with hx;subst hx
      have e1:xs.length=es.length*P.cellsOf e:=g2.1
      refine⟨.int .u8 b.toNat,?_,.int _ _⟩
      rw[List.getElem?_append_right (by rw[e1];exact Nat.le_trans (Nat.mul_le_mul_right _ hge) (by omega)),e1,hce]
      simp only[Nat.mul_one,Nat.add_zero,Lib.byteCells,List.getElem?_map,hq,Option.map_some]
   refine .own t (es++s.map byteE) _ ?_ _ (aD _ _ _) hcl (.inl ⟨hlen,rfl⟩)
   have key:=relD.list (F:=λb o u=>G.F b o u∨(b=gg∧o<(es.length+s.length)*P.cellsOf e∧w'.cell? ⟨gg,o,none⟩=some u)) (es++s.map byteE) gg 0 cap (P.cellsOf e) (λi j=>((xs++Lib.byteCells s)[i*P.cellsOf e+j]?).getD undef) (by omega) (by omega) hcl
    (λi j c x hc hx=>by
     obtain⟨u,u1,u2⟩:=hval i j c x hc hx
     rw[u1]
     right
     refine⟨rfl,?_,?_⟩
     ·have:=az u1
      rw[a2.1]at this
      rw[Nat.zero_add];exact this
     ·have:=a2.cells (g:=gg) rfl _ u u1
      rw[Addr.add_lit]at this
      rw[Nat.zero_add]at this ⊢
      exact this)
    (λi j c x hc hx=>by
     obtain⟨u,u1,u2⟩:=hval i j c x hc hx
     rw[u1]
     exact bt (λ_ _ _ q=>.inl q) u2)
   rw[hlen]at key
   exact key
theorem HRp.gone{w0 w w':World}{G:Cx}{obs:Nat→Option (List V)}{lns:Nat→Option (TypeId×Nat)}(h:HRp P w0 w G obs lns){t n:Nat}{e:TypeId}(hl:lns t=some (e,n))(hg:∃L,G.lv t=some L∧w.grownBy w' L.v.ownBlock∧∀b o,L.v.ownBlock=some b→w'.cell? ⟨b,o,none⟩=w.cell? ⟨b,o,none⟩)(hkt:TK w w') :
  let G':Cx:={ G with lv:=upd G.lv t ⟨n+1,P.cellsOf e,Go.undef⟩ }
  G.le G'∧HRp P w0 w' G' obs (upd lns t (e,n+1)):=by
 intro G'
 obtain⟨L,hL,hg,hc⟩:=hg
 obtain⟨v,xs,g1,g2,g3⟩:=h.lvl t e n hl
 rw[hL]at g1;injection g1 with g1;subst g1
 simp only at hg hc
 have hbk:∀b',b'<w.heap.size→some b'≠v.ownBlock→w'.heap[b']? = w.heap[b']?:=λb' h1 h2=>hg.block b' h1 h2
 have hlv:∀j L,G'.lv j=some L→(j=t∧L=⟨n+1,P.cellsOf e,Go.undef⟩)∨(j≠t∧G.lv j=some L):=by
  intro j L q
  have q':upd G.lv t ⟨n+1,P.cellsOf e,Go.undef⟩ j=some L:=q
  by_cases e:j=t
  ·subst e;rw[aD]at q';injection q' with q';exact .inl ⟨rfl,q'.symm⟩
  ·rw[aL _ _ e]at q';exact .inr ⟨e,q'⟩
 have hle:G.le G':=by
  refine⟨rfl,λ_ _ _ q=>q,λ_ _ q=>q,λj L q=>?_,λ_ _ q=>q,λ_ L q=>⟨L,q,rfl,.inl rfl⟩,λ_ _ q=>q⟩
  by_cases ej:j=t
  ·subst ej
   rw[hL]at q;injection q with q;subst q
   exact⟨_,aD _ _ _,rfl,.inr (by show n<n+1;omega)⟩
  ·exact⟨L,(by show upd G.lv t _ j=_;rw[aL _ _ ej];exact q),rfl,.inl rfl⟩
 refine⟨hle,h.kp.grown hg (λj hj=>(fc g2 j hj).1),?_,h.fb,h.obd,?_,h.obi,?_,?_,?_,h.gb,h.obm,?_,h.mpi,h.obr,?_,h.rvi,λb t q=>hkt _ _ (h.tgs b t q)⟩
 ·intro b o u q
  have q1:=h.fs b o u q
  refine⟨Nat.lt_of_lt_of_le q1.1 hg.size,?_⟩
  by_cases hb:v.ownBlock=some b
  ·rw[hc b o hb];exact q1.2
  ·exact (World.cell?_of_block (a:=⟨b,o,none⟩) (hbk b q1.1 (λe=>hb e.symm))).trans q1.2
 ·intro k cs q hm hr
  obtain⟨b,vs,t',h1,h2,h3,h4,h5⟩:=h.obl k cs q hm hr
  exact⟨b,vs,t',h1,h2,(hbk b (heap_lt' h3) (λe=>(g3 b e.symm).1 k h1)).trans h3,cP hle h4,h5⟩
 ·intro j L q
  rcases hlv j L q with⟨rfl,_⟩|⟨e,q⟩
  ·rw[aD];simp
  ·rw[aL _ _ e];exact h.lvd j L q
 ·intro j e' n' q
  by_cases ej:j=t
  ·subst ej
   rw[aD]at q;injection q with q;injection q with q1 q2;subst q1;subst q2
   exact⟨Go.undef,[],aD _ _ _,.inl rfl,λb hb=>by simp[Go.undef,Value.ownBlock]at hb⟩
  ·rw[aL _ _ ej]at q
   obtain⟨v',xs',h1,h2,h3⟩:=h.lvl j e' n' q
   refine⟨v',xs',(by show upd G.lv t _ j=_;rw[aL _ _ ej];exact h1),iq h2 hg ?_,h3⟩
   cases hv:v'.ownBlock with
   | none=>exact .inl rfl
   | some b=>exact .inr λe2=>ej (h.lvi j t _ _ b h1 hL hv e2.symm)
 ·intro j j' L1 L2 b q q' h1 h2
  rcases hlv j L1 q with⟨_,rfl⟩|⟨_,q⟩
  ·simp[Go.undef,Value.ownBlock]at h1
  ·rcases hlv j' L2 q' with⟨_,rfl⟩|⟨_,q'⟩
   ·simp[Go.undef,Value.ownBlock]at h2
   ·exact h.lvi j j' L1 L2 b q q' h1 h2
 ·intro k b q
  obtain⟨h1,es,n',ik,kvs,h2,h3,h4⟩:=h.mpl k b q
  refine⟨h1,es,n',ik,kvs,h2,(hbk b (heap_lt' h3) (λe2=>?_)).trans h3,h4⟩
  rcases g2 with rfl | g2
  ·simp[Go.undef,Value.ownBlock]at e2
  ·obtain⟨cap,cur,_,_,c3,_⟩:=own_at g2 e2.symm
   rw[c3]at h3;cases h3
 ·intro k L' q
  obtain⟨e',es',xs',h1,h2,h3,h4,h5,h6⟩:=h.rvl k L' q
  refine⟨e',es',xs',h1,h2,h3,h4.kept hg ?_,h5,λb hb=>⟨(h6 b hb).1,(h6 b hb).2.1,λj L2 q2=>?_⟩⟩
  ·cases hv:L'.v.ownBlock with
   | none=>exact .inl rfl
   | some b=>exact .inr λe2=>(h6 b hv).2.2 t _ hL e2.symm
  ·rcases hlv j L2 q2 with⟨_,rfl⟩|⟨_,q2⟩
   ·simp[Go.undef,Value.ownBlock]
   ·exact (h6 b hb).2.2 j L2 q2
end
section
variable {P : Program} {g : Pg P} {d : Option Tmp} {t ty : TypeId} {p : String} {af : Array Edge} {gd : Option (Nat × Bool)} {fr : Fr} {s : Sg} {R : V → Sg → Prop}
theorem alt_appStr{x z:Operand}{j:Nat}{es:List (List D)}{l:List UInt8}{e ut:TypeId}(hx:evalO fr x=.own j es)(hz:evalO fr z=.d (.str l))(ht:byteT P t=some e)(hut:P.underlying ut=some .string)(hl:s.lns[j]? = some (e,es.length))(hb:okLen (es.length+l.length)=true)
  (h:R (.own j (es++l.map byteE)) ⟨s.obs,s.lns.set j (e,es.length+l.length)⟩):altR g ⟨d,.call ⟨.builtin .append,#[x,z],#[t,ut]⟩,ty,p,af,gd⟩ fr s R:=by
 intro w0 w G a hH hfr
 have r:=aV hfr x
 rw[hx]at r
 have hzv:=gA (hz▸aV hfr z)
 obtain⟨u,w',G',a1,a2,a3,a4⟩:=app_str (ty:=ty) hH ht hut hl r (fa hb)
 rw[lns_set hl]at a3
 refine⟨.value u,w',_,⟨s.obs,s.lns.set j (e,es.length+l.length)⟩,G',?_,.inl ⟨_,rfl,a4⟩,a2,a3,h⟩
 simp[execOp,resolve,invoke,builtin,hzv,a1]
end
section
variable {P : Program}
theorem HRp.beginRow{w0 w w':World}{G:Cx}{obs:Nat→Option (List V)}{lns:Nat→Option (TypeId×Nat)}(h:HRp P w0 w G obs lns)(hk:Kp w w')(t:Nat)(ht:lns t=none)(e:TypeId){v:Value}(ho:w'.ownsRow w.heap.size e (P.cellsOf e) v 0 []) :
  let G':Cx:={ G with lv:=upd G.lv t ⟨0,P.cellsOf e,v⟩ }
  G.le G'∧HRp P w0 w' G' obs (upd lns t (e,0)):=by
 intro G'
 have h':=h.kept hk
 have hnone:G.lv t=none:=by
  cases hq:G.lv t with
  | none=>rfl
  | some b=>exact absurd ht (h.lvd t b hq)
 have hlv:∀j L,G'.lv j=some L→(j=t∧L=⟨0,P.cellsOf e,v⟩)∨(j≠t∧G.lv j=some L):=by
  intro j L q
  have q':upd G.lv t ⟨0,P.cellsOf e,v⟩ j=some L:=q
  by_cases e:j=t
  ·subst e;rw[aD]at q';injection q' with q';exact .inl ⟨rfl,q'.symm⟩
  ·rw[aL _ _ e]at q';exact .inr ⟨e,q'⟩
 have hnew:∀b,v.ownBlock=some b→w.heap.size≤b:=λb hb=>(ho.lt b hb).1
 have hle:G.le G':=by
  refine⟨rfl,λ_ _ _ q=>q,λ_ _ q=>q,λj L q=>⟨L,?_,rfl,.inl rfl⟩,λ_ _ q=>q,λ_ L q=>⟨L,q,rfl,.inl rfl⟩,λ_ _ q=>q⟩
  show upd G.lv t _ j=some L
  rw[aL _ _ (λe=>by rw[e,hnone]at q;cases q)];exact q
 have hlvl:∀j L b,G.lv j=some L→L.v.ownBlock=some b→b<w.heap.size:=by
  intro j L b q hb
  cases hq:lns j with
  | none=>exact absurd hq (h.lvd j L q)
  | some en =>
   obtain⟨v',xs',h1,h2,_⟩:=h.lvl j en.1 en.2 hq
   rw[q]at h1;injection h1 with h1;subst h1
   exact (fc h2 b hb).2
 refine⟨hle,h'.kp,h'.fs,h'.fb,h'.obd,?_,h'.obi,?_,?_,?_,h'.gb,h'.obm,h'.mpl,h'.mpi,h'.obr,λk L q=>?_,h'.rvi,h'.tgs⟩
 ·intro k cs q hm hrv
  obtain⟨b,vs,t',h1,h2,h3,h4,h5⟩:=h'.obl k cs q hm hrv
  exact⟨b,vs,t',h1,h2,h3,cP hle h4,h5⟩
 ·intro j L q
  rcases hlv j L q with⟨rfl,_⟩|⟨e,q⟩
  ·rw[aD];simp
  ·rw[aL _ _ e];exact h.lvd j L q
 ·intro j e' n q
  by_cases ej:j=t
  ·subst ej
   rw[aD]at q;injection q with q;injection q with q1 q2;subst q1;subst q2
   refine⟨v,[],aD _ _ _,.inr (kk ho h.kp.size),λb hb=>⟨λk q=>?_,λo u q=>?_⟩⟩
   ·have hb2:=hnew b hb
    cases hq:obs k with
    | none=>exact absurd hq (h.obd k b q)
    | some cs =>
     obtain⟨b',_,_,h1,_,h3,_⟩:=h.obl k cs hq (h.obm k b q) (h.obr k b q)
     rw[q]at h1;injection h1 with h1;subst h1
     have:=heap_lt' h3;omega
   ·have:=(h.fs b o u q).1;have:=hnew b hb;omega
  ·rw[aL _ _ ej]at q
   obtain⟨v',xs,h1,h2,h3⟩:=h'.lvl j e' n q
   exact⟨v',xs,(by show upd G.lv t _ j=_;rw[aL _ _ ej];exact h1),h2,h3⟩
 ·intro j j' L L' b q q' h1 h2
  rcases hlv j L q with⟨e1,r1⟩|⟨e1,q1⟩<;>rcases hlv j' L' q' with⟨e2,r2⟩|⟨e2,q2⟩
  ·rw[e1,e2]
  ·subst r1;have:=hlvl j' L' b q2 h2;have:=hnew b h1;omega
  ·subst r2;have:=hlvl j L b q1 h1;have:=hnew b h2;omega
  ·exact h.lvi j j' L L' b q1 q2 h1 h2
 ·obtain⟨e',es,xs,h1,h2,h3,h4,h5,h6⟩:=h'.rvl k L q
  refine⟨e',es,xs,h1,h2,h3,h4,h5,λb hb=>⟨(h6 b hb).1,(h6 b hb).2.1,λj L' q'=>?_⟩⟩
  rcases hlv j L' q' with⟨_,rfl⟩|⟨_,q'⟩
  ·intro hb2
   obtain⟨_,_,_,_,_,_,g4,_⟩:=h.rvl k L q
   have:=(g4.lt b hb).2;have:=hnew b hb2;omega
  ·exact (h6 b hb).2.2 j L' q'
end
section
variable {P : Program} {g : Pg P} {d : Option Tmp} {t ty : TypeId} {p : String} {af : Array Edge} {gd : Option (Nat × Bool)} {fr : Fr} {s : Sg} {R : V → Sg → Prop}
theorem g8{e:TypeId}{sz:Nat}(ht:appT P t=some (e,sz))(h:R (.own s.lns.length []) ⟨s.obs,s.lns++[(e,0)]⟩):altR g ⟨d,.buildSlice t 0 #[],ty,p,af,gd⟩ fr s R:=by
 intro w0 w G a hH hfr
 obtain⟨i,z,hu,hi,hiz,z1,z2,z3,z4⟩:=appT_parts ht
 have hce:P.cellsOf e=sz:=by simp[Program.cellsOf,hi,z2]
 have hrun:(Instr.buildSlice t 0 #[]).run P w=.ok (.slice (some ⟨w.heap.size,0,none⟩) 0 0) (w.alloc (.cells #[] e)):=by
  simp[Instr.buildSlice,run_underlying hu,sizeOf,typeInfo,hi,Instr.fill,newRow]
  exact congrArg (λx=>w.alloc (.cells x e)) (by simp[Array.range])
 have hown:=World.ownsRow_made (base:=w.heap.size) (e:=e) (size:=P.cellsOf e) w #[] 0 (Nat.le_refl _) (by unfold maxLen;omega) (by simp)
 obtain⟨hle,hN⟩:=hH.beginRow ((Kp.refl w).alloc _) s.lns.length (by simp) e hown
 rw[kn]at hN
 refine⟨.value (.slice (some ⟨w.heap.size,0,none⟩) 0 0),_,_,⟨s.obs,s.lns++[(e,0)]⟩,_,?_,.inl ⟨_,rfl,.own _ [] _ (.nil _ _) _ (aD _ _ _) (λi e h=>by simp at h) (.inl ⟨rfl,rfl⟩)⟩,hle,hN,h⟩
 simp[execOp,hrun]
def SpecY(_:Pg P)(f:FuncId)(args:List V)(e:TypeId)(es:List (List D)):Prop :=
 bD P f=true∧∀(w:World) (F:Nat→Nat→Value→Prop) (vs:List Value),(∀b o v,F b o v→b<w.heap.size∧w.cell? ⟨b,o,none⟩=some v)→gL w F→rels (bareG F) args vs →
  Calls P f ⟨vs⟩ w λen w'=>∃v xs,en=.returned v∧Kp w w'∧w'.ownsRow w.heap.size e (P.cellsOf e) v es.length xs∧∀F',gW F' (P.cellsOf e) es xs
theorem SpecY.toS{f:FuncId}{args args':List V}{e:TypeId}{es:List (List D)}(h:SpecY g f args' e es)(ha:args.map V.clean=args')(hR:R (.gr s.obs.length 0) ⟨s.obs++[[.rowc e 0 es]],s.lns⟩):SpecS g f args s R:=by
 subst ha
 refine⟨h.1,λw0 w G vs hH hr=>?_⟩
 refine (h.2 w G.F vs hH.fs (hH.gb.kp hH.kp) ?_).mono ?_
 ·refine⟨by simp[hr.1],λi x v h1 h2=>?_⟩
  rw[List.getElem?_map]at h1
  cases hq:args[i]? with
  | none=>rw[hq]at h1;cases h1
  | some y=>rw[hq]at h1;simp at h1;subst h1;exact eI (hr.2 i y v hq h2) G.F (λ_ _ _ q=>q)
 ·rintro en w' ⟨v,xs,rfl,hk,ho,hx⟩
  obtain⟨hle,hN⟩:=HRp.newRow hH hk s.obs.length (by simp) ho (hx G.F)
  rw[sg_push]at hN
  have hone:v.oneCell'=true:=by
   obtain⟨A,c,hv⟩:=dy ho
   rw[hv];rfl
  have hN':HR P w0 w' { G with rv:=upd G.rv s.obs.length ⟨0,P.cellsOf e,v⟩ } ⟨s.obs++[[.rowc e 0 es]],s.lns⟩:=hN
  exact⟨_,_,⟨s.obs++[[.rowc e 0 es]],s.lns⟩,_,rfl,hle,hN',.gr _ _ _ hone _ (aD _ _ _) (.inl ⟨rfl,rfl⟩),hR⟩
def YRes(s:Sg)(y:V)(e:TypeId)(es:List (List D)):Prop:=match y with
 | .own t es'=>es'=es∧s.lns[t]? = some (e,es.length)
 | .nil=>es=[]
 | _=>False
theorem specY_by{f:FuncId}{fn:Func}{c:Code}(hf:P.funcs[f]? = some fn)(hb:fn.body=some c)(he:bD P f=true)(hdr:cx c=true){args:List V}{e:TypeId}{es:List (List D)}(hes:scalE es=true)
  (h:SWs g c (retQ g fn.results.toList (λy s'=>YRes s' y e es)) (args++List.replicate (fn.ntmps-args.length) .undef) ⟨[],[]⟩):SpecY g f args e es:=by
 refine⟨he,λw F vs hF hgl hr=>?_⟩
 have hs:=gV hf hb he hdr h
 have hH:HR P w w (bareG F) ⟨[],[]⟩:=by
  refine⟨Kp.refl w,hF,λb o v q=>.inl q,?_,?_,?_,?_,?_,?_,hgl,λk b q=>(by cases q),λk b q=>(by cases q),λk k' b q=>(by cases q),λk b q=>(by cases q),λk L q=>(by cases q),λk k' L L' b q=>(by cases q),λb t q=>(by cases q)⟩
  ·intro k b q;cases q
  ·intro k cs q;simp at q
  ·intro k k' b q;cases q
  ·intro t L q;cases q
  ·intro t e n q;simp at q
  ·intro t t' L L' b q;cases q
 refine (hs.2 w w (bareG F) vs hH hr).mono ?_
 rintro en w' ⟨v,y,s',G',rfl,q1,q2,q3,q4⟩
 unfold YRes at q4
 split at q4
 ·rename_i t es'
  obtain⟨rfl,hl⟩:=q4
  obtain⟨vv,xs,g1,g2,g3⟩:=q2.lvl t e es'.length hl
  cases q3 with
  | own _ _ _ q L hL hszL hlast =>
   rw[g1]at hL;injection hL with hL;subst hL
   simp only at hszL hlast
   have hv:v=vv:=by rcases hlast with q | q;exact q.2;omega
   subst hv
   have g2:=g2.resolve_left (by rintro rfl;cases q)
   refine⟨v,xs,rfl,q2.kp,g2,λF'=>⟨hszL,λi j c x hc hx=>?_⟩⟩
   obtain⟨u,u1,u2⟩:=own_xs (λb o v q=>(q2.fs b o v q).2) q g2 hszL i j c x hc hx
   exact⟨u,u1,scal_any (scalE_at hes hc hx) u2⟩
 ·subst q4
  cases q3
  exact⟨_,[],rfl,q2.kp,World.ownsRow_nil _ _ _ _,λF'=>⟨λi e h=>by simp at h,λi j e x h=>by simp at h⟩⟩
 ·exact q4.elim
theorem alt_allocB{e:TypeId}{zv:Value}(ht:t=bT)(hz:(P.info? t).map (·.zero)=some (some zv))(hzc:zv.cells=#[.pointer none,.slice none 0 0])(h:R (.ptr s.obs.length 0) ⟨s.obs++[[.adr s.obs.length,.own s.lns.length []]],s.lns++[(e,0)]⟩):altR g ⟨d,.alloc t,ty,p,af,gd⟩ fr s R:=by
 intro w0 w G a hH hfr
 subst ht
 obtain⟨hle1,h1⟩:=HRp.begin hH s.lns.length (by simp) e
 rw[kn]at h1
 obtain⟨hle2,h2⟩:=HRp.new h1 s.obs.length (by simp) [.undef,.own s.lns.length []] [.pointer none,.slice none 0 0] bT
  (cb (.undef _) (cb (.own _ [] _ (.nil _ _) _ (aD _ _ _) (λi e h=>by simp at h) (.inl ⟨rfl,rfl⟩)) (eC _)))
 generalize hW:w.alloc (.cells ⟨[.pointer none,.slice none 0 0]⟩ bT)=w' at h2
 let G1:Cx:={ G with lv:=upd G.lv s.lns.length ⟨0,P.cellsOf e,.slice none 0 0⟩,ob:=upd G.ob s.obs.length w.heap.size }
 let G2:Cx:={ G1 with tg:=upd G.tg w.heap.size bT }
 have hnew:w'.heap[w.heap.size]? = some (.cells ⟨[.pointer none,.slice none 0 0]⟩ bT (0,0)):=by rw[←hW];exact heap_alloc_new w _
 have hfree:G.tg w.heap.size=none:=by
  cases hq:G.tg w.heap.size with
  | none=>rfl
  | some t=>have:=tag_lt (hH.tgs _ _ hq);omega
 have hle3:G1.le G2:=⟨rfl,λ_ _ _ q=>q,λ_ _ q=>q,λ_ L q=>⟨L,q,rfl,.inl rfl⟩,λ_ _ q=>q,λ_ L q=>⟨L,q,rfl,.inl rfl⟩,λb t q=>by
  show upd G.tg _ _ b=_
  rw[aL _ _ (λe=>by subst e;rw[show G1.tg w.heap.size=G.tg w.heap.size from rfl,hfree]at q;cases q)];exact q⟩
 have h3:HRp P w0 w' G2 (upd (λk=>s.obs[k]?) s.obs.length [.undef,.own s.lns.length []]) (λj=>(s.lns++[(e,0)])[j]?):=by
  refine⟨h2.kp,h2.fs,h2.fb,h2.obd,λk cs q hm hr=>?_,h2.obi,h2.lvd,h2.lvl,h2.lvi,h2.gb,h2.obm,h2.mpl,h2.mpi,h2.obr,h2.rvl,h2.rvi,λb t q=>?_⟩
  ·obtain⟨b,vs,t',q1,q2,q3,q4,q5⟩:=h2.obl k cs q hm hr
   exact⟨b,vs,t',q1,q2,q3,cP hle3 q4,q5⟩
  ·have q':upd G.tg w.heap.size bT b=some t:=q
   by_cases eb:b=w.heap.size
   ·subst eb
    rw[aD]at q';injection q' with q';subst q'
    unfold tagOf;rw[hnew]
   ·rw[aL _ _ eb]at q'
    exact h2.tgs b t q'
 have hrels:rels G2 [.adr s.obs.length,.own s.lns.length []] [.pointer none,.slice none 0 0] :=
  cb (.adr _ _ w.heap.size (aD _ _ _) (aD _ _ _) (.inl rfl)) (cb (.own _ [] _ (.nil _ _) _ (aD _ _ _) (λi e h=>by simp at h) (.inl ⟨rfl,rfl⟩)) (eC _))
 have h4:=HRp.put (k:=s.obs.length) (b:=w.heap.size) h3 (aD _ _ _) (w':=w') ⟨rfl,rfl,rfl,Nat.le_refl _,λ_ _ _=>rfl⟩ (λ_ _ q=>q) hnew hrels
 have e1:upd (upd (λk=>s.obs[k]?) s.obs.length [.undef,.own s.lns.length []]) s.obs.length [.adr s.obs.length,.own s.lns.length []]=upd (λk=>s.obs[k]?) s.obs.length [.adr s.obs.length,.own s.lns.length []]:=by
  funext j
  by_cases e:j=s.obs.length
  ·subst e;rw[aD,aD]
  ·rw[aL _ _ e,aL _ _ e,aL _ _ e]
 rw[e1,sg_push]at h4
 have hrun:(Instr.alloc bT true (.tuple #[])).run P w=.ok (.pointer (some ⟨w.heap.size,0,none⟩)) w':=by
  obtain⟨i,hi,hz'⟩:=Option.map_eq_some_iff.1 hz
  rw[←hW]
  simp[Instr.alloc,zeroValue,typeInfo,hi,hz',hzc,newVar,newRow]
 have h4':HR P w0 w' G2 ⟨s.obs++[[.adr s.obs.length,.own s.lns.length []]],s.lns++[(e,0)]⟩:=h4
 exact⟨.value (.pointer (some ⟨w.heap.size,0,none⟩)),w',_,⟨s.obs++[[.adr s.obs.length,.own s.lns.length []]],s.lns++[(e,0)]⟩,G2,by simp[execOp,hrun],.inl ⟨_,rfl,.ptr _ 0 _ (aD _ _ _)⟩,(hle1.trans hle2).trans hle3,h4',h⟩
end
def SpecZ{P:Program}(_:Pg P)(f:FuncId)(args:List V)(e:TypeId)(es:List (List D))(Y:V→V):Prop :=
 bD P f=true∧∀(w:World) (F:Nat→Nat→Value→Prop) (vs:List Value),(∀b o v,F b o v→b<w.heap.size∧w.cell? ⟨b,o,none⟩=some v)→gL w F→rels (bareG F) args vs →
  Calls P f ⟨vs⟩ w λen w'=>∃u v xs,en=.returned u∧Kp w w'∧w'.ownsRow w.heap.size e (P.cellsOf e) v es.length xs∧(∀F',gW F' (P.cellsOf e) es xs)∧∀G x,rel G x v→rel G (Y x) u
theorem SpecZ.toS{P:Program}{g:Pg P}{f:FuncId}{args args':List V}{e:TypeId}{es:List (List D)}{Y:V→V}{s:Sg}{R:V→Sg→Prop}(h:SpecZ g f args' e es Y)(ha:args.map V.clean=args')(hR:R (Y (.gr s.obs.length 0)) ⟨s.obs++[[.rowc e 0 es]],s.lns⟩):SpecS g f args s R:=by
 subst ha
 refine⟨h.1,λw0 w G vs hH hr=>?_⟩
 refine (h.2 w G.F vs hH.fs (hH.gb.kp hH.kp) ?_).mono ?_
 ·refine⟨by simp[hr.1],λi x v h1 h2=>?_⟩
  rw[List.getElem?_map]at h1
  cases hq:args[i]? with
  | none=>rw[hq]at h1;cases h1
  | some y=>rw[hq]at h1;simp at h1;subst h1;exact eI (hr.2 i y v hq h2) G.F (λ_ _ _ q=>q)
 ·rintro en w' ⟨u,v,xs,rfl,hk,ho,hx,hu⟩
  obtain⟨hle,hN⟩:=HRp.newRow hH hk s.obs.length (by simp) ho (hx G.F)
  rw[sg_push]at hN
  have hN':HR P w0 w' { G with rv:=upd G.rv s.obs.length ⟨0,P.cellsOf e,v⟩ } ⟨s.obs++[[.rowc e 0 es]],s.lns⟩:=hN
  have hone:v.oneCell'=true:=by
   obtain⟨A,c,hv⟩:=dy ho
   rw[hv];rfl
  exact⟨_,_,⟨s.obs++[[.rowc e 0 es]],s.lns⟩,_,rfl,hle,hN',hu _ _ (.gr _ _ _ hone _ (aD _ _ _) (.inl ⟨rfl,rfl⟩)),hR⟩
def V.cleanZ(s:Sg):V→V
 | .agg xs=>.agg (xs.map (V.cleanS s))
 | x=>V.cleanS s x
theorem cleanS_rel{P:Program}{w0 w:World}{G:Cx}{s:Sg}(hH:HR P w0 w G s){y:V}{v:Value}(ry:rel G y v):rel (bareG λb o u=>G.F b o u∨w.cell? ⟨b,o,none⟩=some u) (V.cleanS s y) v:=by
 have dflt:rel (bareG λb o u=>G.F b o u∨w.cell? ⟨b,o,none⟩=some u) y.clean v:=eI ry _ (λ_ _ _ q=>.inl q)
 unfold V.cleanS
 split
 ·rename_i k n
  split
  ·rename_i e ver es ho
   split
   ·rename_i hn
    obtain⟨L,xs,a1,a2,a3,a4,a5,a6⟩:=inv_gr hH ry (hn▸ho)
    by_cases h0:es.length=0
    ·have:es=[]:=zA h0
     subst this
     obtain⟨A,c,rfl⟩:=dy a5
     exact .d (.nil _ _)
    ·obtain⟨b,cap,rfl,_⟩:=a5.form (by omega)
     have hcap:es.length≤cap:=by
      rcases a5.2 with⟨z1,z2⟩|⟨g',cap',cur,z1,_,_,z3,_⟩
      ·cases z1
      ·injection z1 with _ _ z1;omega
     refine .d (.list es b 0 cap L.sz (λi j=>(xs[i*L.sz+j]?).getD Go.undef) (by omega) hcap a6.1 (λi j c x hc hx=>?_) (λi j c x hc hx=>?_))
     ·obtain⟨u,u1,u2⟩:=a6.2 i j c x hc hx
      rw[u1]
      have:=a5.cells (g:=b) rfl _ u u1
      rw[Addr.add_lit]at this
      refine .inr ?_
      rw[Nat.zero_add]at this ⊢
      exact this
     ·obtain⟨u,u1,u2⟩:=a6.2 i j c x hc hx
      rw[u1]
      exact bt (λ_ _ _ q=>.inl q) u2
   ·exact .undef _
  ·exact .undef _
 ·exact dflt
theorem cleanZ_rel{P:Program}{w0 w:World}{G:Cx}{s:Sg}(hH:HR P w0 w G s){y:V}{v:Value}(ry:rel G y v):rel (bareG λb o u=>G.F b o u∨w.cell? ⟨b,o,none⟩=some u) (V.cleanZ s y) v:=by
 unfold V.cleanZ
 split
 ·rename_i ys
  cases ry with
  | agg _ vs hl h =>
   refine .agg _ vs (by simpa using hl) λi x v h1 h2=>?_
   rw[List.getElem?_map]at h1
   cases hq:ys[i]? with
   | none=>rw[hq]at h1;cases h1
   | some z=>rw[hq]at h1;simp at h1;subst h1;exact cleanS_rel hH (h i z v hq h2)
 ·exact cleanS_rel hH ry
theorem SpecS.byZ{P:Program}{g:Pg P}{f:FuncId}{args args':List V}{r:V}{s:Sg}{R:V→Sg→Prop}(h:Spec g f args' r)(ha:args.map (V.cleanZ s)=args')(hp:r.plainT=true)(hR:R r s):SpecS g f args s R:=by
 subst ha
 refine⟨h.1,λw0 w G vs hH hr=>?_⟩
 refine (h.2 w (λb o u=>G.F b o u∨w.cell? ⟨b,o,none⟩=some u) vs ?_ ((hH.gb.kp hH.kp).mono λ_ _ _ q=>.inl q) ?_).mono ?_
 ·rintro b o u (q | q)
  ·exact hH.fs b o u q
  ·exact⟨cell_lt q,q⟩
 ·refine⟨by simp[hr.1],λi x v h1 h2=>?_⟩
  rw[List.getElem?_map]at h1
  cases hq:args[i]? with
  | none=>rw[hq]at h1;cases h1
  | some y=>rw[hq]at h1;simp at h1;subst h1;exact cleanZ_rel hH (hr.2 i y v hq h2)
 ·rintro en w' ⟨v,rfl,hk,hv⟩
  exact⟨v,r,s,G,rfl,Cx.le.refl G,hH.kept hk,plainT_any hp hv,hR⟩
end Go.Proofs.YtplhejpjnfjopaaGreatDoor
