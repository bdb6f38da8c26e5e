/-
  Sh, Si, Sj in one text.
-/
import Derived.Test.YtphbhdoljnokkaaGreatDoorS1
import Derived.Lib.ConvBytes
open List renaming eq_nil_of_length_eq_zero → zA,nil_append → zG,size_toArray → zL,getElem_mem → zM,range → zQ,length_nil → zR
open Nat renaming mul_le_mul_right → zB,le_refl → zD,lt_or_ge → zE,zero_add → zF,pos_of_ne_zero → zH,div_lt_iff_lt_mul → zI,mul_le_mul → zJ,eq_zero_or_pos → zK,mod_eq_of_lt → zO
namespace Go.Proofs.YtphbhdoljnokkaaGreatDoor
open Go.RowKit
inductive Ef where
 | none
 | alloc (cs:List V)
 | store (k:Nat) (cs:List V)
 | app (t:Nat) (e:TypeId) (n:Nat)
def Ef.obs(f:Ef)(obs:Nat→Option (List V))(k:Nat):Nat→Option (List V):=match f with | .alloc cs=>upd obs k cs | .store j cs=>upd obs j cs | _=>obs
def Ef.lns(f:Ef)(lns:Nat→Option (TypeId×Nat)):Nat→Option (TypeId×Nat):=match f with | .app t e n=>upd lns t (e,n) | _=>lns
def lN(sz:Nat):Nat→List D→List (List D)
 | 0,_=>[]
 | n+1,ds=>ds.take sz::lN sz n (ds.drop sz)
theorem pS(sz:Nat):∀(n:Nat) (ds:List D),(lN sz n ds).length=n
 | 0,_=>rfl
 | n+1,ds=>by simp[lN,pS sz n]
theorem pb(sz:Nat):∀(n:Nat) (ds:List D) (i j:Nat) (e:List D),n*sz≤ds.length→(lN sz n ds)[i]? = some e→e.length=sz∧(j<sz→e[j]? = ds[i*sz+j]?)
 | 0,_,i,j,e,_,h=>by grind[lN]
 | n+1,ds,i,j,e,hl,h=>by
  rw[Nat.succ_mul]at hl
  cases i with
  | zero =>
   simp[lN]at h;grind
  | succ i =>
   simp only[lN,List.getElem?_cons_succ]at h
   obtain⟨h1,h2⟩:=pb sz n (ds.drop sz) i j e (by simp;omega) h
   grind
variable {G:Cx}{e:TypeId}{len sz:Nat}{w:World}
theorem fresh_row{ds:List D}{ws:List Value}(hl:ds.length=ws.length)(hr:∀(i:Nat) (x:D) (v:Value),ds[i]? = some x→ws[i]? = some v→relD G.F x v)(hn:len*sz=ds.length) :
  relD (G.withF (fresh w (w.alloc (.cells ⟨ws⟩ e)))).F (.list (lN sz len ds)) (.slice (some ⟨w.heap.size,0,none⟩) len len):=by
 have hlen:=pS sz len ds
 by_cases h0:len=0
 ·subst h0
  exact .nil _ _
 ·have key:=relD.list (F:=(G.withF (fresh w (w.alloc (.cells ⟨ws⟩ e)))).F) (lN sz len ds) w.heap.size 0 len sz (λi j=>ws.getD (i*sz+j) undef) (by omega) (by omega)
   (λi c hc=>(pb sz len ds i 0 c (by omega) hc).1)
   (λi j c x hc hx=>by
    obtain⟨q1,q2⟩:=pb sz len ds i j c (by omega) hc
    have hj:=aF hx
    rw[q2 (by omega)]at hx
    have hlt:=aF hx
    right
    refine⟨zD _,?_⟩
    simp_all)
   (λi j c x hc hx=>by
    obtain⟨q1,q2⟩:=pb sz len ds i j c (by omega) hc
    have hj:=aF hx
    rw[q2 (by omega)]at hx
    have hlt:=aF hx
    refine b8 (λ_ _ _ q=>.inl q) (hr _ x _ hx ?_)
    simp_all)
  simp_all
variable {F:Nat→Nat→Value→Prop}{v:Value}
theorem relD_one{x:D}(r:relD F x v):v.oneCell'=true:=by cases r<;>first | rfl | assumption
variable {ys:List (List D)}
theorem oW{v:Value}(hF:∀b o v,F b o v→w.cell? ⟨b,o,none⟩=some v)(r:relD F (.list ys) v)(hpos:0<ys.length)(hsz:ys.all (·.length==sz)=true) :
  ∃b off c,∃news:List Value,v=.slice (some ⟨b,off,none⟩) ys.length c∧news.length=ys.length*sz∧(∀(j:Nat) u,news[j]? = some u→w.cell? ((⟨b,off,none⟩:Addr).add j)=some u)∧(∀u∈news,u.oneCell'=true) ∧
   ∀(i j:Nat) (e:List D) (x:D),ys[i]? = some e→e[j]? = some x→∃u,news[i*sz+j]? = some u∧relD F x u:=by
 cases r with
 | nil A c=>simp at hpos
 | list _ b off c sz' u hne hcap hs hFc hr =>
  have e0:sz'=sz:=by
   have q:=List.all_eq_true.1 hsz ys[0] (zM _)
   have q2:=hs 0 ys[0] (List.getElem?_eq_getElem hne)
   simp_all
  subst e0
  refine⟨b,off,c,(zQ (ys.length*sz')).map (λq=>u (q / sz') (q % sz')),rfl,by simp,?_,?_,?_⟩
  ·intro j v hv
   rw[List.getElem?_map]at hv
   cases hq:(zQ (ys.length*sz'))[j]? with
   | none=>simp_all
   | some q =>
    have hj:j<ys.length*sz':=by grind
    rw[List.getElem?_range hj]at hq;injection hq with hq;subst hq
    rw[List.getElem?_range hj]at hv;simp at hv;subst hv
    have hz:0<sz':=zH (λh=>by simp_all)
    have hi:j / sz'<ys.length:=(zI hz).2 hj
    have he:=List.getElem?_eq_getElem hi
    have hel:=hs _ _ he
    have hm:j % sz'<(ys[j / sz']).length:=by simp_all[Nat.mod_lt]
    have:=hFc _ _ _ _ he (List.getElem?_eq_getElem hm)
    grind[Addr.add_lit,Nat.div_add_mod']
  ·intro v hv
   obtain⟨q,hq,rfl⟩:=List.mem_map.1 hv
   have hj:q<ys.length*sz':=List.mem_range.1 hq
   have hz:0<sz':=zH (λh=>by simp_all)
   have hi:q / sz'<ys.length:=(zI hz).2 hj
   have he:=List.getElem?_eq_getElem hi
   have hel:=hs _ _ he
   have hm:q % sz'<(ys[q / sz']).length:=by simp_all[Nat.mod_lt]
   exact relD_one (hr _ _ _ _ he (List.getElem?_eq_getElem hm))
  ·intro i j e x he hx
   have hel:=hs _ _ he
   have hj:j<sz':=by grind
   have hi:=aF he
   refine⟨u i j,?_,hr i j e x he hx⟩
   have hq:i*sz'+j<ys.length*sz':=by
    have:(i+1)*sz'≤ys.length*sz':=zB _ (by omega)
    grind
   rw[List.getElem?_map,List.getElem?_range hq]
   have hz:0<sz':=by omega
   simp_all[Nat.add_comm,Nat.add_mul_div_right,Nat.div_eq_of_lt,zO]
def appT(P:Program)(t:TypeId):Option (TypeId×Nat) :=
 match P.underlying t with
 | some (.slice e)=>match P.info? e with
  | some i=>match i.zero with
   | some z=>if z.cells.size=i.size∧0<i.size∧i.bytes≤8000000 then some (e,i.size)else none
   | none=>none
  | none=>none
 | _=>none
variable {P:Program}{ty:TypeId}
theorem qT{t:TypeId}{i:TypeInfo}(ht:P.underlying t=some (.slice e))(hi:P.info? e=some i)(A B:Option Addr)(n c c':Nat)(hn:n≤c) :
  (Builtin.append_ #[t,t] ty #[.slice A n c,.slice B 0 c']).run P w=.ok (.slice A n c) w:=by
 cases A<;>cases B<;>simp[Builtin.append_,run_underlying ht,sizeOf,typeInfo,hi,Builtin.lenOf,Builtin.firstCells,loadCells,loadCellsFrom,storeCells,hn,program,Sem.run]
variable {es:List (List D)}{n:Nat}
theorem own_xs{v:Value}{base:Nat}{xs:List Value}(hF:∀b o v,F b o v→w.cell? ⟨b,o,none⟩=some v)(r:relD F (.list es) v)(hown:w.ownsRow base e sz v n xs)(hsz:∀(i:Nat) (c:List D),es[i]? = some c→c.length=sz)(i j:Nat)(c:List D)(x:D)(hc:es[i]? = some c)(hx:c[j]? = some x) :
  ∃u,xs[i*sz+j]? = some u∧relD F x u:=by
 have hi:=aF hc
 cases r with
 | nil A c'=>simp at hc
 | list _ b off c' sz' u hne hcap hs hFc hr =>
  have e1:sz'=sz:=by grind
  subst e1
  obtain⟨g,cap,hv,_,_⟩:=hown.form (by
   rcases hown.2 with⟨h,_⟩|⟨g,cap,cur,h,_⟩<;>simp_all)
  injection hv with h1 h2 h3
  injection h1 with h1
  injection h1 with h1 h4 h5
  subst h1;subst h4
  refine⟨u i j,?_,hr i j c x hc hx⟩
  have hcell:=hF _ _ _ (hFc i j c x hc hx)
  have hj:j<sz':=by grind
  have hlt:i*sz'+j<xs.length:=by
   rw[hown.1,←h2]
   have:(i+1)*sz'≤es.length*sz':=zB _ (by omega)
   grind
  have:=hown.cells (g:=b) rfl (i*sz'+j) xs[i*sz'+j] (List.getElem?_eq_getElem hlt)
  simp_all[Addr.add_lit]
def SrcOk(w:World)(F:Nat→Nat→Value→Prop)(sz:Nat)(ys:List (List D))(v:Value):Prop :=
 (ys.length=0→∃B c,v=.slice B 0 c)∧(0<ys.length →
  ∃b off c,∃news:List Value,v=.slice (some ⟨b,off,none⟩) ys.length c∧news.length=ys.length*sz∧(∀(j:Nat) u,news[j]? = some u→w.cell? ((⟨b,off,none⟩:Addr).add j)=some u)∧(∀u∈news,u.oneCell'=true) ∧
   ∀(i j:Nat) (e:List D) (x:D),ys[i]? = some e→e[j]? = some x→∃u,news[i*sz+j]? = some u∧relD F x u)
theorem SrcOk.list{v:Value}(hF:∀b o v,F b o v→w.cell? ⟨b,o,none⟩=some v)(r:relD F (.list ys) v)(hsz:ys.all (·.length==sz)=true):SrcOk w F sz ys v :=
 ⟨λhy=>by grind[nJ],λhy=>oW hF r hy hsz⟩
variable {t:Nat}{tt:TypeId}{vx:Value}{w0:World}
theorem app_src{w:World}{G:Cx}{obs:Nat→Option (List V)}{lns:Nat→Option (TypeId×Nat)}(h:HRp P w0 w G obs lns)(ht:appT P tt=some (e,sz))(hl:lns t=some (e,es.length))
  (r:rel G (.own t es) v) (ry:SrcOk w G.F sz ys vx) (hsz:ys.all (·.length==sz)=true) (hb:es.length+ys.length≤16777216) :
  ∃u w' G',(Builtin.append_ #[tt,tt] ty #[v,vx]).run P w=.ok u w'∧G.le G'∧HRp P w0 w' G' obs (upd lns t (e,es.length+ys.length))∧rel G' (.own t (es++ys)) u:=by
 have hF:=λb o v q=>(h.fs b o v q).2
 unfold appT at ht
 split at ht
 ·rename_i e' hu
  split at ht
  ·rename_i i hi
   split at ht
   ·rename_i z hz
    split at ht
    ·rename_i hc
     injection ht with ht
     injection ht with h1 h2
     subst h1;subst h2
     obtain⟨v0,xs,g1,g2,g3⟩:=h.lvl t e' es.length hl
     have hce:P.cellsOf e'=i.size:=by simp[Program.cellsOf,hi]
     cases r with
     | own _ _ _ q L hL hs hlast =>
      rw[g1]at hL;injection hL with hL;subst hL
      simp only at hs hlast
      have hv:v=v0:=by simp_all
      subst hv
      have g2:=g2.resolve_left (by rintro rfl;cases q)
      by_cases hy:ys.length=0
      ·have:ys=[]:=zA hy
       subst this
       obtain⟨B,c',rfl⟩:=ry.1 rfl
       obtain⟨A,c,rfl⟩:=gI g2
       have hn:es.length≤c:=by
        rcases g2.2 with⟨h1,h2⟩|⟨g,cap,cur,h1,_,_,h3,_⟩<;>simp_all
       refine⟨_,w,G,qT hu hi A B es.length c c' hn,Cx.le.refl G,?_,?_⟩
       ·have:upd lns t (e',es.length+([]:List (List D)).length)=lns:=by
         grind[aG,aU]
        simp_all
       ·rw[List.append_nil]
        exact .own t es _ q _ g1 hs (.inl ⟨rfl,rfl⟩)
      ·obtain⟨b,off,c,news,rfl,n1,n2,n3,n4⟩:=ry.2 (by omega)
       rw[hce]at g2
       have h63:es.length+ys.length≤maxLen:=by grind[maxLen]
       have hby:(es.length+ys.length)*i.bytes≤140737488355328:=by
        have:=zJ hb hc.2.2
        omega
       obtain⟨gg,cap,w',a1,a2,a3⟩:=qh (P:=P) w tt ty e' i z w0.heap.size hu hi hz hc.1 v es.length xs g2 ⟨b,off,none⟩ ys.length c news n1 n2 n3 (by omega) h63 hby h.kp.size
       rw[←hce]at g2 a2
       obtain⟨hle,hH⟩:=h.app hl g1 g2 a2 (by omega) a3
       refine⟨_,w',_,a1,hle,hH,?_⟩
       have hcap:es.length+ys.length≤cap:=by
        rcases a2.2 with⟨h1,h2⟩|⟨g,cap',cur,h1,_,_,h3,_⟩<;>simp_all
       have hlen:(es++ys).length=es.length+ys.length:=by simp
       have hcl:∀(k:Nat) (c:List D),(es++ys)[k]? = some c→c.length=P.cellsOf e':=by
        grind
       have hval:∀(k j:Nat) (c:List D) (x:D),(es++ys)[k]? = some c→c[j]? = some x→∃u,(xs++news)[k*P.cellsOf e'+j]? = some u∧relD G.F x u:=by
        intro k j c x hk hx
        have hj:j<P.cellsOf e':=by grind
        rcases zE k es.length with hlt | hge
        grind[own_xs]
        ·rw[List.getElem?_append_right hge]at hk
         obtain⟨u,u1,u2⟩:=n4 _ j c x hk hx
         refine⟨u,?_,u2⟩
         have e1:xs.length=es.length*P.cellsOf e':=g2.1
         rw[List.getElem?_append_right (by rw[e1];exact Nat.le_trans (zB _ hge) (by omega))]
         rw[←u1]
         congr 1
         rw[e1,Nat.sub_mul,hce]
         have:es.length*i.size≤k*i.size:=zB _ hge
         omega
       refine .own t (es++ys) _ ?_ _ (aG _ _ _) hcl (.inl ⟨hlen,rfl⟩)
       have key:=relD.list (F:=λb o u=>G.F b o u∨(b=gg∧o<(es.length+ys.length)*P.cellsOf e'∧w'.cell? ⟨gg,o,none⟩=some u)) (es++ys) gg 0 cap (P.cellsOf e') (λi j=>((xs++news)[i*P.cellsOf e'+j]?).getD undef) (by omega) (by omega) hcl
        (λk j c x hk hx=>by
         obtain⟨u,u1,u2⟩:=hval k j c x hk hx
         right
         have hj:j<P.cellsOf e':=by grind
         have hk':=aF hk
         refine⟨rfl,?_,?_⟩
         ·rw[zF]
          have:(k+1)*P.cellsOf e'≤(es.length+ys.length)*P.cellsOf e':=zB _ (by omega)
          grind
         ·have:=a2.cells (g:=gg) rfl _ u u1
          simp_all[Addr.add_lit])
        (λk j c x hk hx=>by
         grind[b8])
       simp_all
    ·cases ht
   ·cases ht
  ·cases ht
 ·cases ht
theorem app_ok{w:World}{G:Cx}{obs:Nat→Option (List V)}{lns:Nat→Option (TypeId×Nat)}(h:HRp P w0 w G obs lns)(ht:appT P tt=some (e,sz))(hl:lns t=some (e,es.length))
  (r:rel G (.own t es) v) (ry:relD G.F (.list ys) vx) (hsz:ys.all (·.length==sz)=true) (hb:es.length+ys.length≤16777216) :
  ∃u w' G',(Builtin.append_ #[tt,tt] ty #[v,vx]).run P w=.ok u w'∧G.le G'∧HRp P w0 w' G' obs (upd lns t (e,es.length+ys.length))∧rel G' (.own t (es++ys)) u :=
 app_src h ht hl r (SrcOk.list (λb o v q=>(h.fs b o v q).2) ry hsz) hsz hb
theorem appfull_ok{w:World}{G:Cx}{obs:Nat→Option (List V)}{lns:Nat→Option (TypeId×Nat)}(h:HRp P w0 w G obs lns)(hn:lns t=none)(ht:appT P tt=some (e,sz))
  (r:rel G (.full es) v) (ry:relD G.F (.list ys) vx) (hsz:ys.all (·.length==sz)=true) (hse:es.all (·.length==sz)=true) (hpos:0<ys.length) (hb:es.length+ys.length≤16777216) :
  ∃u w' G',(Builtin.append_ #[tt,tt] ty #[v,vx]).run P w=.ok u w'∧G.le G'∧HRp P w0 w' G' obs (upd lns t (e,es.length+ys.length))∧rel G' (.own t (es++ys)) u:=by
 have hF:=λb o v q=>(h.fs b o v q).2
 unfold appT at ht
 split at ht
 ·rename_i e' hu
  split at ht
  ·rename_i i hi
   split at ht
   ·rename_i z hz
    split at ht
    ·rename_i hc
     injection ht with ht
     injection ht with h1 h2
     subst h1;subst h2
     have hce:P.cellsOf e'=i.size:=by simp[Program.cellsOf,hi]
     obtain⟨b,off,c,news,rfl,n1,n2,n3,n4⟩:=oW hF ry hpos hsz
     have h63:es.length+ys.length≤maxLen:=by grind[maxLen]
     have hby:(es.length+ys.length)*i.bytes≤140737488355328:=by
      have:=zJ hb hc.2.2
      omega
     -- the cells that are there
     have hold:∃xs:List Value,xs.length=es.length*i.size∧(∀(k j:Nat) (c:List D) (x:D),es[k]? = some c→c[j]? = some x→∃u,xs[k*i.size+j]? = some u∧relD G.F x u) ∧
       ∃cap w',(Builtin.append_ #[tt,tt] ty #[v,.slice (some ⟨b,off,none⟩) ys.length c]).run P w=.ok (.slice (some ⟨w.heap.size,0,none⟩) (es.length+ys.length) cap) w'∧w'.ownsRow w0.heap.size e' i.size (.slice (some ⟨w.heap.size,0,none⟩) (es.length+ys.length) cap) (es.length+ys.length) (xs++news)∧Kp w w':=by
      have grown:∀(old:Nat) (xs:List Value),xs.length=es.length*i.size →
        (w.drew.alloc (.cells (xs.toArray++news.toArray++Builtin.zeroCells z.cells (grownCap w (es.length+ys.length) old e'-(es.length+ys.length))) e')).ownsRow w0.heap.size e' i.size
         (.slice (some ⟨w.heap.size,0,none⟩) (es.length+ys.length) (grownCap w (es.length+ys.length) old e')) (es.length+ys.length) (xs++news):=by
       intro old xs hxl
       have hge:=grownCap_ge w (es.length+ys.length) old e'
       have hcm:grownCap w (es.length+ys.length) old e'≤maxLen:=grownCap_le_maxLen w (es.length+ys.length) old e' h63
       have hlen:(xs++news).length=(es.length+ys.length)*i.size:=by grind
       refine⟨hlen,.inr ⟨w.heap.size,_,_,rfl,h.kp.size,heap_alloc_new w.drew _,hge,hcm,?_,?_⟩⟩
       ·simp only[Array.size_append,zL,size_zeroCells,hc.1,hxl,n1,←Nat.add_mul]
        simp_all
       grind
      cases r with
      | full _ A q =>
       rcases zK es.length with he0 | he0
       ·have:es=[]:=zA he0
        subst this
        refine⟨[],by simp,λk j c x hk=>by simp at hk,?_⟩
        have hgr:=grown 0 [] (by simp)
        cases A with
        | none =>
         have hr:=run_append_nil (P:=P) w tt ty e' i z hu hi hz ⟨b,off,none⟩ ys.length c news n1 n2 hpos (by omega) (by grind)
         simp only[zR,zF,zG,Array.empty_append]at hgr ⊢
         exact⟨_,_,hr,hgr,((Kp.refl w).drew).alloc _⟩
        | some ad =>
         have hr:=run_append_grow (P:=P) w tt ty e' i z hu hi hz ad 0 0 [] (by simp) (λj u hj=>by simp at hj) ⟨b,off,none⟩ ys.length c news n1 n2 (by omega) (by omega) (growslice_fits (by omega) (by omega))
         simp only[zR,zF,zG,Array.empty_append]at hgr hr ⊢
         exact⟨_,_,hr,hgr,((Kp.refl w).drew).alloc _⟩
       ·obtain⟨b2,off2,c2,olds,hv,m1,m2,m3,m4⟩:=oW hF q he0 hse
        injection hv with hv1 hv2 hv3
        subst hv1
        refine⟨olds,m1,m4,?_⟩
        have hr:=run_append_grow (P:=P) w tt ty e' i z hu hi hz ⟨b2,off2,none⟩ es.length es.length olds m1 m2 ⟨b,off,none⟩ ys.length c news n1 n2 (by omega) (by omega) (growslice_fits (by omega) hby)
        exact⟨_,_,hr,grown es.length olds m1,((Kp.refl w).drew).alloc _⟩
     obtain⟨xs,x1,x2,cap,w',a1,a2,a3⟩:=hold
     obtain⟨b1,b2⟩:=h.begin t hn e'
     have hown0:w.ownsRow w0.heap.size e' (P.cellsOf e') (.slice none 0 0) 0 []:=World.ownsRow_nil _ _ _ _
     have a2':=a2
     rw[←hce]at a2
     obtain⟨hle,hH⟩:=HRp.app (n:=0) (m:=es.length+ys.length) (g:=w.heap.size) (cap:=cap) (news:=xs++news) (w':=w') b2 (aG _ _ _) (aG _ _ _) hown0 (by simp_all) (by omega) (.inr ⟨rfl,a3⟩)
     have hup:upd (upd lns t (e',0)) t (e',0+(es.length+ys.length))=upd lns t (e',es.length+ys.length):=by
      grind[aG,aU]
     rw[hup]at hH
     refine⟨_,w',_,a1,b1.trans hle,hH,?_⟩
     have hcap:es.length+ys.length≤cap:=by
      rcases a2.2 with⟨h1,h2⟩|⟨g,cap',cur,h1,_,_,h3,_⟩<;>simp_all
     have hlen:(es++ys).length=es.length+ys.length:=by simp
     have hcl:∀(k:Nat) (c:List D),(es++ys)[k]? = some c→c.length=P.cellsOf e':=by
      grind
     have hval:∀(k j:Nat) (c:List D) (x:D),(es++ys)[k]? = some c→c[j]? = some x→∃u,(xs++news)[k*P.cellsOf e'+j]? = some u∧relD G.F x u:=by
      intro k j c x hk hx
      rw[hce]
      rcases zE k es.length with hlt | hge
      grind
      ·rw[List.getElem?_append_right hge]at hk
       obtain⟨u,u1,u2⟩:=n4 _ j c x hk hx
       refine⟨u,?_,u2⟩
       rw[List.getElem?_append_right (by rw[x1];exact Nat.le_trans (zB _ hge) (by omega))]
       rw[←u1]
       congr 1
       rw[x1,Nat.sub_mul]
       have:es.length*i.size≤k*i.size:=zB _ hge
       omega
     refine .own t (es++ys) _ ?_ ⟨0+(es.length+ys.length),P.cellsOf e',.slice (some ⟨w.heap.size,0,none⟩) (0+(es.length+ys.length)) cap⟩ (aG _ _ _) hcl (.inl ⟨by simp,by simp⟩)
     have key:=relD.list (F:=λb o u=>G.F b o u∨(b=w.heap.size∧o<(0+(es.length+ys.length))*P.cellsOf e'∧w'.cell? ⟨w.heap.size,o,none⟩=some u)) (es++ys) w.heap.size 0 cap (P.cellsOf e') (λi j=>((xs++news)[i*P.cellsOf e'+j]?).getD undef) (by omega) (by omega) hcl
      (λk j c x hk hx=>by
       obtain⟨u,u1,u2⟩:=hval k j c x hk hx
       right
       have hj:j<P.cellsOf e':=by grind
       have hk':=aF hk
       refine⟨rfl,?_,?_⟩
       grind
       ·have:=a2.cells (g:=w.heap.size) rfl _ u u1
        simp_all[Addr.add_lit])
      (λk j c x hk hx=>by
       grind[b8])
     simp_all
    ·cases ht
   ·cases ht
  ·cases ht
 ·cases ht
theorem appT_und(ht:appT P tt=some (e,sz)):∃i,P.underlying tt=some (.slice e)∧P.info? e=some i:=by
 grind[appT]
set_option linter.unusedSimpArgs false
set_option linter.unusedVariables false
theorem qz(P:Program)(w:World)(e:TypeId)(cs:Array Value):(newRow e cs).run P w=.ok ⟨w.heap.size,0,none⟩ (w.alloc (.cells cs e)):=rfl
def cd(n:Nat):Bool:=Nat.ble n 16777216
theorem g8(h:cd n=true):n≤16777216:=Nat.le_of_ble_eq_true h
theorem br(h:n≤16777216):cd n=true:=Nat.ble_eq_true_of_le h
@[simp] theorem okLen_small(n:Nat)(h:n≤64):cd n=true:=br (by omega)
def reps:Nat→List V→List V
 | 0,_=>[]
 | n+1,zs=>zs++reps n zs
theorem reps_len(zs:List V):∀n,(reps n zs).length=n*zs.length
 | 0=>by simp[reps]
 | n+1=>by simp[reps,reps_len zs n,Nat.succ_mul];omega
theorem reps_at(zs:List V)(x:V):∀(n i:Nat),(reps n zs)[i]? = some x→zs[i % zs.length]? = some x
 | 0,i,h=>by grind[reps]
 | n+1,i,h=>by
  unfold reps at h
  rcases zE i zs.length with q | q
  simp_all[List.getElem?_append_left,zO]
  ·rw[List.getElem?_append_right q]at h
   have:=reps_at zs x n (i-zs.length) h
   simp_all[Nat.mod_eq_sub_mod]
def rowV(P:Program)(t:TypeId)(len k:Nat)(parts:List (Nat×V)):Option (V×Ef) :=
 match P.underlying t with
 | some (.slice e)=>match bs P e,eT P e with
  | some sz,some z=>match z.cells? with
   | some zs =>
    if zs.length=sz∧cd (len*sz)=true then
     match nV (λi=>some (i*sz,sz)) (reps len zs) parts with
     | some out=>match ip out with
      | some ds=>some (.full (lN sz len ds),.none)
      | none=>some (.sl k 0 len len,.alloc out)
     | none=>none
    else none
   | none=>none
  | _,_=>none
 | _=>none
def appV(P:Program)(lns:Nat→Option (TypeId×Nat))(t:Nat)(tt:TypeId)(x y:V):Option (V×Ef) :=
 match appT P tt,y.list? with
 | some (e,sz),some ys =>
  if ys.all (·.length==sz)then
   match x with
   | .nil=>if cd ys.length=true then some (.own t ys,.app t e ys.length)else none
   | .own j es=>match lns j with
    | some (e',n)=>if e'=e∧n=es.length∧cd (es.length+ys.length)=true then some (.own j (es++ys),.app j e (es.length+ys.length))else none
    | none=>none
   | .full es=>if 0<ys.length∧cd (es.length+ys.length)=true∧es.all (·.length==sz)=true then some (.own t (es++ys),.app t e (es.length+ys.length))else if ys.length=0 then some (.full es,.none)else none
   | _=>none
  else none
 | _,_=>none
def fJ{P:Program}(g:Pg P)(obs:Nat→Option (List V))(lns:Nat→Option (TypeId×Nat))(k t:Nat)(o:Oper)(ρ:Operand→V):Option (V×Ef) :=
 match o.op with
 | .alloc e=>match eT P e with
  | some z=>match z.cells? with | some cs=>some (.ptr k 0,.alloc cs) | none=>none
  | none=>none
 | .box _ x=>match (ρ x).cells? with | some cs=>some (.ptr k 0,.alloc cs) | none=>none
 | .load ty a=>match ρ a with
  | .ptr j off=>match obs j with
   | some cs=>match jv P ty cs off with | some y=>some (y,.none) | none=>none
   | none=>none
  | .iptr cs off=>match jv P ty (gM cs) off with | some y=>some (y,.none) | none=>none
  | .d (.other (.pointer (some ⟨b,off,none⟩)))=>match glT b with
   | some cs=>match jv P ty (gM cs) off with | some y=>some (y,.none) | none=>none
   | none=>none
  | _=>none
 | .store ty a x=>match ρ a with
  | .ptr j off=>match obs j,(ρ x).cells?,bs P ty with
   | some cs,some xs,some n=>if xs.length=n∧off+n≤cs.length∧xs.all V.one=true then some (.undef,.store j (lS cs off xs))else none
   | _,_,_=>none
  | _=>none
 | .buildSlice ty len parts=>rowV P ty len k (parts.toList.map λp=>(p.1,ρ p.2))
 | .call c=>match c.callee,c.args.toList,c.argTypes.toList with
  | .builtin .append,[x,y],[tt,tt']=>if tt=tt' then appV P lns t tt (ρ x) (ρ y)else none
  | .builtin .len,[x],[ty]=>match lenV P ty (ρ x)with | some y=>some (y,.none) | none=>none
  | _,_,_=>none
 | _=>match oK g o ρ with | some y=>some (y,.none) | none=>none
def Out{P:Program}(g:Pg P)(w0:World)(G:Cx)(obs:Nat→Option (List V))(lns:Nat→Option (TypeId×Nat))(y:V)(r:Result Next):Prop :=
 ∃nx w' G',r=.ok nx w'∧((∃v,nx=.value v∧rel G' y v)∨(nx=.skip∧y=.undef))∧G.le G'∧HRp P w0 w' G' obs lns
variable {vs:List Value}{xs:List V}
theorem inv_agg_one(r:rels G xs vs)(h:xs.all V.one=true):∀v∈vs,v.oneCell'=true:=by
 intro v hv
 obtain⟨i,hi,rfl⟩:=List.getElem_of_mem hv
 have hlt:i<xs.length:=by rw[r.1];exact hi
 exact one_rel (r.2 i xs[i] vs[i] (List.getElem?_eq_getElem hlt) (List.getElem?_eq_getElem hi)) (List.all_eq_true.1 h _ (zM _))
theorem splice_rels{cs:List V}{us:List Value}{off:Nat}(r:rels G cs vs)(q:rels G xs us)(h:off+xs.length≤cs.length):rels G (lS cs off xs) (vs.take off++us++vs.drop (off+us.length)):=by
 have hlen:=r.1
 have hq:=q.1
 refine⟨by simp_all[lS],λm y u h1 h2=>?_⟩
 unfold lS at h1
 have hoff:(cs.take off).length=(vs.take off).length:=by simp[hlen]
 rcases zE m (cs.take off++xs).length with a | a
 ·rw[List.getElem?_append_left a]at h1
  rw[List.getElem?_append_left (by simp_all)]at h2
  rcases zE m (cs.take off).length with b | b
  ·rw[List.getElem?_append_left b]at h1
   rw[List.getElem?_append_left (hoff▸b)]at h2
   rw[List.getElem?_take]at h1 h2
   split at h1
   ·rename_i hm;rw[qV hm]at h2;exact r.2 m y u h1 h2
   ·cases h1
  ·rw[List.getElem?_append_right b]at h1
   rw[List.getElem?_append_right (hoff▸b),←hoff]at h2
   exact q.2 _ y u h1 h2
 ·rw[List.getElem?_append_right a]at h1
  rw[List.getElem?_append_right (by simp_all)]at h2
  rw[List.getElem?_drop]at h1 h2
  refine r.2 _ y u h1 ?_
  simp_all
variable {f:Ef}{k:Nat}{y:V}
theorem rowV_ok{w:World}{G:Cx}{obs:Nat→Option (List V)}{lns:Nat→Option (TypeId×Nat)}(h:HRp P w0 w G obs lns)(hk:obs k=none){parts:List (Nat×V)}{us:List (Nat×Value)}
  (hl:parts.length=us.length) (hp:∀(i:Nat) (p:Nat×V) (q:Nat×Value),parts[i]? = some p→us[i]? = some q→p.1=q.1∧rel G p.2 q.2) (hr:rowV P ty len k parts=some (y,f)) :
  ∃v w' G',(Instr.buildSlice ty len ⟨us⟩).run P w=.ok v w'∧rel G' y v∧G.le G'∧HRp P w0 w' G' (f.obs obs k) (f.lns lns):=by
 unfold rowV at hr
 split at hr
 ·rename_i e hu
  split at hr
  ·rename_i sz z hs hz
   split at hr
   ·rename_i zs hzs
    split at hr
    ·rename_i hc
     split at hr
     ·rename_i out hf
      obtain⟨zv,z1,z2,_⟩:=nc hz G w
      have hzr:=gQ z2 hzs
      have hzl:zv.cells.size=sz:=by rw[←hc.1,hzr.1];simp
      -- the cells ahead of the parts
      have hini:rels G (reps len zs) ((zQ (len*sz)).map λq=>zv.cells[q % sz]!):=by
       refine⟨by grind[reps_len],λi x v h1 h2=>?_⟩
       have h3:=reps_at zs x len i h1
       have hi:i<len*sz:=by grind
       rw[List.getElem?_map,List.getElem?_range hi]at h2
       simp at h2
       have hsz:0<sz:=zH (λe=>by simp_all)
       have hm2:i % sz<zv.cells.size:=by grind
       rw[hc.1]at h3
       subst h2
       refine hzr.2 (i % sz) x _ h3 ?_
       simp_all
      obtain⟨ws,w1,w2⟩:=fillV_ok parts us _ _ out hf hini hl hp
      have hol:out.length=len*sz∧ws.length=len*sz:=by
       have:∀(parts:List (Nat×V)) (cells out:List V),nV (λi=>some (i*sz,sz)) cells parts=some out→out.length=cells.length:=by
        intro parts
        induction parts<;>grind[nV,lS]
       have h1:=this _ _ _ hf
       rw[reps_len,hc.1]at h1
       exact⟨h1,by rw[←w2.1];exact h1⟩
      have hrun:(Instr.buildSlice ty len ⟨us⟩).run P w=.ok (.slice (some ⟨w.heap.size,0,none⟩) len len) (w.alloc (.cells ⟨ws⟩ e)):=by
       have hbig:¬(len*sz>2 ^ 24):=by simp_all[g8]
       by_cases h0:len*sz=0
       ·have hw:Instr.fill (λi=>some (i*sz,sz)) ((Array.range (len*sz)).map λq=>(#[]:Array Value)[q % 0]!) us=some ⟨ws⟩:=by
         grind
        simp only[Instr.buildSlice,Sem.run_bind,run_underlying hu,Result.andThen_ok,cn hs,Sem.run_ite,hbig,qW,h0,qX,Sem.run_pure]
        simp_all[qz]
       ·have hw:Instr.fill (λi=>some (i*sz,sz)) ((Array.range (len*sz)).map λq=>zv.cells[q % zv.cells.size]!) us=some ⟨ws⟩:=by
         rw[←w1];congr 1;grind
        simp only[Instr.buildSlice,Sem.run_bind,run_underlying hu,Result.andThen_ok,cn hs,Sem.run_ite,hbig,qW,h0,Sem.run_pure,z1,hw]
        simp_all[qz]
      split at hr
      ·rename_i ds hd
       injection hr with hr;injection hr with e1 e2;subst e1;subst e2
       obtain⟨d1,d2⟩:=jl w2 hd
       have hrow:=fresh_row (G:=G) (w:=w) (e:=e) (sz:=sz) (len:=len) d1 d2 (by omega)
       have hcl:=pS sz len ds
       refine⟨_,_,G.withF (fresh w (w.alloc (.cells ⟨ws⟩ e))),hrun,?_,G.le_withF _,h.grow ((Kp.refl w).alloc _)⟩
       have:=rel.full (G:=G.withF (fresh w (w.alloc (.cells ⟨ws⟩ e)))) (lN sz len ds) (some ⟨w.heap.size,0,none⟩) (by simp_all)
       simp_all
      ·injection hr with hr;injection hr with e1 e2;subst e1;subst e2
       obtain⟨hle,hH⟩:=h.new k hk out ws e w2
       exact⟨_,_,_,hrun,.sl k 0 len len w.heap.size (aG _ _ _),hle,hH⟩
     ·cases hr
    ·cases hr
   ·cases hr
  ·cases hr
 ·cases hr
variable {a:Act}{fr:Fr}{g:Pg P}{o:Oper}
theorem stepS0_ok     {obs:Nat → Option (List V)} {lns:Nat → Option (TypeId × Nat)} (h : HRp P w0 w G obs lns)  (hk : obs k = none) (ht : lns t = none)      (hfr : FR G fr a) (hs : fJ g obs lns k t o (aN fr) = some (y, f)) :
    Out g w0 G (f.obs obs k) (f.lns lns) y ((execOp a.eval o).run P w):=by
  have ev:=λx=>aK hfr x
  have hF:=λb o v q=>(h.fs b o v q).2
  unfold fJ at hs
  split at hs<;>rename_i hop
  · rename_i e
    split at hs
    · rename_i z hz
      split at hs
      · rename_i cs hcs
        injection hs with hs;injection hs with e1 e2;subst e1;subst e2
        obtain⟨zv,z1,z2,_⟩:=nc hz G w
        obtain⟨hle,hH⟩:=h.new k hk cs zv.cells.toList e (gQ z2 hcs)
        refine⟨_,_,_,?_,.inl ⟨_,rfl,.ptr k 0 w.heap.size (aG _ _ _)⟩,hle,hH⟩
        simp_all[execOp,Instr.alloc,newVar,qz]
      · cases hs
    · cases hs
  · rename_i e x
    split at hs
    · rename_i cs hcs
      injection hs with hs;injection hs with e1 e2;subst e1;subst e2
      obtain⟨hle,hH⟩:=h.new k hk cs (a.eval x).cells.toList e (gQ (ev x) hcs)
      refine⟨_,_,_,?_,.inl ⟨_,rfl,.ptr k 0 w.heap.size (aG _ _ _)⟩,hle,hH⟩
      simp_all[execOp,Instr.box,newVar,qz]
    · cases hs
  · rename_i ty x
    split at hs
    · rename_i j off hx
      split at hs
      · rename_i cs hcs
        split at hs
        · rename_i z hz
          injection hs with hs;injection hs with e1 e2;subst e1;subst e2
          obtain⟨b,q,hv⟩:=ly (hx▸ev x)
          obtain⟨b',vs,tt,h1,h2,h3,h4,h5⟩:=h.obl j cs hcs (h.obm j b q) (h.obr j b q)
          rw[q]at h1;injection h1 with h1;subst h1
          obtain⟨v,r1,r2⟩:=me (P:=P) (b:=b) (o:=0) (w:=w) hz h4 (λi v hi=>by
            rw[cell_of_row w b _ _ _ _ h3];simp_all)
          refine⟨_,w,G,?_,.inl ⟨v,rfl,r2⟩,Cx.le.refl G,h⟩
          simp_all[execOp,Instr.loadAt,Instr.sureAddr]
        · cases hs
      · cases hs
    · rename_i cs off hx
      split at hs
      · rename_i z hz
        injection hs with hs;injection hs with e1 e2;subst e1;subst e2
        obtain⟨v,r1,r2⟩:=pureS_ok (g:=g) (o:=o) (w:=w) (y:=z) hF hfr (by simp_all[oK])
        exact⟨_,w,G,r1,.inl ⟨v,rfl,r2⟩,Cx.le.refl G,h⟩
      · cases hs
    · rename_i b off hx
      split at hs
      · rename_i cs hg
        split at hs
        · rename_i z hz
          injection hs with hs;injection hs with e1 e2;subst e1;subst e2
          have hr:=ev x
          rw[hx]at hr
          have hv:a.eval x=.pointer (some ⟨b,off,none⟩):=by
            generalize a.eval x=q at hr
            cases hr with | d q=>cases q;rfl
          obtain⟨u,hu⟩:=h.gb.1 b cs hg
          obtain⟨v,r1,r2⟩:=me (P:=P) (b:=b) (o:=0) (w:=w) hz (mQ (G:=G) (u:=u) (λj x hx=>(hu j x hx).2)) (λj v hj=>by
            rw[List.getElem?_map]at hj
            cases hc:cs[j]?<;>grind)
          refine⟨_,w,G,?_,.inl ⟨v,rfl,r2⟩,Cx.le.refl G,h⟩
          simp_all[execOp,Instr.loadAt,Instr.sureAddr]
        · cases hs
      · cases hs
    · cases hs
  · rename_i ty x z
    split at hs
    · rename_i j off hx
      split at hs
      · rename_i cs xs n hcs hxs hn
        split at hs
        · rename_i hc
          injection hs with hs;injection hs with e1 e2;subst e1;subst e2
          obtain⟨b,q,hv⟩:=ly (hx▸ev x)
          obtain⟨b',vs,tt,h1,h2,h3,h4,h5⟩:=h.obl j cs hcs (h.obm j b q) (h.obr j b q)
          rw[q]at h1;injection h1 with h1;subst h1
          have hr:=gQ (ev z) hxs
          have hone:=inv_agg_one hr hc.2.2
          have hsz:(a.eval z).cells.size=n:=by rw[←hc.1,hr.1];simp
          have hst:=run_storeCells_at (P:=P) b off tt (a.eval z).cells.toList 0 ⟨vs⟩ w h3 (by simp only[Nat.add_zero,Array.length_toList,zL];rw[hsz,←h4.1];exact hc.2.1) hone
          have hb:=setRow_heap w b ⟨vs⟩ (((⟨vs⟩:Array Value).toList.take (off+0)++(a.eval z).cells.toList++(⟨vs⟩:Array Value).toList.drop (off+0+(a.eval z).cells.toList.length)).toArray) tt (0,0) h3
          have hH:=HRp.put (w':=w.setRow b (((⟨vs⟩:Array Value).toList.take (off+0)++(a.eval z).cells.toList++(⟨vs⟩:Array Value).toList.drop (off+0+(a.eval z).cells.toList.length)).toArray)) h q (⟨rfl,rfl,rfl,by simp,λk _ hk=>setRow_other w b k _ (λe=>hk (by simp[e]))⟩) (nk (g:=b) ⟨rfl,rfl,rfl,by simp,λk _ hk=>setRow_other w b k _ (λe=>hk (by simp[e]))⟩ (λt' q'=>by simp_all[nq])) hb
            (by simpa using splice_rels h4 hr (by omega))
          refine⟨_,_,G,?_,.inr ⟨rfl,rfl⟩,Cx.le.refl G,hH⟩
          simp_all[execOp,Instr.storeAt,Instr.sureAddr,storeVar,cn]
        · cases hs
      · cases hs
    · cases hs
  · rename_i ty len parts
    obtain⟨v,w',G',r1,r2,r3,r4⟩:=rowV_ok h hk (us:=parts.toList.map λp=>(p.1,a.eval p.2)) (by simp) (λi p q h1 h2=>by
      grind) hs
    refine⟨_,w',G',?_,.inl ⟨v,rfl,r2⟩,r3,r4⟩
    have he:(parts.map λx=>(x.1,a.eval x.2))=(⟨parts.toList.map λp=>(p.1,a.eval p.2)⟩:Array (Nat×Value)):=by grind
    simp_all[execOp]
  · rename_i c
    split at hs
    · rename_i x z tt tt' hcal hargs htys
      split at hs
      · rename_i htt
        subst htt
        have ha:c.args=#[x,z]:=by grind
        have hty:c.argTypes=#[tt,tt]:=by grind
        have fin:∀(u:Value) (w':World) (G':Cx),(Builtin.append_ #[tt,tt] o.type #[a.eval x,a.eval z]).run P w=.ok u w'→G.le G'→HRp P w0 w' G' (f.obs obs k) (f.lns lns)→rel G' y u→Out g w0 G (f.obs obs k) (f.lns lns) y ((execOp a.eval o).run P w):=by
          intro u w' G' h1 h2 h3 h4
          refine⟨_,w',G',?_,.inl ⟨u,rfl,h4⟩,h2,h3⟩
          simp_all[execOp,resolve,invoke,builtin]
        unfold appV at hs
        split at hs
        · rename_i e sz ys hT hys
          have ry:=nI (ev z) hys
          split at hs
          · rename_i hall
            split at hs
            · rename_i hx
              split at hs
              · rename_i hb
                injection hs with hs;injection hs with e1 e2;subst e1;subst e2
                have hv:a.eval x=.slice none 0 0:=by have:=ev x;rw[hx]at this;generalize a.eval x=q at *;cases this;rfl
                obtain⟨b1,b2⟩:=h.begin t ht e
                have hr:rel { G with lv:=upd G.lv t ⟨0,P.cellsOf e,.slice none 0 0⟩ } (.own t []) (a.eval x):=by
                  rw[hv]
                  exact .own t [] _ (.nil _ _) _ (aG _ _ _) (λi e h=>by simp at h) (.inl ⟨rfl,rfl⟩)
                obtain⟨u,w',G',r1,r2,r3,r4⟩:=app_ok (ty:=o.type) b2 hT (aG _ _ _) hr (b8 b1.F ry) hall (by simp_all[g8])
                have hup:upd (upd lns t (e,0)) t (e,([]:List (List D)).length+ys.length)=upd lns t (e,ys.length):=by
                  grind[aG,aU]
                rw[hup]at r3
                rw[zG]at r4
                exact fin u w' G' r1 (b1.trans r2) r3 r4
              · cases hs
            · rename_i j es hx
              split at hs
              · rename_i e' n hl
                split at hs
                · rename_i hc
                  obtain⟨c1,c2,c3⟩:=hc
                  subst c1;subst c2
                  injection hs with hs;injection hs with e1 e2;subst e1;subst e2
                  obtain⟨u,w',G',r1,r2,r3,r4⟩:=app_ok (ty:=o.type) h hT hl (hx▸ev x) ry hall (g8 c3)
                  exact fin u w' G' r1 r2 r3 r4
                · cases hs
              · cases hs
            · rename_i es hx
              split at hs
              · rename_i hc
                injection hs with hs;injection hs with e1 e2;subst e1;subst e2
                obtain⟨u,w',G',r1,r2,r3,r4⟩:=appfull_ok (ty:=o.type) h ht hT (hx▸ev x) ry hall hc.2.2 hc.1 (g8 hc.2.1)
                exact fin u w' G' r1 r2 r3 r4
              · split at hs
                · rename_i hy0
                  injection hs with hs;injection hs with e1 e2;subst e1;subst e2
                  have:ys=[]:=zA hy0
                  subst this
                  obtain⟨i,hu,hi⟩:=appT_und hT
                  have hr:=ev x
                  rw[hx]at hr
                  obtain⟨B,c',hz⟩:=nJ ry
                  have hz':a.eval z=.slice B 0 c':=hz
                  generalize hv:a.eval x=vx at hr
                  cases hr with
                  | full _ A q =>
                    refine fin (.slice A es.length es.length) w G ?_ (Cx.le.refl G) h (.full es A q)
                    simp_all[qT]
                · cases hs
            · cases hs
          · cases hs
        · cases hs
      · cases hs
    · rename_i x ty hcal hargs htys
      split at hs
      · rename_i z hz
        injection hs with hs;injection hs with e1 e2;subst e1;subst e2
        obtain⟨v,r1,r2⟩:=pureS_ok (g:=g) (o:=o) (w:=w) (y:=z) hF hfr (by simp_all[oK])
        exact⟨_,w,G,r1,.inl ⟨v,rfl,r2⟩,Cx.le.refl G,h⟩
      · cases hs
    · cases hs
  · split at hs
    · rename_i z hz
      injection hs with hs;injection hs with e1 e2;subst e1;subst e2
      obtain⟨v,r1,r2⟩:=pureS_ok (w:=w) hF hfr hz
      exact⟨_,w,G,r1,.inl ⟨v,rfl,r2⟩,Cx.le.refl G,h⟩
    · cases hs
def bytesT(P:Program)(t:TypeId):Bool:=match P.underlying t with | some (.slice e)=>(match P.underlying e with | some (.int .u8)=>true | _=>false) | _=>false
def strT(P:Program)(t:TypeId):Bool:=match P.underlying t with | some .string=>true | _=>false
def sliceT(P:Program)(t:TypeId):Bool:=match P.underlying t with | some (.slice _)=>true | _=>false
def mmI(mx:Bool)(a b:Int):Int:=match mx with | true=>if b>a then b else a | false=>if b<a then b else a
def mmF(mx:Bool)(k:IntKind):Int→List V→Option V
 | a,[]=>some (.d (.int k a))
 | a,.d (.int _ b)::r=>mmF mx k (mmI mx a b) r
 | _,_=>none
def mmV(mx:Bool):List V→Option V
 | .d (.int k a)::r=>mmF mx k a r
 | _=>none
def ifaceT(P:Program)(t:TypeId):Bool:=match P.underlying t with | some (.interface _)=>true | _=>false
def isNilC:Operand→Bool
 | .const .nilIface=>true
 | _=>false
def nilI:V→Option Bool
 | .d (.other .nilIface)=>some true
 | .d (.other (.iface _ _))=>some false
 | _=>none
def binN(op:BinOp)(x:V):Option V:=match nilI x,op with
 | some b,.eql=>some (.d (.bool b))
 | some b,.neq=>some (.d (.bool (!b)))
 | _,_=>none
def nilB:V→Option Bool
 | .nil=>some true
 | .d (.other (.slice A _ _))=>some A.isNone
 | x=>match x.list? with | some (_::_)=>some false | _=>none
def extA(P:Program):List TypeId→List V→Option V
 | _,[.full _,.full _]=>none
 | [tt,tt'],[.full [],y]=>if tt=tt' then match appT P tt,y.list? with
   | some (_,sz),some ys=>if ys.all (·.length==sz)=true∧cd ys.length=true then some (.d (.list ys))else none
   | _,_=>none
  else none
 | _,_=>none
theorem app_empty{w:World}{obs:Nat→Option (List V)}{lns:Nat→Option (TypeId×Nat)}(h:HRp P w0 w G obs lns)(A:Option Addr)(ht:appT P tt=some (e,sz))
  (ry:relD G.F (.list ys) vx) (hsz:ys.all (·.length==sz)=true) (hb:ys.length≤16777216) :
  ∃u w',(Builtin.append_ #[tt,tt] ty #[.slice A 0 0,vx]).run P w=.ok u w'∧Kp w w'∧relD (G.withF (fresh w w')).F (.list ys) u:=by
 have hF:=λb o v q=>(h.fs b o v q).2
 unfold appT at ht
 split at ht
 ·rename_i e' hu
  split at ht
  ·rename_i i hi
   split at ht
   ·rename_i z hz
    split at ht
    ·rename_i hc
     injection ht with ht
     injection ht with h1 h2
     subst h1;subst h2
     rcases zK ys.length with h0 | hpos
     ·have:ys=[]:=zA h0
      subst this
      obtain⟨B,c',rfl⟩:=nJ ry
      exact⟨_,w,qT hu hi A B 0 0 c' (zD _),Kp.refl w,.nil _ _⟩
     ·obtain⟨b,off,c,news,rfl,n1,n2,n3,n4⟩:=oW hF ry hpos hsz
      have hby:ys.length*i.bytes≤140737488355328:=by
       have:=zJ hb hc.2.2
       omega
      have hrun:∃cap w',(Builtin.append_ #[tt,tt] ty #[.slice A 0 0,.slice (some ⟨b,off,none⟩) ys.length c]).run P w=.ok (.slice (some ⟨w.heap.size,0,none⟩) ys.length cap) w'∧ys.length≤cap∧Kp w w'∧∀(j:Nat) u,news[j]? = some u→w'.cell? ⟨w.heap.size,j,none⟩=some u:=by
       have hcell:∀(zs:Array Value) (j:Nat) u,news[j]? = some u→(w.drew.alloc (.cells (news.toArray++zs) e')).cell? ⟨w.heap.size,j,none⟩=some u:=by
        intro zs j u hj
        have hlt:=aF hj
        rw[cell_of_row (w.drew.alloc (.cells (news.toArray++zs) e')) w.heap.size j (news.toArray++zs) e' (0,0) (heap_alloc_new w.drew _)]
        grind
       cases A with
       | none =>
        have hr:=run_append_nil (P:=P) w tt ty e' i z hu hi hz ⟨b,off,none⟩ ys.length c news n1 n2 hpos (by omega) (by omega)
        exact⟨_,_,hr,grownCap_ge _ _ _ _,((Kp.refl w).drew).alloc _,hcell _⟩
       | some ad =>
        have hr:=run_append_grow (P:=P) w tt ty e' i z hu hi hz ad 0 0 [] (by simp) (λj u hj=>by simp at hj) ⟨b,off,none⟩ ys.length c news n1 n2 (by omega) (by omega) (growslice_fits (by omega) (by simp_all))
        simp only[zF,zG,Array.empty_append]at hr
        exact⟨_,_,hr,grownCap_ge _ _ _ _,((Kp.refl w).drew).alloc _,hcell _⟩
      obtain⟨cap,w',r1,r2,r3,r4⟩:=hrun
      refine⟨_,w',r1,r3,?_⟩
      have hs:∀(k:Nat) (e:List D),ys[k]? = some e→e.length=i.size:=λk e hk=>by
       grind
      refine .list ys w.heap.size 0 cap i.size (λk j=>(news[k*i.size+j]?).getD undef) hpos r2 hs (λk j e x hk hx=>?_) (λk j e x hk hx=>?_)
      ·obtain⟨u,u1,u2⟩:=n4 k j e x hk hx
       rw[u1,zF]
       exact .inr ⟨zD _,r4 _ _ u1⟩
      ·obtain⟨u,u1,u2⟩:=n4 k j e x hk hx
       rw[u1]
       exact b8 (λ_ _ _ q=>.inl q) u2
    ·cases ht
   ·cases ht
  ·cases ht
 ·cases ht
def extS(P:Program)(o:Oper)(ρ:Operand→V):Option V :=
 match o.op with
 | .convert src dst x=>match ρ x with
  | .d (.str s)=>if bytesT P dst=true∧(P.underlying src).isSome=true then some (.d (.list (s.map λb=>[.int .u8 b.toNat])))else none
  | .d (.int _ n)=>if strT P dst=true∧(P.underlying src).isSome=true then some (.d (.str (Utf8.encode n).data.toList))else none
  | _=>none
 | .binOp op t x y _=>if sliceT P t=true then
   match ρ y,op with
   | .nil,.eql=>match nilB (ρ x)with | some b=>some (.d (.bool b)) | none=>none
   | .nil,.neq=>match nilB (ρ x)with | some b=>some (.d (.bool (!b))) | none=>none
   | _,_=>none
  else if ifaceT P t=true∧isNilC y=true then binN op (ρ x)else none
 | .call c=>match c.callee with
  | .builtin .max=>mmV true (c.args.toList.map ρ)
  | .builtin .min=>mmV false (c.args.toList.map ρ)
  | .builtin .append=>extA P c.argTypes.toList (c.args.toList.map ρ)
  | _=>none
 | _=>none
theorem lx{s:List UInt8}(r:rel G (.d (.str s)) v):v=.string ⟨s.toArray⟩:=by cases r with | d q=>cases q;rfl
theorem mm_ok{P:Program}{G:Cx}(w:World)(mx:Bool)(k:IntKind)(f:Value→Value→Sem Value)(hf:∀k a k' b,f (.int k a) (.int k' b)=pure (.int k (mmI mx a b))):∀(r:List V) (us:List Value) (a:Int) (y:V),rels G r us→mmF mx k a r=some y→∃v,(us.foldlM f (.int k a)).run P w=.ok v w∧rel G y v
 | [],us,a,y,hr,h=>by
  have:us=[]:=zA hr.1.symm
  subst this
  injection h with h;subst h
  exact⟨.int k a,by simp,.d (.int k a)⟩
 | x::r,us,a,y,hr,h=>by
  cases us with
  | nil=>have:=hr.1;simp at this
  | cons u us =>
   obtain⟨h1,h2⟩:=aV hr
   unfold mmF at h
   split at h
   simp_all
   ·rename_i a' k' b r' e
    injection e with e1 e2
    subst e1;subst e2
    have hu:=fw h1
    subst hu
    obtain⟨v,q1,q2⟩:=mm_ok w mx k f hf r us _ y h2 h
    refine⟨v,?_,q2⟩
    (simp_all;omega)
   ·cases h
variable {x:V}
theorem nilB_ok{b:Bool}(r:rel G x v)(h:nilB x=some b):∃A n c,v=.slice A n c∧A.isNone=b:=by
 unfold nilB at h
 split at h
 ·injection h with h;subst h;cases r;simp_all
 ·rename_i A n c
  injection h with h;subst h
  cases r with | d q=>cases q;simp_all
 ·split at h
  ·rename_i e es hl
   injection h with h;subst h
   have:=nI r hl
   cases this<;>simp_all
  ·cases h
theorem extS_ok  {w:World} {G:Cx} {obs:Nat → Option (List V)} {lns:Nat → Option (TypeId × Nat)} (h : HRp P w0 w G obs lns)     (hfr : FR G fr a) (he : extS P o (aN fr) = some y) :
    ∃v w' G',(execOp a.eval o).run P w=.ok (.value v) w'∧rel G' y v∧G.le G'∧HRp P w0 w' G' obs lns:=by
  have ev:=λx=>aK hfr x
  unfold extS at he
  split at he<;>rename_i hop
  · rename_i src dst x
    split at he
    · rename_i s hx
      split at he
      · rename_i hc
        injection he with he;subst he
        have hv:=lx (hx▸ev x)
        obtain⟨u,hu⟩:=Option.isSome_iff_exists.1 hc.2
        have hb:=hc.1
        unfold bytesT at hb
        split at hb
        · rename_i e hd
          split at hb
          · rename_i hee
            have run:=Lib.run_convert_string_bytes (P:=P) w src dst e ⟨s.toArray⟩ hu hd hee
            have k0:Kp w (w.drew.alloc (.cells (Lib.bytesCells w e ⟨s.toArray⟩) e)):=((Kp.refl w).drew).alloc _
            have hk:Kp w (Lib.bytesWorld w e ⟨s.toArray⟩):=⟨k0.below.os,k0.below.tape,k0.below.output,by grind[Lib.bytesWorld_size],λi hi=>Lib.bytesWorld_at_old w e _ i hi⟩
            refine⟨.slice (some ⟨w.heap.size,0,none⟩) (⟨s.toArray⟩:ByteArray).size (grownCap w (⟨s.toArray⟩:ByteArray).size 0 e),_,_,by simp_all[execOp],.d ?_,G.le_withF _,h.grow hk⟩
            have hsz:(⟨s.toArray⟩:ByteArray).size=s.length:=by simp[ByteArray.size]
            by_cases h0:s.length=0
            · have:s=[]:=zA h0
              subst this
              exact .nil _ _
            · have key := relD.list (F := (G.withF (fresh w (Lib.bytesWorld w e ⟨s.toArray⟩))).F) (s.map λb => [.int .u8 b.toNat]) w.heap.size 0 (grownCap w (⟨s.toArray⟩ : ByteArray).size 0 e) 1 (λi _ => .int .u8 (s.getD i 0).toNat) (by simp; omega) (by
                  simp_all[grownCap_ge])
                (λi c hc=>by
                  grind)
                (λi j c x hc hx=>by
                  rw[List.getElem?_map]at hc
                  cases hq:s[i]? with
                  | none=>simp_all
                  | some z =>
                    rw[hq]at hc;simp at hc;subst hc
                    have hj:j=0:=by grind
                    subst hj
                    refine .inr ⟨zD _,?_⟩
                    simp_all[aF,Lib.bytesWorld_cell])
                (λi j c x hc hx=>by
                  rw[List.getElem?_map]at hc
                  cases hq:s[i]? with
                  | none=>simp_all
                  | some z =>
                    rw[hq]at hc;simp at hc;subst hc
                    have hj:j=0:=by grind
                    subst hj
                    simp at hx;subst hx
                    have:s.getD i 0=z:=by simp_all
                    rw[this]
                    exact .int _ _)
              simp_all
          · cases hb
        · cases hb
      · cases he
    · rename_i k n hx
      split at he
      · rename_i hc
        injection he with he;subst he
        have hv:=fw (hx▸ev x)
        obtain⟨u,hu⟩:=Option.isSome_iff_exists.1 hc.2
        have hb:=hc.1
        unfold strT at hb
        split at hb
        · rename_i hd
          refine⟨.string (Utf8.encode n),w,G,?_,.d ?_,Cx.le.refl G,h⟩
          simp_all[execOp,convert,run_underlying,Conv.intToString]
          · exact .str (F:=G.F) (Utf8.encode n).data.toList
        · cases hb
      · cases he
    · cases he
  · rename_i op t x z t'
    split at he
    · rename_i hs
      unfold sliceT at hs
      split at hs
      · rename_i e hd
        have fin:∀(b:Bool),nilB (aN fr x)=some b→aN fr z=.nil→(∀c,(op=.eql∧c=b∨op=.neq∧c=!b)→((do pure (.value (←(do eqGuard op t x z (a.eval x) (a.eval z);binOp op t (a.eval x) (a.eval z)))):Sem Next)).run P w=.ok (.value (.bool c)) w):=by
          intro b hb hz c hc
          obtain⟨A,n,cp,hv,hA⟩:=nilB_ok (ev x) hb
          have hz':a.eval z=.slice none 0 0:=by
            have:=ev z;rw[hz]at this;generalize a.eval z=q at *;cases this;rfl
          have heq:(Op.equal t (.slice A n cp) (.slice none 0 0)).run P w=.ok b w:=by
            simp only[Op.equal,Op.maxDepth]
            rw[show (10000:Nat)=9999+1 from rfl]
            unfold Op.equalIn
            cases A with
            | none=>simp[run_underlying hd]at hA ⊢;omega
            | some p=>simp[run_underlying hd]at hA ⊢;omega
          rcases hc with⟨rfl,rfl⟩|⟨rfl,rfl⟩<;>simp_all[eqGuard,binOp]
        split at he
        · rename_i hz
          split at he
          · rename_i b hb
            injection he with he;subst he
            exact⟨_,w,G,by simp_all[execOp],.d (.bool b),Cx.le.refl G,h⟩
          · cases he
        · rename_i hz
          split at he
          · rename_i b hb
            injection he with he;subst he
            exact⟨_,w,G,by simp_all[execOp],.d (.bool (!b)),Cx.le.refl G,h⟩
          · cases he
        · cases he
      · cases hs
    · split at he
      · rename_i _ hi
        obtain⟨hi,hc⟩:=hi
        unfold ifaceT at hi
        split at hi
        · rename_i ms hd
          have hz:z=.const .nilIface:=by
            grind[isNilC]
          subst hz
          unfold binN at he
          have fin:∀(b:Bool),nilI (aN fr x)=some b→(Op.equal t (a.eval x) .nilIface).run P w=.ok b w∧(eqGuard op t x (.const .nilIface) (a.eval x) .nilIface).run P w=.ok () w∧(a.eval x=.nilIface∨∃te pe,a.eval x=.iface te pe):=by
            intro b hb
            have hx:=ev x
            have hop2:∀v,a.eval x=v→(v=.nilIface∨∃te pe,v=.iface te pe)→(Op.equal t v .nilIface).run P w=.ok (match v with | .nilIface=>true | _=>false) w:=by
              rintro v _ (rfl | ⟨te,pe,rfl⟩)
              · simp only[Op.equal,Op.maxDepth]
                rw[show (10000:Nat)=9999+1 from rfl]
                unfold Op.equalIn
                simp[run_underlying hd]
              · simp only[Op.equal,Op.maxDepth]
                rw[show (10000:Nat)=9999+1 from rfl]
                unfold Op.equalIn
                simp[run_underlying hd]
            unfold nilI at hb
            split at hb
            · rename_i e
              injection hb with hb;subst hb
              rw[e]at hx
              have hv:a.eval x=.nilIface:=by generalize a.eval x=q at *;cases hx with | d q1=>cases q1;rfl
              simp_all[eqGuard]
            · rename_i te pe e
              injection hb with hb;subst hb
              rw[e]at hx
              have hv:a.eval x=.iface te pe:=by generalize a.eval x=q at *;cases hx with | d q1=>cases q1;rfl
              simp_all[eqGuard]
            · cases hb
          have hzv:a.eval (.const .nilIface)=.nilIface:=rfl
          split at he
          · rename_i b hb
            injection he with he;subst he
            obtain⟨f1,f2,f3⟩:=fin b hb
            refine⟨_,w,G,?_,.d (.bool b),Cx.le.refl G,h⟩
            simp_all[execOp,binOp]
          · rename_i b hb
            injection he with he;subst he
            obtain⟨f1,f2,f3⟩:=fin b hb
            refine⟨_,w,G,?_,.d (.bool (!b)),Cx.le.refl G,h⟩
            simp_all[execOp,binOp]
          · cases he
        · cases hi
      · cases he
  · rename_i c
    have hargs:(c.args.map a.eval).toList=c.args.toList.map a.eval:=by simp
    have hrels:rels G (c.args.toList.map (aN fr)) (c.args.toList.map a.eval):=⟨by simp,λi x v h1 h2=>by
      grind⟩
    have key : ∀ (mx : Bool) (f : Value → Value → Sem Value), (∀ k a k' b, f (.int k a) (.int k' b) = pure (.int k (mmI mx a b))) → mmV mx (c.args.toList.map (aN fr)) = some y →
        ∃ v, ((match c.args.toList.map a.eval with | [] => stuck "" | x :: rest => rest.foldlM f x) : Sem Value).run P w = .ok v w ∧ rel G y v := by
      intro mx f hf hm
      generalize c.args.toList.map (aN fr)=xs at hrels hm
      generalize c.args.toList.map a.eval=us at hrels
      unfold mmV at hm
      split at hm
      · rename_i k n r
        cases us with
        | nil=>have:=hrels.1;simp at this
        | cons u us =>
          obtain⟨h1,h2⟩:=aV hrels
          have hu:=fw h1
          subst hu
          exact mm_ok w mx k f hf r us n y h2 hm
      · cases hm
    split at he
    · rename_i hcal
      obtain⟨v,r1,r2⟩:=key true Builtin.max2 (λk a k' b=>by grind[Builtin.max2,mmI]) he
      refine⟨v,w,G,?_,r2,Cx.le.refl G,h⟩
      simp only[execOp,hop,resolve,hcal,Sem.run_bind,Sem.run_pure,Result.andThen_ok,invoke,builtin,Builtin.max_,hargs]
      generalize c.args.toList.map a.eval=us at r1 ⊢
      cases us<;>simp_all
    · rename_i hcal
      obtain⟨v,r1,r2⟩:=key false Builtin.min2 (λk a k' b=>by grind[Builtin.min2,mmI]) he
      refine⟨v,w,G,?_,r2,Cx.le.refl G,h⟩
      simp only[execOp,hop,resolve,hcal,Sem.run_bind,Sem.run_pure,Result.andThen_ok,invoke,builtin,Builtin.min_,hargs]
      generalize c.args.toList.map a.eval=us at r1 ⊢
      cases us<;>simp_all
    · rename_i hcal
      unfold extA at he
      split at he
      · cases he
      · rename_i t1 t2 tt tt' y0 hnf htys hxs
        split at he
        · rename_i htt
          subst htt
          split at he
          · rename_i e sz ys hap hys
            split at he
            · rename_i hc
              injection he with he;subst he
              rw[hxs]at hrels
              have hargs2:∃v u,c.args.toList.map a.eval=[v,u]∧rel G (.full []) v∧rel G y0 u:=by
                generalize c.args.toList.map a.eval=us at hrels
                match us,hrels with
                | [v,u],hr=>exact⟨v,u,rfl,(aV hr).1,(aV (aV hr).2).1⟩
                | [],hr=>have:=hr.1;simp at this
                | [_],hr=>have:=hr.1;simp at this
                | _::_::_::_,hr=>have:=hr.1;simp at this
              obtain⟨v,u,hvu,r1,r2⟩:=hargs2
              have hA:∃A,v=.slice A 0 0:=by
                generalize hf:V.full []=f at r1
                cases r1<;>simp_all
              obtain⟨A,rfl⟩:=hA
              obtain⟨u',w',q1,q2,q3⟩:=app_empty (ty:=o.type) h A hap (nI r2 hys) hc.1 (g8 hc.2)
              refine⟨u',w',G.withF (fresh w w'),?_,.d q3,G.le_withF _,h.grow q2⟩
              have e1:c.args.map a.eval=#[.slice A 0 0,u]:=by
                grind
              have e2:c.argTypes=#[tt,tt]:=by
                grind
              simp_all[execOp,resolve,invoke,builtin]
            · cases he
          · cases he
        · cases he
      · cases he
    · cases he
  · cases he
def il{P:Program}(g:Pg P)(obs:Nat→Option (List V))(lns:Nat→Option (TypeId×Nat))(k t:Nat)(o:Oper)(ρ:Operand→V):Option (V×Ef) :=
 match extS P o ρ with
 | some y=>some (y,.none)
 | none=>fJ g obs lns k t o ρ
theorem stepS_ok{obs:Nat→Option (List V)}{lns:Nat→Option (TypeId×Nat)}(h:HRp P w0 w G obs lns)(hk:obs k=none)(ht:lns t=none)(hfr:FR G fr a)(hs:il g obs lns k t o (aN fr)=some (y,f)) :
  Out g w0 G (f.obs obs k) (f.lns lns) y ((execOp a.eval o).run P w):=by
 unfold il at hs
 split at hs
 ·rename_i z hz
  injection hs with hs;injection hs with e1 e2;subst e1;subst e2
  obtain⟨v,w',G',r1,r2,r3,r4⟩:=extS_ok h hfr hz
  exact⟨_,w',G',r1,.inl ⟨v,rfl,r2⟩,r3,r4⟩
 grind[stepS0_ok]
def cm (P : Program) (f : FuncId) : Bool := match P.funcs[f]? with | some fn => !(fn.name == "runtime.NumGoroutine") && fn.body.isSome | none => false
theorem run_callFunc{f:FuncId}(h:cm P f=true)(args:Array Value)(w:World):(callFunc f args).run P w=.ok (.enter f args) w:=by
 unfold cm at h
 cases hf:P.funcs[f]? with
 | none=>simp_all
 | some fn =>
  rw[hf]at h
  simp only[Bool.and_eq_true,Bool.not_eq_true',Option.isSome_iff_ne_none]at h
  have h2:fn.body.isNone=false:=by cases hb:fn.body<;>simp_all
  have h3:(program:Sem Program).run P w=.ok P w:=rfl
  simp_all[callFunc]
def iz(F:Nat→Nat→Value→Prop):Cx:=⟨F,F,λ_=>none,λ_=>none,λ_=>none,λ_=>none,λ_=>none⟩
mutual
def V.clean:V→V
 | .own _ es=>.d (.list es)
 | .full es=>.d (.list es)
 | .agg cs=>.agg (V.cleans cs)
 | .tuple cs=>.tuple (V.cleans cs)
 | .fn f cs=>.fn f (V.cleans cs)
 | .ptr _ _=>.undef
 | .sl _ _ _ _=>.undef
 | .undef=>.undef
 | .d x=>.d x
 | .iptr cs off=>.iptr cs off
 | .nil=>.d (.list [])
 | .skip=>.skip
 | .mp _=>.undef
 | .mapc _ _=>.undef
 | .gr _ _=>.undef
 | .gp _ _ _ _=>.undef
 | .adr _=>.undef
 | .gs _ _ _ _=>.undef
 | .rowc _ _ _=>.undef
def V.cleans:List V→List V
 | []=>[]
 | x::xs=>V.clean x::V.cleans xs
end
theorem cleans_eq:∀cs:List V,V.cleans cs=cs.map V.clean
 | []=>rfl
 | x::xs=>by rw[V.cleans,cleans_eq xs];rfl
theorem jo{v:Value}(r:rel G x v):∀F':Nat→Nat→Value→Prop,(∀b o v,G.F b o v→F' b o v)→rel (iz F') x.clean v:=by
 intro F' hF
 induction r with
 | undef v=>rw[V.clean];exact .undef v
 | d q=>rw[V.clean];exact .d (b8 hF q)
 | agg cs vs hl _ ih =>
  rw[V.clean,cleans_eq]
  refine .agg _ _ (by simp[hl]) (λi x v h1 h2=>?_)
  grind
 | tuple cs vs hl _ ih =>
  rw[V.clean,cleans_eq]
  refine .tuple _ _ (by simp[hl]) (λi x v h1 h2=>?_)
  grind
 | ptr k off b q=>rw[V.clean];exact .undef _
 | iptr cs off b o u q1 q2=>rw[V.clean];exact .iptr cs off b o u (λj x h=>hF _ _ _ (q1 j x h)) (λj x h=>b8 hF (q2 j x h))
 | own t es v q L hL hs hl=>rw[V.clean];exact .d (b8 hF q)
 | full es A q=>rw[V.clean];exact .d (b8 hF q)
 | nil=>rw[V.clean];exact .d (.nil _ _)
 | skip=>rw[V.clean];exact .skip
 | sl k off len cap b q=>rw[V.clean];exact .undef _
 | mp k b q=>rw[V.clean];exact .undef _
 | gr k n v=>rw[V.clean];exact .undef _
 | gp k n i off v=>rw[V.clean];exact .undef _
 | adr k v=>rw[V.clean];exact .undef _
 | gs k n off len v=>rw[V.clean];exact .undef _
 | fn f cs vs hl _ ih =>
  rw[V.clean,cleans_eq]
  refine .fn f _ _ (by simp[hl]) (λi x v h1 h2=>?_)
  grind
mutual
def V.cleanF:V→V
 | .own _ es=>.d (.list es)
 | .full es=>.full es
 | .agg cs=>.agg (V.cleansF cs)
 | .tuple cs=>.tuple (V.cleansF cs)
 | .fn f cs=>.fn f (V.cleansF cs)
 | .ptr _ _=>.undef
 | .sl _ _ _ _=>.undef
 | .undef=>.undef
 | .d x=>.d x
 | .iptr cs off=>.iptr cs off
 | .nil=>.d (.list [])
 | .skip=>.skip
 | .mp _=>.undef
 | .mapc _ _=>.undef
 | .gr _ _=>.undef
 | .gp _ _ _ _=>.undef
 | .adr _=>.undef
 | .gs _ _ _ _=>.undef
 | .rowc _ _ _=>.undef
def V.cleansF:List V→List V
 | []=>[]
 | x::xs=>V.cleanF x::V.cleansF xs
end
theorem pR:∀cs:List V,V.cleansF cs=cs.map V.cleanF
 | []=>rfl
 | x::xs=>by rw[V.cleansF,pR xs];rfl
theorem cleanF_rel{v:Value}(r:rel G x v):∀F':Nat→Nat→Value→Prop,(∀b o v,G.F b o v→F' b o v)→rel (iz F') x.cleanF v:=by
 intro F' hF
 induction r with
 | undef v=>rw[V.cleanF];exact .undef v
 | d q=>rw[V.cleanF];exact .d (b8 hF q)
 | agg cs vs hl _ ih =>
  rw[V.cleanF,pR]
  refine .agg _ _ (by simp[hl]) (λi x v h1 h2=>?_)
  grind
 | tuple cs vs hl _ ih =>
  rw[V.cleanF,pR]
  refine .tuple _ _ (by simp[hl]) (λi x v h1 h2=>?_)
  grind
 | ptr k off b q=>rw[V.cleanF];exact .undef _
 | iptr cs off b o u q1 q2=>rw[V.cleanF];exact .iptr cs off b o u (λj x h=>hF _ _ _ (q1 j x h)) (λj x h=>b8 hF (q2 j x h))
 | own t es v q L hL hs hl=>rw[V.cleanF];exact .d (b8 hF q)
 | full es A q=>rw[V.cleanF];exact .full es A (b8 hF q)
 | nil=>rw[V.cleanF];exact .d (.nil _ _)
 | skip=>rw[V.cleanF];exact .skip
 | sl k off len cap b q=>rw[V.cleanF];exact .undef _
 | mp k b q=>rw[V.cleanF];exact .undef _
 | gr k n v=>rw[V.cleanF];exact .undef _
 | gp k n i off v=>rw[V.cleanF];exact .undef _
 | adr k v=>rw[V.cleanF];exact .undef _
 | gs k n off len v=>rw[V.cleanF];exact .undef _
 | fn f cs vs hl _ ih =>
  rw[V.cleanF,pR]
  refine .fn f _ _ (by simp[hl]) (λi x v h1 h2=>?_)
  grind
def Spec{P:Program}(g:Pg P)(f:FuncId)(args:List V)(r:V):Prop :=
 cm P f=true∧∀(w:World) (F:Nat→Nat→Value→Prop) (vs:List Value),(∀b o v,F b o v→b<w.heap.size∧w.cell? ⟨b,o,none⟩=some v)→lP w F→rels (iz F) args vs →
  Calls P f ⟨vs⟩ w λe w'=>∃v,e=.returned v∧Kp w w'∧rel (iz λb o u=>F b o u∨fresh w w' b o u) r v
variable {args:List V}{r:V}
theorem Spec.weak{f:FuncId}(h:Spec g f (args.map V.clean) r):Spec g f args r:=by
 refine⟨h.1,λw F vs hF hgl hr=>h.2 w F vs hF hgl ?_⟩
 refine⟨by simp[hr.1],λi x v h1 h2=>?_⟩
 rw[List.getElem?_map]at h1
 cases hq:args[i]? with
 | none=>simp_all
 | some y=>rw[hq]at h1;simp at h1;subst h1;exact jo (hr.2 i y v hq h2) F (λ_ _ _ q=>q)
def bf{P:Program}(g:Pg P)(f:FuncId)(args:List V)(s:Sg)(R:V→Sg→Prop):Prop :=
 cm P f=true∧∀(w0 w:World) (G:Cx) (vs:List Value),HR P w0 w G s→rels G args vs →
  Calls P f ⟨vs⟩ w λe w'=>∃v y s' G',e=.returned v∧G.le G'∧HR P w0 w' G' s'∧rel G' y v∧R y s'
variable {R:V→Sg→Prop}{s:Sg}
theorem Spec.toS{f:FuncId}(h:Spec g f (args.map V.clean) r)(hR:R r s):bf g f args s R:=by
 refine⟨h.1,λw0 w G vs hH hr=>?_⟩
 refine (h.2 w G.F vs hH.fs (hH.gb.kp hH.kp) ?_).mono ?_
 ·refine⟨by simp[hr.1],λi x v h1 h2=>?_⟩
  rw[List.getElem?_map]at h1
  cases hq:args[i]? with
  | none=>simp_all
  | some y=>rw[hq]at h1;simp at h1;subst h1;exact jo (hr.2 i y v hq h2) G.F (λ_ _ _ q=>q)
 ·rintro e w' ⟨v,rfl,hk,hv⟩
  refine⟨v,r,s,G.withF (fresh w w'),rfl,G.le_withF _,hH.grow hk,?_,hR⟩
  have:∀{x:V} {u:Value},rel (iz λb o u=>G.F b o u∨fresh w w' b o u) x u→rel (G.withF (fresh w w')) x u:=by
   intro x u q
   induction q with
   | undef v=>exact .undef v
   | d q=>exact .d q
   | agg cs vs hl _ ih=>exact .agg cs vs hl ih
   | tuple cs vs hl _ ih=>exact .tuple cs vs hl ih
   | ptr k off b q=>cases q
   | iptr cs off b o u q1 q2=>exact .iptr cs off b o u q1 q2
   | own t es v q L hL _ _=>cases hL
   | full es A q=>exact .full es A q
   | nil=>exact .nil
   | skip=>exact .skip
   | sl k off len cap b q=>cases q
   | mp k b q=>cases q
   | gr k n v h1 L hL=>cases hL
   | gp k n i off v h1 L hL=>cases hL
   | adr k v b q=>cases q
   | gs k n off len v h1 L hL=>cases hL
   | fn f cs vs hl _ ih=>exact .fn f cs vs hl ih
  exact this hv
theorem Spec.toSF{f:FuncId}(h:Spec g f (args.map V.cleanF) r)(hR:R r s):bf g f args s R:=by
 refine⟨h.1,λw0 w G vs hH hr=>?_⟩
 refine (h.2 w G.F vs hH.fs (hH.gb.kp hH.kp) ?_).mono ?_
 ·refine⟨by simp[hr.1],λi x v h1 h2=>?_⟩
  rw[List.getElem?_map]at h1
  cases hq:args[i]? with
  | none=>simp_all
  | some y=>rw[hq]at h1;simp at h1;subst h1;exact cleanF_rel (hr.2 i y v hq h2) G.F (λ_ _ _ q=>q)
 ·rintro e w' ⟨v,rfl,hk,hv⟩
  refine⟨v,r,s,G.withF (fresh w w'),rfl,G.le_withF _,hH.grow hk,?_,hR⟩
  have:∀{x:V} {u:Value},rel (iz λb o u=>G.F b o u∨fresh w w' b o u) x u→rel (G.withF (fresh w w')) x u:=by
   intro x u q
   induction q with
   | undef v=>exact .undef v
   | d q=>exact .d q
   | agg cs vs hl _ ih=>exact .agg cs vs hl ih
   | tuple cs vs hl _ ih=>exact .tuple cs vs hl ih
   | ptr k off b q=>cases q
   | iptr cs off b o u q1 q2=>exact .iptr cs off b o u q1 q2
   | own t es v q L hL _ _=>cases hL
   | full es A q=>exact .full es A q
   | nil=>exact .nil
   | skip=>exact .skip
   | sl k off len cap b q=>cases q
   | mp k b q=>cases q
   | gr k n v h1 L hL=>cases hL
   | gp k n i off v h1 L hL=>cases hL
   | adr k v b q=>cases q
   | gs k n off len v h1 L hL=>cases hL
   | fn f cs vs hl _ ih=>exact .fn f cs vs hl ih
  exact this hv
def bo(ops:Array Oper)(fr:Fr)(o:Oper):Option Bool :=
 match o.guard with
 | none=>some true
 | some (j,want)=>match (ops[j]?).bind (·.dst)with
  | some t=>match fr.getD t .undef with
   | .d (.bool b)=>some (b==want)
   | .skip=>some false
   | _=>none
  | none=>some false
theorem fK{ops:Array Oper}{b:Bool}(hfr:FR G fr a)(h:bo ops fr o=some b):Region.wanted o (yielded ops a.tmps)=b:=by
 unfold bo at h
 unfold Region.wanted
 cases hg:o.guard with
 | none=>simp_all
 | some jw =>
  obtain⟨j,want⟩:=jw
  rw[hg]at h
  simp only at h ⊢
  unfold yielded
  cases hd:(ops[j]?).bind (·.dst)with
  | none=>simp_all
  | some t =>
   rw[hd]at h
   simp only at h
   have hr:=hfr.2 t
   simp only[Option.bind_some]
   split at h
   ·rename_i b' hb
    rw[hb]at hr
    have hv:=inv_bool hr
    injection h with h
    rw[Array.getD_eq_getD_getElem?]at hv
    cases ht:a.tmps[t]?<;>simp_all[Go.undef]
   ·rename_i hb
    rw[hb]at hr
    injection h with h
    subst h
    cases ht:a.tmps[t]? with
    | none=>simp
    | some u =>
     rw[Array.getD_eq_getD_getElem?,ht]at hr
     simp at hr
     cases hr
     simp[Go.undef]
   ·cases h
def Ef.sg(f:Ef)(s:Sg):Sg :=
 match f with
 | .none=>s
 | .alloc cs=>⟨s.obs++[cs],s.lns⟩
 | .store j cs=>⟨s.obs.set j cs,s.lns⟩
 | .app t e n=>if t<s.lns.length then ⟨s.obs,s.lns.set t (e,n)⟩else ⟨s.obs,s.lns++[(e,n)]⟩
def Ef.fits(f:Ef)(s:Sg):Prop :=
 match f with
 | .none=>True
 | .alloc _=>True
 | .store j _=>j<s.obs.length
 | .app t _ _=>t≤s.lns.length
theorem sg_obs(f:Ef)(s:Sg)(h:f.fits s):(λk=>(f.sg s).obs[k]?)=f.obs (λk=>s.obs[k]?) s.obs.length:=by
 funext k
 cases f with
 | none=>rfl
 | alloc cs =>
  simp only[Ef.sg,Ef.obs]
  grind[aG,aU]
 | store j cs =>
  simp only[Ef.sg,Ef.obs]
  grind[aG,Ef.fits,aU]
 | app t e n=>grind[Ef.sg,Ef.obs]
theorem sg_lns(f:Ef)(s:Sg)(h:f.fits s):(λk=>(f.sg s).lns[k]?)=f.lns (λk=>s.lns[k]?):=by
 funext k
 cases f with
 | none=>rfl
 | alloc cs=>rfl
 | store j cs=>rfl
 | app t e n =>
  simp only[Ef.sg,Ef.lns]
  grind[Ef.fits,aG,aU]
variable {ρ:Operand→V}
theorem stepS0_fits(h:fJ g (λk=>s.obs[k]?) (λt=>s.lns[t]?) s.obs.length s.lns.length o ρ=some (y,f)):f.fits s:=by
 unfold fJ at h
 split at h
 ·split at h
  ·split at h
   ·injection h with h;injection h with _ h;subst h;trivial
   ·cases h
  ·cases h
 ·split at h
  ·injection h with h;injection h with _ h;subst h;trivial
  ·cases h
 ·split at h
  ·split at h
   ·split at h
    ·injection h with h;injection h with _ h;subst h;trivial
    ·cases h
   ·cases h
  ·split at h
   ·injection h with h;injection h with _ h;subst h;trivial
   ·cases h
  ·split at h
   ·split at h
    ·injection h with h;injection h with _ h;subst h;trivial
    ·cases h
   ·cases h
  ·cases h
 ·split at h
  ·split at h
   ·rename_i hcs _ _
    split at h
    ·injection h with h;injection h with _ h;subst h;exact aF hcs
    ·cases h
   ·cases h
  ·cases h
 ·unfold rowV at h
  split at h
  ·split at h
   ·split at h
    ·split at h
     ·split at h
      ·split at h<;>(injection h with h;injection h with _ h;subst h;trivial)
      ·cases h
     ·cases h
    ·cases h
   ·cases h
  ·cases h
 ·split at h
  ·split at h
   ·unfold appV at h
    split at h
    ·split at h
     ·split at h
      ·split at h
       ·injection h with h;injection h with _ h;subst h;exact zD _
       ·cases h
      ·split at h
       ·rename_i hl
        split at h
        ·injection h with h;injection h with _ h;subst h;exact Nat.le_of_lt (aF hl)
        ·cases h
       ·cases h
      ·split at h
       ·injection h with h;injection h with _ h;subst h;exact zD _
       ·split at h
        ·injection h with h;injection h with _ h;subst h;trivial
        ·cases h
      ·cases h
     ·cases h
    ·cases h
   ·cases h
  ·split at h
   ·injection h with h;injection h with _ h;subst h;trivial
   ·cases h
  ·cases h
 ·split at h
  ·injection h with h;injection h with _ h;subst h;trivial
  ·cases h
theorem pu(h:il g (λk=>s.obs[k]?) (λt=>s.lns[t]?) s.obs.length s.lns.length o ρ=some (y,f)):f.fits s:=by
 unfold il at h
 split at h
 ·injection h with h;injection h with _ h;subst h;trivial
 ·exact stepS0_fits h
def callS(fr:Fr)(c:Call):Option (FuncId×List V) :=
 match c.callee with
 | .value f=>match aN fr f with
  | .fn fid caps=>some (fid,c.args.toList.map (aN fr)++caps)
  | _=>none
 | _=>none
def contK(F:Fr→Sg→(Fr→Sg→Prop)→Prop)(K:Fr→Sg→Prop)(fr:Fr)(dst:Option Tmp)(r:V)(s:Sg):Prop:=F (putF fr dst r) s K
def contD(F:Fr→Sg→(Fr→Sg→Prop)→Prop)(K:Fr→Sg→Prop)(fr:Fr)(dst:Option Tmp)(s:Sg)(r:V):Prop:=F (putF fr dst r) s K
def callD{P:Program}(g:Pg P)(f:FuncId)(args:List V)(K:V→Prop):Prop:=∃r,Spec g f args r∧K r
def regS{P:Program}(g:Pg P)(dr:Bool)(ops:Array Oper):List Oper→Fr→Sg→(Fr→Sg→Prop)→Prop
 | [],fr,s,K=>K fr s
 | o::rest,fr,s,K =>
  match bo ops fr o with
  | none=>False
  | some b=>if b=true then
    match o.op with
    | .call ⟨.value f,args,tys⟩ =>
     match callS fr ⟨.value f,args,tys⟩with
     | some (fid,xs)=>if dr=true then callD g fid (xs.map V.cleanF) (contD (regS g dr ops rest) K fr o.dst s)else bf g fid xs s (contK (regS g dr ops rest) K fr o.dst)
     | none=>False
    | _ =>
     match il g (λk=>s.obs[k]?) (λt=>s.lns[t]?) s.obs.length s.lns.length o (aN fr)with
     | some (y,f)=>regS g dr ops rest (putF fr o.dst y) (f.sg s) K
     | none=>False
   else regS g dr ops rest (putF fr o.dst .skip) s K
def Post{P:Program}(g:Pg P)(w0:World)(G0:Cx)(K:Fr→Sg→Prop)(a:Act)(w:World):Prop:=∃G fr s,G0.le G∧HR P w0 w G s∧FR G fr a∧a.defers=[]∧K fr s
theorem cg(a:Act)(d:Option Tmp)(v:Value):(a.put d v).defers=a.defers:=by cases d<;>rfl
theorem exec_call(hfr:FR G fr a){f:Operand}{args:Array Operand}{tys:Array TypeId}(hop:o.op=.call ⟨.value f,args,tys⟩){fid:FuncId}(hc:callS fr ⟨.value f,args,tys⟩=some (fid,xs))(he:cm P fid=true)(w:World) :
  ∃vs,(execOp a.eval o).run P w=.ok (.enter fid ⟨vs⟩) w∧rels G xs vs:=by
 unfold callS at hc
 simp only at hc
 split at hc
 ·rename_i fid' caps hf
  injection hc with hc;injection hc with e1 e2;subst e1;subst e2
  have hr:=aK hfr f
  rw[hf]at hr
  generalize hv:a.eval f=fv at hr
  cases hr with
  | fn _ _ us hl hu =>
   refine⟨args.toList.map a.eval++us,?_,?_⟩
   simp_all[run_callFunc,execOp,resolve,Deferred.ofValue,invoke]
   ·refine⟨by simp[hl],λi x v h1 h2=>?_⟩
    grind[aK]
 ·cases hc
theorem reg_seq{P:Program}{g:Pg P}{w0:World}{G0:Cx}{ops:Array Oper}{K:Fr→Sg→Prop}{Q:Exit→Act→World→Prop}(hQ:∀a w,Post g w0 G0 K a w→Q .normal a w) :
  ∀(l:List Oper) (fr:Fr) (s:Sg) (G:Cx) (a:Act) (w:World),regS g false ops l fr s K→G0.le G→HR P w0 w G s→FR G fr a→a.defers=[]→wpList P ops Q l a w
 | [],fr,s,G,a,w,h,h0,hH,hfr,hd=>hQ a w ⟨G,fr,s,h0,hH,hfr,hd,h⟩
 | o::rest,fr,s,G,a,w,h,h0,hH,hfr,hd=>by
  unfold regS at h
  unfold wpList
  cases hw:bo ops fr o with
  | none=>simp_all
  | some b =>
   rw[hw]at h
   rw[fK hfr hw]
   simp only at h
   cases b with
   | false =>
    rw[qU (by simp)]at h
    rw[qU (by simp)]
    exact reg_seq hQ rest _ s G _ w h h0 hH (ii hfr .skip o.dst) (by simp_all[cg])
   | true =>
    rw[qV rfl]at h
    rw[qV rfl]
    left
    have step:(∃y f,il g (λk=>s.obs[k]?) (λt=>s.lns[t]?) s.obs.length s.lns.length o (aN fr)=some (y,f)∧regS g false ops rest (putF fr o.dst y) (f.sg s) K)→o.wp P a w (wpList P ops Q rest) Q:=by
     rintro⟨y,f,hs,hrest⟩
     obtain⟨nx,w',G',r1,r2,r3,r4⟩:=stepS_ok hH (by simp) (by simp) hfr hs
     have hfit:=pu hs
     rw[←sg_obs f s hfit,←sg_lns f s hfit]at r4
     unfold Oper.wp
     rw[r1]
     rcases r2 with⟨v,rfl,hv⟩|⟨rfl,rfl⟩
     ·exact reg_seq hQ rest _ _ G' _ w' hrest (h0.trans r3) r4 (ii (ku r3 hfr) hv o.dst) (by simp_all[cg])
     ·exact reg_seq hQ rest _ _ G' _ w' hrest (h0.trans r3) r4 (ii (ku r3 hfr) (.undef _) o.dst) (by simp_all[cg])
    split at h
    ·rename_i f args tys hop
     split at h
     ·rename_i fid xs hc
      rw[qU (by simp)]at h
      obtain⟨he,hcall⟩:=h
      obtain⟨vs,r1,r2⟩:=exec_call hfr hop hc he w
      unfold Oper.wp
      rw[r1]
      refine (hcall w0 w G vs hH r2).mono ?_
      rintro e w' ⟨v,y,s',G',rfl,q1,q2,q3,q4⟩
      exact reg_seq hQ rest _ s' G' _ w' q4 (h0.trans q1) q2 (ii (ku q1 hfr) q3 o.dst) (by simp_all[cg])
     simp_all
    grind
end Go.Proofs.YtphbhdoljnokkaaGreatDoor
