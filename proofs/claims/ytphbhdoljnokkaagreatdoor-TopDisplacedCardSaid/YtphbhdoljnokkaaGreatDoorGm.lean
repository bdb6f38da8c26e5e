import Derived.Test.YtphbhdoljnokkaaGreatDoorGog
import Derived.WideKeyElems2
import Derived.WideKeyArgs2
import Derived.Handed
import Derived.HandedShaped
import Derived.Lay
namespace Go.Proofs.YtphbhdoljnokkaaGreatDoor
open Go.ChangeShapes Go.WideShapes Go.ChangeAt Go.RowKit Go.WideElems
theorem elemAt_str{H:Type}{enc:TypeId×Value→H}{P:Program}{base:Nat}{held:Bool}{e:TypeId}(he:P.underlying e=some .string){W:World}{sp:Nat→Bool}{n:Nat}{v:Value}{z:DataW H×List MemPlace}(h:elemAt enc P W base sp held n e v=some z):∃s:ByteArray,v=.string s∧z=(.lit (.string s.data.toList),[]):=by
 unfold elemAt at h
 split at h
 ·rename_i hf
  obtain⟨a,hc,hz,_⟩:=DataW.trod_string he h
  cases v<;>simp[Value.formed,he,Value.cells]at hf hc
  simp_all
 ·cases h
theorem glob_map{P:Program}{W:World}{H:Type}{enc:TypeId×Value→H}{held:Bool}{fuel t k e:Nat}{cs:List Value}{kvs:List (Int×List UInt8)}{p:List MemPlace}(ht:P.underlying t=some (.map k e))(hk:P.underlying k=some (.int .i64))(he:P.underlying e=some .string)
  (h:DataW.trod enc P W 0 (λ_=>true) held fuel t cs=some (.map (kvs.map λp=>(.int .i64 p.1,.lit (.string p.2))),p)) :
  ∃bm es clock,cs=[.map (some bm)]∧W.heap[bm]? = some (.map es clock)∧(∀x∈es.toList,x.born<clock)∧(es.toList.map (·.born)).Nodup∧(∀x∈es.toList,∃p∈kvs,x.key=.int .i64 p.1∧x.val=.string ⟨p.2.toArray⟩)∧∀p∈kvs,∃x∈es.toList,x.key=.int .i64 p.1∧x.val=.string ⟨p.2.toArray⟩:=by
 rcases open_map ht h with⟨_,hx⟩|⟨bm,es,clock,m,_,hcs,hb,_,F,hx⟩
 ·simp at hx
 ·have hl:=DataW.map.inj (Prod.mk.inj hx).1
  have hp:=sorted_perm (es.toList.map (rg P k (elemAt enc P W 0 (λ_=>true) held m e)))
  rw[←hl]at hp
  obtain⟨s1,s2,_⟩:=F.stamped
  have key:∀x∈es.toList,∀q:Int×List UInt8,rg P k (elemAt enc P W 0 (λ_=>true) held m e) x=(.int .i64 q.1,.lit (.string q.2))→x.key=.int .i64 q.1∧x.val=.string ⟨q.2.toArray⟩:=by
   intro x hx q hq
   obtain⟨y,hy⟩:=F.reads x hx
   have hrg:rg P k (elemAt enc P W 0 (λ_=>true) held m e) x=y:=by simp_all[rg]
   rw[hrg]at hq
   subst hq
   have h1:=rd_key hy
   obtain⟨z,hz,hz2⟩:=rd_val hy
   obtain⟨s,hs,rfl⟩:=elemAt_str he hz
   refine⟨?_,?_⟩
   ·rw[keyOf_int hk]at h1
    unfold mapKey at h1
    grind
   simp_all
  refine⟨bm,es,clock,hcs,hb,s1,s2,λx hx=>?_,λq hq=>?_⟩
  ·have hm:=hp.mem_iff.2 (List.mem_map.2 ⟨x,hx,rfl⟩)
   obtain⟨q,hq,he2⟩:=List.mem_map.1 hm
   grind
  ·have hm:=hp.mem_iff.1 (List.mem_map.2 ⟨q,hq,rfl⟩)
   grind
theorem handed_andS{H:Type}{enc:TypeId×Value→H}{a:Assume}{C:Checked}{os:Os}{f:FuncId}{fn:Func}{s:ChangeSpec}{conds:List PathCond}{apart fresh handsOn again:Bool}{X:World→Array Value→Prop}
  (hX:∀(w w':World) (args:Array Value),w.heap=w'.heap→X w args→X w' args)
  (own:ownKnob C.prog.godebug=none) (started:os.Started) (noInit:C.prog.inits.idxOf? f=none) (hfn:C.prog.funcs[f]? = some fn)
  (witness:∃(w:World) (tape:Tape) (i:Input),w.os=os∧(w.forCall tape i).Shaped C.prog∧i.vars=[]∧Input.okWide C.prog (w.forCall tape i) .any w.heap.size f i ∧
   ((s.pre enc C.prog fn conds apart (w.forCall tape i).memory i.args∧X (w.forCall tape i).memory i.args)∧sizedMet enc C.prog fn (OpenSpec.ofChange s) apart (w.forCall tape i).memory i.args)∧a.holds C.prog (lone (Frame.enter C.prog f i.args .normal) [] (w.forCall tape i)))
  (contract:∀(W:World) (base:Nat) (args:Array Value) (ds gs:List (DataW H)) (before:List MemPlace),
   (∀(j:Nat) t v,fn.params[j]? = some t→args[j]? = some v→Value.okWide C.prog W .any base t v) →
   DataW.Whole enc C.prog fn.params.toList s.vars apart W args.toList ds gs before →
   X W args→W.ShapedOpen C.prog →
   Calls C.prog f args W λe W'=>∃v,e=.returned v∧s.post enc C.prog fn apart fresh handsOn again W args v W') :
  ReturnsInHanded a C os f .any (λw args=>(s.pre enc C.prog fn conds apart w args∧X w args)∧sizedMet enc C.prog fn (OpenSpec.ofChange s) apart w args) (s.post enc C.prog fn apart fresh handsOn again):=by
 refine returnsInHanded_of_calls own started noInit witness ?_
 intro w tape i _ hsh _ hok hpre _
 obtain⟨_,_,_,fn',hfn',_,_,_,_,hval⟩:=hok
 have e:fn'=fn:=Option.some.inj (hfn'.symm.trans hfn)
 subst e
 obtain⟨⟨⟨ds,gs,before,hw,hc⟩,hx⟩,hz⟩:=hpre
 have hw':=DataW.Whole.of_heap (w':=w.forCall tape i) (by rfl) hw
 refine (contract (w.forCall tape i) w.heap.size i.args ds gs before hval hw' (hX _ _ _ (by rfl) hx) hsh).mono λe W' ⟨v,he,hp⟩=>?_
 simp_all[ChangeSpec.post_blind]
noncomputable def mapWorld(P:Program)(os:Os)(g:Nat)(es:Array MapEntry):World :=
 { World.holding P os ⟨#[],#[],[]⟩with heap:=((World.holding P os ⟨#[],#[],[]⟩).heap.modify g λo=>match o with | .cells _ t f=>.cells #[.map (some (World.holding P os ⟨#[],#[],[]⟩).heap.size)] t f | o=>o).push (.map es es.size) }
def kB(laid:List (String×DataW Unit))(n:String):List String:=(laid.map (·.1)).filter (· != n)
noncomputable def je(P:Program)(os:Os)(g:Nat)(es:Array MapEntry)(laid:List (String×DataW Unit))(n:String):World :=
 (mapWorld P os g es).layVars P (laid.filter λx=>(kB laid n).contains x.1)
theorem laidMaps_os(P:Program)(os:Os)(g:Nat)(es:Array MapEntry)(laid:List (String×DataW Unit))(n:String):(je P os g es laid n).os=os:=(World.layVars_os _ _ _).trans rfl
theorem mapDoor{P:Program}{os:Os}{g:Nat}{es:Array MapEntry}{laid:List (String×DataW Unit)}{n:String}(args:Array Value)(B:List Nat)(fuel:Nat)
  (hf:(mapWorld P os g es).layFits P (laid.filter λx=>(kB laid n).contains x.1) B=true)
  (hi:(mapWorld P os g es).layIfaces P (laid.filter λx=>(kB laid n).contains x.1) (je P os g es laid n)=true)
  (h1:(DataW.laidRun P (je P os g es laid n) fuel ((laid.filter λx=>!(kB laid n).contains x.1).map (·.1))).map (·.1)=some (laid.filter λx=>!(kB laid n).contains x.1))
  (h2:(DataW.laidRun P (je P os g es laid n) fuel ((laid.filter λx=>!(kB laid n).contains x.1).map (·.1))).map (λx=>nodupB (x.2.map MemPlace.codeOf))=some true)
  (h3:(DataW.laidRun P (je P os g es laid n) fuel ((laid.filter λx=>!(kB laid n).contains x.1).map (·.1))).map (λx=>laidRowsB P (je P os g es laid n) x.2)=some true)
  (h4:(DataW.laidRun P (je P os g es laid n) fuel ((laid.filter λx=>!(kB laid n).contains x.1).map (·.1))).map (λx=>x.2.all λp=>B.contains p.block)=some true) :
  laidMet P laid ((je P os g es laid n).forCall (λ_ _=>0) ⟨#[],args,[]⟩).memory :=
 (laidMet_layVars (w0:=mapWorld P os g es) (w':=je P os g es laid n) (kB laid n) B rfl hf hi (LaidIn.of_run B fuel h1 h2 h3 h4)).of_heap (by simp[World.memory,World.forCall,Input.heap])
end Go.Proofs.YtphbhdoljnokkaaGreatDoor
