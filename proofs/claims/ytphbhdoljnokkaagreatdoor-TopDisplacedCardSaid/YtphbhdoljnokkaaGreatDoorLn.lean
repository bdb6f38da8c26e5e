import Derived.Test.YtphbhdoljnokkaaGreatDoorLb
import Derived.Test.YtphbhdoljnokkaaGreatDoorG1
import Derived.MapKept
import Derived.Maps.RangeRun
namespace Go.Proofs.YtphbhdoljnokkaaGreatDoor
open Go.RowKit
set_option linter.unusedVariables false
set_option linter.unusedSimpArgs false
def iX:List (Int×List UInt8):=[(1,[109,105,108,108]),(2,[100,114,105,108,108]),(3,[99,104,97,109,102,101,114]),(4,[112,114,111,98,101])]
def to_KindName(a0:Int):Option (List UInt8):=some ((mget iX a0).getD [])
def KindsIn(es:List MapEntry):Prop:=∀x∈es,∃p∈iX,x.key=.int .i64 p.1∧x.val=.string ⟨p.2.toArray⟩
theorem find_kinds{ik':IntKind}(n:Int):∀(es:List MapEntry) (i:Nat),KindsIn es →
  ((∀x∈es,x.key≠.int .i64 n)∧Instr.findNow (.int ik') (.int .i64 n) es i=some none)∨∃j p,p∈iX∧p.1=n∧Instr.findNow (.int ik') (.int .i64 n) es i=some (some (j,.string ⟨p.2.toArray⟩))
 | [],i,h=>.inl ⟨λx hx=>(by cases hx),rfl⟩
 | e::r,i,h=>by
  obtain⟨p,hp,e1,e2⟩:=h e (by simp)
  by_cases hk:n=p.1
  grind[Instr.findNow,Instr.sameNow]
  ·have hne:(n==p.1)=false:=by simp[hk]
   rcases find_kinds (ik':=ik') n r (i+1) (λx hx=>h x (by simp[hx]))with⟨a1,a2⟩|⟨j,q,a1,a2,a3⟩<;>grind[Instr.findNow,Instr.sameNow]
theorem kinds_at{p:Int×List UInt8}(h:p∈iX):(mget iX p.1).getD []=p.2:=by
 simp only[iX,List.mem_cons,List.not_mem_nil,or_false]at h
 rcases h with rfl | rfl | rfl | rfl<;>rfl
theorem kinds_no{n:Int}(h:∀p∈iX,p.1≠n):(mget iX n).getD []=[]:=by
 simp_all[iX,Ne.symm,mget]
theorem n5{a0:Int}{y:List UInt8}(h:to_KindName a0=some y):Spec gP 165 [.d (.int .i64 a0)] (.d (.str y)):=by
 injection h with h
 refine spec_str (by kernel_rfl) λw F vs hg hr=>?_
 obtain⟨v,rfl,r1⟩:=args1 hr
 have hv:=fw r1
 subst hv
 obtain⟨bm,es,clock,c1,c2,c3,c4,c5,c6⟩:=hg.2.2.2.2 3 _ rfl
 have hkey:MapKept.IsKey (.int .i64) (.int .i64 a0):=by simp[MapKept.IsKey]
 have hlook:(Instr.lookup 304 (.map (some bm)) (.int .i64 a0) false).run Tryz.prog w=.ok (.string ⟨y.toArray⟩) w:=by
  rcases find_kinds (ik':=.i64) a0 es.toList 0 c5 with⟨a1,a2⟩|⟨j,p,a1,a2,a3⟩
  ·have hn:y=[]:=by
    rw[←h]
    refine kinds_no λp hp hh=>?_
    obtain⟨x,x1,x2,_⟩:=c6 p hp
    simp_all
   subst hn
   simp[Instr.lookup,run_underlying Tryz.underlying304,MapKept.run_getObj_map c2,MapKept.run_checkKey Tryz.underlying3 hkey,MapKept.run_findKey Tryz.underlying3 a2]
  ·have hn:y=p.2:=by grind[kinds_at]
   subst hn
   simp[Instr.lookup,run_underlying Tryz.underlying304,MapKept.run_getObj_map c2,MapKept.run_checkKey Tryz.underlying3 hkey,MapKept.run_findKey Tryz.underlying3 a3]
 clear c2 c3 c4 c5 c6 h hg hr r1
 go_enter Tryz.func165,Tryz.ntmps165
 go_wp2
 go_ret
 simp_all[Kp.refl]
end Go.Proofs.YtphbhdoljnokkaaGreatDoor
