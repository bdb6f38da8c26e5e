import Derived.Test.YtphbhdoljnokkaaGreatDoorTy
import Derived.Test.YtphbhdoljnokkaaGreatDoorSzj2
namespace Go.Proofs.YtphbhdoljnokkaaGreatDoor
open Go.RowKit
open Nat renaming reduceAdd → nA,reduceSub → nS,reduceMul → nM,reduceEqDiff → nE,reduceLeDiff → nL,reduceLT → nT,reduceBEq → nB
open Int renaming reduceLT → iT,reduceToNat → iN,reduceEq → iE
set_option linter.unusedVariables false
set_option linter.unusedSimpArgs false
set_option maxRecDepth 100000
set_option maxHeartbeats 4000000
theorem allUnder_set{n m:Nat}{c:List V}(hc:V.unders n m c=true):∀{l:List (List V)} {k:Nat},jp n m l=true→jp n m (l.set k c)=true
 | [],k,h=>by simpa using h
 | d::l,0,h=>by
  simp_all[jp]
 | d::l,k+1,h=>by
  simp only[jp,Bool.and_eq_true,List.set_cons_succ]at h ⊢
  exact⟨h.1,allUnder_set hc h.2⟩
theorem bN{s:Sg}{k:Nat}{b ok:Bool}{lo hi:Int}{R:V→Sg→Prop}(hk:s.obs[k]? = some [.d (.bool b)])(hu:jp s.obs.length s.lns.length s.obs=true)(hR:R (.agg [.d (.int .i64 lo),.d (.int .i64 hi)]) ⟨s.obs.set k [.d (.bool (b&&ok))],s.lns⟩) :
  bf gP 230 [.ptr k 0,.agg [.d (.int .i64 lo),.d (.int .i64 hi)],.d (.bool ok)] s R:=by
 obtain⟨ob,ln⟩:=s
 simp only at hk hR hu
 have hlt:k<ob.length:=aF hk
 have e1:∀x,(ob++[x])[k]? = some [V.d (.bool b)]:=by grind
 have e2:∀x y,(ob++[x]++[y])[k]? = some [V.d (.bool b)]:=by grind
 have e3:∀x y v,(ob++[x]++[y]).set k v=ob.set k v++[x]++[y]:=by
  simp_all
 have e4:∀v x y,(ob.set k v++[x]++[y])[ob.length]? = some x:=by
  simp_all
 have e5:∀v x y,(ob.set k v++[x]++[y])[ob.length+1]? = some y:=by
  simp_all
 have e6:∀v x y z,(ob.set k v++[x]++[y]).set (ob.length+1) z=ob.set k v++[x]++[z]:=by
  simp_all
 refine bf.inl Tryz.func230 rfl (by kernel_rfl) (by kernel_rfl) (λ_:Unit=>.agg [.d (.int .i64 lo),.d (.int .i64 hi)]) (λ_=>⟨ob.set k [.d (.bool (b&&ok))],ln⟩) (m1:=some ()) (v:=()) rfl ?_ ?_ hR
 ·simp only[okF,Bool.and_eq_true,List.length_set]
  exact⟨⟨⟨rfl,allUnder_set rfl hu⟩,by simp⟩,by simp⟩
 ·intro e he
  simp only[List.replicate,List.length,nS,nA,Tryz.ntmps230,SV]
  refine SWs.seq (SWs.region ?_)
  simp only[↓reduceIte,reduceCtorEq,nA,nS,nM,nE,nL,nT,nB,iT,iN,iE,and_self,SR,SV,jy,jF,zero_273,pl_273,SL]
  have hR2:∀x y,leS ⟨ob.set k [V.d (.bool (b&&ok))]++[x]++[y],ln⟩ ⟨ob.set k [.d (.bool (b&&ok))],ln⟩:=by
   intro x y
   refine⟨?_,by simp⟩
   rw[List.append_assoc]
   generalize ob.set k [V.d (.bool (b&&ok))]=l
   induction l<;>simp_all[leO,leL_refl]
  cases b
  all_goals
   refine SWs.seq (SWs.region ?_)
   simp only[↓reduceIte,reduceCtorEq,nA,nS,nM,nE,nL,nT,nB,iT,iN,iE,and_self,SR,SV,PB,Bool.false_and,Bool.true_and,beq_self_eq_true,Option.some.injEq,qX,qW,Bool.beq_eq_decide_eq,e1,e2,e3,und_4,sz_4,ag_4,fld_317_0,sz_317,ag_317,SL]
   refine SWs.seq (SWs.region ?_)
   simp only[↓reduceIte,reduceCtorEq,nA,nS,nM,nE,nL,nT,nB,iT,iN,iE,and_self,SR,SV,e4,e5,e6,jy,jF,pl_273,SL]
   refine SWs.ret ?_
   simp only[SL,Tryz.results230,inQ]
   simp only[e5,jF,jy,List.length_cons,List.length_nil,Nat.zero_add,nA,nL,Nat.le_refl,qX,↓reduceIte,List.take_succ_cons,List.take_zero]
   exact⟨.refl _,hR2 _ _⟩
end Go.Proofs.YtphbhdoljnokkaaGreatDoor
