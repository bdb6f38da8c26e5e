import Derived.Test.YtphbhdoljnokkaaGreatDoorG1
import Derived.Test.YtphbhdoljnokkaaGreatDoorS4
namespace Go.Proofs.YtphbhdoljnokkaaGreatDoor
open Go.RowKit
set_option linter.unusedVariables false
set_option linter.unusedSimpArgs false
def fnZ{P:Program}(g:Pg P)(rs:List ResultVar)(e:TypeId){ρ:Type}(en:ρ→List (List D))(Yc:ρ→V→V)(r:ρ):SQ:=retQ g rs (λy s'=>ZRes s' y e (en r) (Yc r))
section
variable {P : Program} {g : Pg P} {fr : Fr} {s : Sg}
theorem specZ_mir{f:FuncId}{fn:Func}{c:Code}(hf:P.funcs[f]? = some fn)(hb:fn.body=some c)(he:cm P f=true)(hdr:fg c=true){args:List V}{e:TypeId}{ρ:Type}(en:ρ→List (List D))(Yc:ρ→V→V){m:Option ρ}{y:ρ}(hY:Ctx1 (Yc y))(hes:scalE (en y)=true)
  (h:Mir g c (args++List.replicate (fn.ntmps-args.length) .undef) ⟨[],[]⟩ m (fnZ g fn.results.toList e en Yc)) (hy:m=some y):SpecZ g f args e (en y) (Yc y):=specZ_by hf hb he hdr hY hes (h y hy)
theorem fz_r{rs:List ResultVar}{e:TypeId}{ρ:Type}{en:ρ→List (List D)}{Yc:ρ→V→V}{r:ρ}:fnZ g rs e en Yc r .ret fr s=(match resV g rs fr s with | some y=>ZRes s y e (en r) (Yc r) | none=>False):=nr rfl
theorem fz_n{rs:List ResultVar}{e:TypeId}{ρ:Type}{en:ρ→List (List D)}{Yc:ρ→V→V}{r:ρ}:fnZ g rs e en Yc r .normal fr s=(match resV g rs fr s with | some y=>ZRes s y e (en r) (Yc r) | none=>False):=nr rfl
theorem Mir.regionA{ε:Type}{Φ:ε→SQ}{m:Option ε}{id:Nat}{ops:Array Oper}(n:Nat)(L:List (Tmp×Tmp))(F1:Fr)(S1:Sg)(hL:(tailW ops n,lH ops n,gu (dn ops n),seps (dn ops n))=(true,true,true,L))
  (h:∀e,m=some e→regS g true ops (ops.toList.take n) fr s (λfr' s'=>sepL L fr'=true∧regA g ops (atF F1 S1) (full ops.size n) fr' s')) (h2:∀e,m=some e→Φ e .normal F1 S1):Mir g (.region id ops true) fr s m Φ:=λe he=>SWs.regionA n L F1 S1 hL (h e he) (h2 e he)
end
end Go.Proofs.YtphbhdoljnokkaaGreatDoor
