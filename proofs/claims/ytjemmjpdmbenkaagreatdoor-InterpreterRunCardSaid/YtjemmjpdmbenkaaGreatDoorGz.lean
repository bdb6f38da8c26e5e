import Derived.Test.YtjemmjpdmbenkaaGreatDoorG1
import Derived.Test.YtjemmjpdmbenkaaGreatDoorS4
namespace Go.Proofs.YtjemmjpdmbenkaaGreatDoor
open Go.RowKit
set_option linter.unusedVariables false
set_option linter.unusedSimpArgs false
section
variable {P : Program} {g : Pg P} {fr : Fr} {s : Sg}
theorem Mir.regionA{ε:Type}{Φ:ε→SQ}{m:Option ε}{id:Nat}{ops:Array Oper}(n:Nat)(L:List (Tmp×Tmp))(F1:Fr)(S1:Sg)(hL:(tailW ops n,jc ops n,dy (bD ops n),seps (bD ops n))=(true,true,true,L))
  (h:∀e,m=some e→regS g true ops (ops.toList.take n) fr s (λfr' s'=>sepL L fr'=true∧regA g ops (atF F1 S1) (full ops.size n) fr' s')) (h2:∀e,m=some e→Φ e .normal F1 S1):Mir g (.region id ops true) fr s m Φ:=λe he=>SWs.regionA n L F1 S1 hL (h e he) (h2 e he)
end
end Go.Proofs.YtjemmjpdmbenkaaGreatDoor
