import Derived.Test.YtnnelopkjdgbgaaDoorGx
import Derived.Test.YtnnelopkjdgbgaaDoorTy
import Derived.Test.YtnnelopkjdgbgaaDoorClb
import Derived.Test.YtnnelopkjdgbgaaDoorIob
import Derived.Test.YtnnelopkjdgbgaaDoorSzj
import Derived.Test.YtnnelopkjdgbgaaDoorGo
import Derived.Test.YtnnelopkjdgbgaaDoorMB
import Derived.Test.YtnnelopkjdgbgaaDoorMH
import Derived.Test.YtnnelopkjdgbgaaDoorMW
namespace Go.Proofs.YtnnelopkjdgbgaaDoor
open Go.RowKit
open Nat renaming reduceAdd → nA,reduceSub → nS,reduceMul → nM,reduceEqDiff → nE,reduceLeDiff → nL,reduceLT → nT,reduceBEq → nB
open Int renaming reduceLT → iT,reduceToNat → iN,reduceEq → iE
set_option linter.unusedVariables false
set_option linter.unusedSimpArgs false
set_option maxRecDepth 100000
set_option maxHeartbeats 8000000
theorem EMLInterpreterRestored : type_of% (And.intro @SE <| @ENMB) := And.intro @SE <| @ENMB
theorem FMLInterpreterRestored : type_of% (And.intro @SF <| @ENMB) := And.intro @SF <| @ENMB
def slices_Clone_api_Block_api_Block (a0 : List ApiBlock) : Option (List ApiBlock) := guardO (okLen a0.length) (some a0)
theorem slices_Clone_api_Block_api_Block_n {c0 : Nat} {y : List ApiBlock} (h : (some []) = some y) : Spec gP 7 [.d (.other (.slice none 0 c0))] (.d (.list (List.map encApiBlock y))) := by
 refine spec_mir Tryd.func7 rfl (by kernel_rfl) (by kernel_rfl) (fun y : List ApiBlock=>.d (.list (List.map encApiBlock y))) ?_ h
 simp only [List.replicate,List.length,nS,nA,Tryd.ntmps7,SV]
 refine .sR fun e h=>?_
 simp only [seval,EMLInterpreterRestored]
 refine mU e (.seqK (.sR fun e h=>?_)) h
 simp only [seval,EMLInterpreterRestored,und_22]
 refine mU e (.condT rfl (.sR fun e h=>?_)) h
 simp only [seval,EMLInterpreterRestored]
 refine mU e (.ret fun e h=>?_) h
 cases h
 simp only [seval,FMLInterpreterRestored,Tryd.results7]
theorem slices_Clone_api_Block_api_Block_o {p0 : Addr} {c0 : Nat} {y : List ApiBlock} (h : (some []) = some y) : Spec gP 7 [.d (.other (.slice (some p0) 0 c0))] (.d (.list (List.map encApiBlock y))) := by
 refine spec_mir Tryd.func7 rfl (by kernel_rfl) (by kernel_rfl) (fun y : List ApiBlock=>.d (.list (List.map encApiBlock y))) ?_ h
 simp only [List.replicate,List.length,nS,nA,Tryd.ntmps7,SV]
 refine .sR fun e h=>?_
 simp only [seval,EMLInterpreterRestored]
 refine mU e (.seqK (.sR fun e h=>?_)) h
 simp only [seval,EMLInterpreterRestored,und_22]
 refine mU e (.condF rfl (.skip (Mir.toK (.sR fun e h=>?_)))) h
 simp only [seval,EMLInterpreterRestored,und_22,sz_41,zero_41,(oL 0),app_22,al_ApiBlock,List.all_cons,List.all_nil]
 refine mU e (.ret fun e h=>?_) h
 cases h
 simp only [seval,FMLInterpreterRestored,Tryd.results7]
theorem slices_Clone_api_Block_api_Block_c {x0 : ApiBlock} {l0 : List ApiBlock} {y : List ApiBlock} (h : (guardO (okLen ((x0 :: l0).length)) (   some (x0 :: l0))) = some y) : Spec gP 7 [.d (.list (List.map encApiBlock (x0 :: l0)))] (.d (.list (List.map encApiBlock y))) := by
 refine spec_mir Tryd.func7 rfl (by kernel_rfl) (by kernel_rfl) (fun y : List ApiBlock=>.d (.list (List.map encApiBlock y))) ?_ h
 simp only [List.replicate,List.length,nS,nA,Tryd.ntmps7,SV]
 refine .sR fun e h=>?_
 simp only [seval,EMLInterpreterRestored]
 refine mU e (.seqK (.sR fun e h=>?_)) h
 simp only [seval,EMLInterpreterRestored,und_22]
 refine mU e (.condF rfl (.skip (Mir.toK (.seqK (.guard fun q1=>.region fun e h=>?_))))) h
 simp only [seval,EMLInterpreterRestored,und_22,sz_41,zero_41,(oL 0),app_22,al_ApiBlock,q1]
 refine mU e (.ret fun e h=>?_) h
 cases h
 simp only [seval,FMLInterpreterRestored,Tryd.results7]
theorem slices_Clone_api_Block_api_Block_spec {a0 : List ApiBlock} {y : List ApiBlock} (h : slices_Clone_api_Block_api_Block a0 = some y) : Spec gP 7 [.d (.list (List.map encApiBlock a0))] (.d (.list (List.map encApiBlock y))) := by
 obtain ⟨hl,h⟩ := guardO_some h
 cases h
 cases a0 with
 | nil =>
  refine Spec.nilcase fun A c=>?_
  cases A with
  | none=>exact slices_Clone_api_Block_api_Block_n rfl
  | some p=>exact slices_Clone_api_Block_api_Block_o rfl
 | cons x l=>exact slices_Clone_api_Block_api_Block_c (by simp only [guardO,hl])
theorem slices_Clone_api_Block_api_Block_specR {a0 y : List ApiBlock} (h : slices_Clone_api_Block_api_Block a0 = some y) : SpecR gP 7 [.d (.list (List.map encApiBlock a0))] 41 (List.map encApiBlock y) := by
 obtain ⟨hl,h⟩ := guardO_some h
 cases h
 exact clone_specR (by simpa using hl) (by simp [List.all_eq_true,encApiBlock])
def l47_InterpreterRestored (a0 : (List ApiBlock)) (a1 : L47Setting) (a2 : Int) : Option Bool := bindO (bindO (l47_awake ) fun (y1 : Bool)=>if y1 = true then bindO (l47_few a0 a1) fun (y2 : Bool)=>some (!y2) else some true) fun (v1 : Bool)=>if v1 = true then bindO (l47_awake ) fun (y3 : Bool)=>some y3 else guardO (!((IntKind.i64.wrap ((a0.length : Int) + 1)) == 0)) ( bindO (slices_Clone_api_Block_api_Block a0) fun (y4 : (List ApiBlock))=>bindO (inp_States y4 (Int.tmod (IntKind.i64.wrap a2) (IntKind.i64.wrap ((a0.length : Int) + 1)))) fun (y5 : ModalState × Int)=>if (y5.2 != 0) = true then some true else bindO (slices_Clone_api_Block_api_Block a0) fun (y6 : (List ApiBlock))=>bindO (l47_theirs a1.Table) fun (y7 : TableTable)=>bindO (inp_Blocks y6 y7 a1.From) fun (y8 : (List ApiMotion) × InterpreterAlarm)=>bindO (slices_Clone_api_Block_api_Block a0) fun (y9 : (List ApiBlock))=>bindO (md_Line y5.1) fun (y10 : ApiBlock)=>guardO (decide (0 ≤ (Int.tmod (IntKind.i64.wrap a2) (IntKind.i64.wrap ((a0.length : Int) + 1))) ∧ (Int.tmod (IntKind.i64.wrap a2) (IntKind.i64.wrap ((a0.length : Int) + 1))) ≤ (y9.length : Int))) ( guardO (okLen (y9.length + 1)) ( bindO (l47_theirs a1.Table) fun (y11 : TableTable)=>bindO (inp_Blocks (y9.take (Int.toNat (Int.tmod (IntKind.i64.wrap a2) (IntKind.i64.wrap ((a0.length : Int) + 1)))) ++ [y10] ++ y9.drop (Int.toNat (Int.tmod (IntKind.i64.wrap a2) (IntKind.i64.wrap ((a0.length : Int) + 1))))) y11 a1.From) fun (y12 : (List ApiMotion) × InterpreterAlarm)=>if (((y8.1.length : Int) != (y12.1.length : Int)) || ((y8.2.Code != y12.2.Code) || (if (decide (y8.2.Block ≥ (Int.tmod (IntKind.i64.wrap a2) (IntKind.i64.wrap ((a0.length : Int) + 1))))) = true then (y12.2.Block != (IntKind.i64.wrap (y8.2.Block + 1))) || ((decide (y8.2.Block < (Int.tmod (IntKind.i64.wrap a2) (IntKind.i64.wrap ((a0.length : Int) + 1))))) && (y12.2.Block != y8.2.Block)) else (decide (y8.2.Block < (Int.tmod (IntKind.i64.wrap a2) (IntKind.i64.wrap ((a0.length : Int) + 1))))) && (y12.2.Block != y8.2.Block)))) = true then some false else bindX (guardO (okIdx y8.1) ( rangeX (fun (i1 : Nat) (e1 : ApiMotion) (v2 : Unit)=>bindO (if (decide (e1.Block ≥ (Int.tmod (IntKind.i64.wrap a2) (IntKind.i64.wrap ((a0.length : Int) + 1))))) = true then some (IntKind.i64.wrap (e1.Block + 1)) else some e1.Block) fun (v3 : Int)=>bindO (gt y12.1 (i1 : Int)) fun (e2 : ApiMotion)=>if (!((e1.From.X == e2.From.X) && ((e1.From.Y == e2.From.Y) && ((e1.From.Z == e2.From.Z) && ((e1.To.X == e2.To.X) && ((e1.To.Y == e2.To.Y) && ((e1.To.Z == e2.To.Z) && ((e1.Rate == e2.Rate) && ((e1.Tool == e2.Tool) && (v3 == e2.Block)))))))))) = true then some (.ret (.ret false)) else some (.go ())) (fun (v2 : Unit)=>some (.go ())) y8.1 0 ())) fun (v4 : Unit)=>some true)))
theorem l47_InterpreterRestored_spec {a0 : (List ApiBlock)} {a1 : L47Setting} {a2 : Int} {y : Bool} (h : l47_InterpreterRestored a0 a1 a2 = some y) : Spec gP 3 [.d (.list (List.map encApiBlock a0)),.agg [.d (.int .i64 a1.Table.Work.e0.X),.d (.int .i64 a1.Table.Work.e0.Y),.d (.int .i64 a1.Table.Work.e0.Z),.d (.int .i64 a1.Table.Work.e1.X),.d (.int .i64 a1.Table.Work.e1.Y),.d (.int .i64 a1.Table.Work.e1.Z),.d (.int .i64 a1.Table.Work.e2.X),.d (.int .i64 a1.Table.Work.e2.Y),.d (.int .i64 a1.Table.Work.e2.Z),.d (.int .i64 a1.Table.Work.e3.X),.d (.int .i64 a1.Table.Work.e3.Y),.d (.int .i64 a1.Table.Work.e3.Z),.d (.int .i64 a1.Table.Work.e4.X),.d (.int .i64 a1.Table.Work.e4.Y),.d (.int .i64 a1.Table.Work.e4.Z),.d (.int .i64 a1.Table.Work.e5.X),.d (.int .i64 a1.Table.Work.e5.Y),.d (.int .i64 a1.Table.Work.e5.Z),.d (.list (List.map encR45Length a1.Table.Lengths)),.d (.int .i64 a1.From.X),.d (.int .i64 a1.From.Y),.d (.int .i64 a1.From.Z)],.d (.int .u8 a2)] (.d (.bool y)) := by
 refine spec_mir Tryd.func3 rfl (by kernel_rfl) (by kernel_rfl) (fun y : Bool=>.d (.bool y)) ?_ h
 unfold l47_InterpreterRestored
 simp only [List.replicate,List.length,nS,nA,Tryd.ntmps3,SV]
 refine .seqK (.regionW fun e h=>regW.alt 0 rfl ?_)
 simp only [seval,EMLInterpreterRestored,w_none,w_eq]
 refine alt_boxF [.int .i64 a1.Table.Work.e0.X,.int .i64 a1.Table.Work.e0.Y,.int .i64 a1.Table.Work.e0.Z,.int .i64 a1.Table.Work.e1.X,.int .i64 a1.Table.Work.e1.Y,.int .i64 a1.Table.Work.e1.Z,.int .i64 a1.Table.Work.e2.X,.int .i64 a1.Table.Work.e2.Y,.int .i64 a1.Table.Work.e2.Z,.int .i64 a1.Table.Work.e3.X,.int .i64 a1.Table.Work.e3.Y,.int .i64 a1.Table.Work.e3.Z,.int .i64 a1.Table.Work.e4.X,.int .i64 a1.Table.Work.e4.Y,.int .i64 a1.Table.Work.e4.Z,.int .i64 a1.Table.Work.e5.X,.int .i64 a1.Table.Work.e5.Y,.int .i64 a1.Table.Work.e5.Z,.list (List.map encR45Length a1.Table.Lengths),.int .i64 a1.From.X,.int .i64 a1.From.Y,.int .i64 a1.From.Z] _ rfl rfl (regW.of ?_)
 simp only [seval,EMLInterpreterRestored,w_none,w_eq]
 refine mU e (.seqK (.seqK (Mir.joinO (fun v1 : Bool=>([.d (.list (List.map encApiBlock a0)),U,.d (.int .u8 a2),U,.iptr [.int .i64 a1.Table.Work.e0.X,.int .i64 a1.Table.Work.e0.Y,.int .i64 a1.Table.Work.e0.Z,.int .i64 a1.Table.Work.e1.X,.int .i64 a1.Table.Work.e1.Y,.int .i64 a1.Table.Work.e1.Z,.int .i64 a1.Table.Work.e2.X,.int .i64 a1.Table.Work.e2.Y,.int .i64 a1.Table.Work.e2.Z,.int .i64 a1.Table.Work.e3.X,.int .i64 a1.Table.Work.e3.Y,.int .i64 a1.Table.Work.e3.Z,.int .i64 a1.Table.Work.e4.X,.int .i64 a1.Table.Work.e4.Y,.int .i64 a1.Table.Work.e4.Z,.int .i64 a1.Table.Work.e5.X,.int .i64 a1.Table.Work.e5.Y,.int .i64 a1.Table.Work.e5.Z,.list (List.map encR45Length a1.Table.Lengths),.int .i64 a1.From.X,.int .i64 a1.From.Y,.int .i64 a1.From.Z] 0,U,U,U,U,U,U,U,U,U,U,U,U,U,U,U,U,U,U,.d (.bool v1)] ++ us 106)) (fun v1=>⟨[],[]⟩) (fun _=>rfl) ?_ ?_))) h
 refine .bind fun y1 hy1=>.ite (fun hb2=>?_) (fun hb2=>?_)
 refine .bind fun y2 hy3=>.region fun e h=>?_
 simp only [seval,EMLInterpreterRestored,hb2]
 refine SpecS.by (l47_awake_spec hy1) (rfl) ?_
 simp only [seval,EMLInterpreterRestored,ag_30,sz_30,hb2]
 refine SpecS.by (l47_few_spec hy3) (by simp only [seval,FMLInterpreterRestored,hb2]) ?_
 simp only [seval,EMLInterpreterRestored,hb2]
 cases h
 simp only [seval,FMLInterpreterRestored,hb2]
 refine .region fun e h=>?_
 simp only [seval,EMLInterpreterRestored,hb2]
 refine SpecS.by (l47_awake_spec hy1) (rfl) ?_
 simp only [seval,EMLInterpreterRestored,hb2]
 cases h
 simp only [seval,FMLInterpreterRestored,hb2]
 intro v1
 refine Mir.toK (.cond rfl (fun hb6=>?_) (fun hb6=>?_))
 refine .seqK (.bind fun y3 hy7=>.region fun e h=>?_)
 simp only [seval,EMLInterpreterRestored]
 refine SpecS.by (l47_awake_spec hy7) (rfl) ?_
 simp only [seval,EMLInterpreterRestored]
 refine mU e (.ret fun e h=>?_) h
 cases h
 simp only [seval,FMLInterpreterRestored,Tryd.results3]
 refine .skip (Mir.toK (.seqK (.guard fun q8=>?_)))
 replace q8 := ne_of q8
 refine .region fun e h=>?_
 simp only [seval,EMLInterpreterRestored,und_5,und_3,und_22,q8]
 refine mU e (.seqK (.bind fun y4 hy9=>.bind fun y5 hy10=>.region fun e h=>?_)) h
 simp only [seval,EMLInterpreterRestored]
 refine SpecS.by (slices_Clone_api_Block_api_Block_spec hy9) (by simp only [seval,FMLInterpreterRestored]) ?_
 simp only [seval,EMLInterpreterRestored]
 refine SpecS.by (inp_States_spec hy10) (by simp only [seval,FMLInterpreterRestored]) ?_
 simp only [seval,EMLInterpreterRestored,zero_34,sz_34]
 refine mU e (.seqK (.sR fun e h=>?_)) h
 simp only [seval,EMLInterpreterRestored]
 refine mU e (.cond rfl (fun hb12=>?_) (fun hb12=>?_)) h
 refine .sR fun e h=>?_
 simp only [seval,EMLInterpreterRestored]
 refine mU e (.ret fun e h=>?_) h
 cases h
 simp only [seval,FMLInterpreterRestored,Tryd.results3]
 refine .skip (Mir.toK (.seqK (.bind fun y6 hy13=>.bind fun y7 hy14=>.bind fun y8 hy15=>.regionD [] (by kernel_rfl) fun e h=>?_)))
 simp only [seval,EMLInterpreterRestored,SB]
 refine Spec.by (slices_Clone_api_Block_api_Block_spec hy13) (by simp only [seval,FMLInterpreterRestored]) ?_
 simp only [seval,EMLInterpreterRestored,SB,fld_30_0,sz_28,ag_28]
 refine Spec.by (l47_theirs_spec hy14) (by simp only [seval,FMLInterpreterRestored]) ?_
 simp only [seval,EMLInterpreterRestored,SB,fld_30_1,sz_24,ag_24]
 refine Spec.by (inp_Blocks_spec hy15) (by simp only [seval,FMLInterpreterRestored]) ?_
 simp only [seval,EMLInterpreterRestored,SB,zero_44,sz_44]
 refine mU e (.seqK (Mir.ghRow 41 (.bind fun y9 hy16=>.bind fun y10 hy17=>.guard fun q18=>.guard fun q19=>.bind fun y11 hy20=>.bind fun y12 hy21=>Mir.regionA 0 [] ([.d (.list (List.map encApiBlock a0)),U,.d (.int .u8 a2),U,.iptr [.int .i64 a1.Table.Work.e0.X,.int .i64 a1.Table.Work.e0.Y,.int .i64 a1.Table.Work.e0.Z,.int .i64 a1.Table.Work.e1.X,.int .i64 a1.Table.Work.e1.Y,.int .i64 a1.Table.Work.e1.Z,.int .i64 a1.Table.Work.e2.X,.int .i64 a1.Table.Work.e2.Y,.int .i64 a1.Table.Work.e2.Z,.int .i64 a1.Table.Work.e3.X,.int .i64 a1.Table.Work.e3.Y,.int .i64 a1.Table.Work.e3.Z,.int .i64 a1.Table.Work.e4.X,.int .i64 a1.Table.Work.e4.Y,.int .i64 a1.Table.Work.e4.Z,.int .i64 a1.Table.Work.e5.X,.int .i64 a1.Table.Work.e5.Y,.int .i64 a1.Table.Work.e5.Z,.list (List.map encR45Length a1.Table.Lengths),.int .i64 a1.From.X,.int .i64 a1.From.Y,.int .i64 a1.From.Z] 0,U,U,.d (.int .i64 (Int.tmod (IntKind.i64.wrap a2) (IntKind.i64.wrap ((a0.length : Int) + 1)))),.ptr 0 0,.d (.int .i64 y5.2),.d (.list (List.map encApiMotion y8.1)),.ptr 1 0,.d (.list (List.map encApiMotion y12.1)),.ptr 3 0,U,U,U,U,U,U,U,U,U,.d (.bool v1),U,.d (.int .u8 a2),.d (.int .i64 (IntKind.i64.wrap a2)),.d (.list (List.map encApiBlock a0)),.d (.int .i64 (a0.length : Int)),.d (.int .i64 (IntKind.i64.wrap ((a0.length : Int) + 1))),.d (.int .i64 (Int.tmod (IntKind.i64.wrap a2) (IntKind.i64.wrap ((a0.length : Int) + 1)))),.tuple [.agg [.d (.int .i64 y5.1.Motion),.d (.int .i64 y5.1.Distance),.d (.int .i64 y5.1.Work),.d (.int .i64 y5.1.Length),.d (.int .i64 y5.1.Return),.d (.int .i64 y5.1.Feed),.d (.int .i64 y5.1.Tool),.d (.int .i64 y5.1.Offset)],.d (.int .i64 y5.2)],.d (.list (List.map encApiBlock a0)),.d (.list (List.map encApiBlock y4)),.d (.int .i64 (Int.tmod (IntKind.i64.wrap a2) (IntKind.i64.wrap ((a0.length : Int) + 1)))),.tuple [.agg [.d (.int .i64 y5.1.Motion),.d (.int .i64 y5.1.Distance),.d (.int .i64 y5.1.Work),.d (.int .i64 y5.1.Length),.d (.int .i64 y5.1.Return),.d (.int .i64 y5.1.Feed),.d (.int .i64 y5.1.Tool),.d (.int .i64 y5.1.Offset)],.d (.int .i64 y5.2)],.agg [.d (.int .i64 y5.1.Motion),.d (.int .i64 y5.1.Distance),.d (.int .i64 y5.1.Work),.d (.int .i64 y5.1.Length),.d (.int .i64 y5.1.Return),.d (.int .i64 y5.1.Feed),.d (.int .i64 y5.1.Tool),.d (.int .i64 y5.1.Offset)],.d (.int .i64 y5.2),.d (.int .i64 y5.2),.d (.bool (y5.2 != 0)),.tuple [.d (.list (List.map encApiMotion y8.1)),.agg [.d (.int .i64 y8.2.Block),.d (.int .i64 y8.2.Code)]],.d (.list (List.map encApiBlock a0)),.d (.list (List.map encApiBlock y6)),.iptr [.int .i64 a1.Table.Work.e0.X,.int .i64 a1.Table.Work.e0.Y,.int .i64 a1.Table.Work.e0.Z,.int .i64 a1.Table.Work.e1.X,.int .i64 a1.Table.Work.e1.Y,.int .i64 a1.Table.Work.e1.Z,.int .i64 a1.Table.Work.e2.X,.int .i64 a1.Table.Work.e2.Y,.int .i64 a1.Table.Work.e2.Z,.int .i64 a1.Table.Work.e3.X,.int .i64 a1.Table.Work.e3.Y,.int .i64 a1.Table.Work.e3.Z,.int .i64 a1.Table.Work.e4.X,.int .i64 a1.Table.Work.e4.Y,.int .i64 a1.Table.Work.e4.Z,.int .i64 a1.Table.Work.e5.X,.int .i64 a1.Table.Work.e5.Y,.int .i64 a1.Table.Work.e5.Z,.list (List.map encR45Length a1.Table.Lengths),.int .i64 a1.From.X,.int .i64 a1.From.Y,.int .i64 a1.From.Z] 0,.agg [.d (.int .i64 a1.Table.Work.e0.X),.d (.int .i64 a1.Table.Work.e0.Y),.d (.int .i64 a1.Table.Work.e0.Z),.d (.int .i64 a1.Table.Work.e1.X),.d (.int .i64 a1.Table.Work.e1.Y),.d (.int .i64 a1.Table.Work.e1.Z),.d (.int .i64 a1.Table.Work.e2.X),.d (.int .i64 a1.Table.Work.e2.Y),.d (.int .i64 a1.Table.Work.e2.Z),.d (.int .i64 a1.Table.Work.e3.X),.d (.int .i64 a1.Table.Work.e3.Y),.d (.int .i64 a1.Table.Work.e3.Z),.d (.int .i64 a1.Table.Work.e4.X),.d (.int .i64 a1.Table.Work.e4.Y),.d (.int .i64 a1.Table.Work.e4.Z),.d (.int .i64 a1.Table.Work.e5.X),.d (.int .i64 a1.Table.Work.e5.Y),.d (.int .i64 a1.Table.Work.e5.Z),.d (.list (List.map encR45Length a1.Table.Lengths))],.agg [.d (.int .i64 y7.Work.e0.X),.d (.int .i64 y7.Work.e0.Y),.d (.int .i64 y7.Work.e0.Z),.d (.int .i64 y7.Work.e1.X),.d (.int .i64 y7.Work.e1.Y),.d (.int .i64 y7.Work.e1.Z),.d (.int .i64 y7.Work.e2.X),.d (.int .i64 y7.Work.e2.Y),.d (.int .i64 y7.Work.e2.Z),.d (.int .i64 y7.Work.e3.X),.d (.int .i64 y7.Work.e3.Y),.d (.int .i64 y7.Work.e3.Z),.d (.int .i64 y7.Work.e4.X),.d (.int .i64 y7.Work.e4.Y),.d (.int .i64 y7.Work.e4.Z),.d (.int .i64 y7.Work.e5.X),.d (.int .i64 y7.Work.e5.Y),.d (.int .i64 y7.Work.e5.Z),.d (.list (List.map encTableLength y7.Lengths))],.iptr [.int .i64 a1.Table.Work.e0.X,.int .i64 a1.Table.Work.e0.Y,.int .i64 a1.Table.Work.e0.Z,.int .i64 a1.Table.Work.e1.X,.int .i64 a1.Table.Work.e1.Y,.int .i64 a1.Table.Work.e1.Z,.int .i64 a1.Table.Work.e2.X,.int .i64 a1.Table.Work.e2.Y,.int .i64 a1.Table.Work.e2.Z,.int .i64 a1.Table.Work.e3.X,.int .i64 a1.Table.Work.e3.Y,.int .i64 a1.Table.Work.e3.Z,.int .i64 a1.Table.Work.e4.X,.int .i64 a1.Table.Work.e4.Y,.int .i64 a1.Table.Work.e4.Z,.int .i64 a1.Table.Work.e5.X,.int .i64 a1.Table.Work.e5.Y,.int .i64 a1.Table.Work.e5.Z,.list (List.map encR45Length a1.Table.Lengths),.int .i64 a1.From.X,.int .i64 a1.From.Y,.int .i64 a1.From.Z] 19,.agg [.d (.int .i64 a1.From.X),.d (.int .i64 a1.From.Y),.d (.int .i64 a1.From.Z)],.tuple [.d (.list (List.map encApiMotion y8.1)),.agg [.d (.int .i64 y8.2.Block),.d (.int .i64 y8.2.Code)]],.d (.list (List.map encApiMotion y8.1)),.agg [.d (.int .i64 y8.2.Block),.d (.int .i64 y8.2.Code)],.tuple [.d (.list (List.map encApiMotion y12.1)),.agg [.d (.int .i64 y12.2.Block),.d (.int .i64 y12.2.Code)]],.d (.list (List.map encApiBlock a0)),.gr 2 1,.d (.int .i64 (Int.tmod (IntKind.i64.wrap a2) (IntKind.i64.wrap ((a0.length : Int) + 1)))),.agg [.d (.int .i64 y5.1.Motion),.d (.int .i64 y5.1.Distance),.d (.int .i64 y5.1.Work),.d (.int .i64 y5.1.Length),.d (.int .i64 y5.1.Return),.d (.int .i64 y5.1.Feed),.d (.int .i64 y5.1.Tool),.d (.int .i64 y5.1.Offset)],.agg [.d (.bool y10.Skip),.d (.list (List.map encApiWord y10.Words)),.d (.str y10.Comment)],.full (List.map encApiBlock [y10]),.d (.list (List.map encApiBlock (y9.take (Int.toNat (Int.tmod (IntKind.i64.wrap a2) (IntKind.i64.wrap ((a0.length : Int) + 1)))) ++ [y10] ++ y9.drop (Int.toNat (Int.tmod (IntKind.i64.wrap a2) (IntKind.i64.wrap ((a0.length : Int) + 1))))))),.iptr [.int .i64 a1.Table.Work.e0.X,.int .i64 a1.Table.Work.e0.Y,.int .i64 a1.Table.Work.e0.Z,.int .i64 a1.Table.Work.e1.X,.int .i64 a1.Table.Work.e1.Y,.int .i64 a1.Table.Work.e1.Z,.int .i64 a1.Table.Work.e2.X,.int .i64 a1.Table.Work.e2.Y,.int .i64 a1.Table.Work.e2.Z,.int .i64 a1.Table.Work.e3.X,.int .i64 a1.Table.Work.e3.Y,.int .i64 a1.Table.Work.e3.Z,.int .i64 a1.Table.Work.e4.X,.int .i64 a1.Table.Work.e4.Y,.int .i64 a1.Table.Work.e4.Z,.int .i64 a1.Table.Work.e5.X,.int .i64 a1.Table.Work.e5.Y,.int .i64 a1.Table.Work.e5.Z,.list (List.map encR45Length a1.Table.Lengths),.int .i64 a1.From.X,.int .i64 a1.From.Y,.int .i64 a1.From.Z] 0,.agg [.d (.int .i64 a1.Table.Work.e0.X),.d (.int .i64 a1.Table.Work.e0.Y),.d (.int .i64 a1.Table.Work.e0.Z),.d (.int .i64 a1.Table.Work.e1.X),.d (.int .i64 a1.Table.Work.e1.Y),.d (.int .i64 a1.Table.Work.e1.Z),.d (.int .i64 a1.Table.Work.e2.X),.d (.int .i64 a1.Table.Work.e2.Y),.d (.int .i64 a1.Table.Work.e2.Z),.d (.int .i64 a1.Table.Work.e3.X),.d (.int .i64 a1.Table.Work.e3.Y),.d (.int .i64 a1.Table.Work.e3.Z),.d (.int .i64 a1.Table.Work.e4.X),.d (.int .i64 a1.Table.Work.e4.Y),.d (.int .i64 a1.Table.Work.e4.Z),.d (.int .i64 a1.Table.Work.e5.X),.d (.int .i64 a1.Table.Work.e5.Y),.d (.int .i64 a1.Table.Work.e5.Z),.d (.list (List.map encR45Length a1.Table.Lengths))],.agg [.d (.int .i64 y11.Work.e0.X),.d (.int .i64 y11.Work.e0.Y),.d (.int .i64 y11.Work.e0.Z),.d (.int .i64 y11.Work.e1.X),.d (.int .i64 y11.Work.e1.Y),.d (.int .i64 y11.Work.e1.Z),.d (.int .i64 y11.Work.e2.X),.d (.int .i64 y11.Work.e2.Y),.d (.int .i64 y11.Work.e2.Z),.d (.int .i64 y11.Work.e3.X),.d (.int .i64 y11.Work.e3.Y),.d (.int .i64 y11.Work.e3.Z),.d (.int .i64 y11.Work.e4.X),.d (.int .i64 y11.Work.e4.Y),.d (.int .i64 y11.Work.e4.Z),.d (.int .i64 y11.Work.e5.X),.d (.int .i64 y11.Work.e5.Y),.d (.int .i64 y11.Work.e5.Z),.d (.list (List.map encTableLength y11.Lengths))],.iptr [.int .i64 a1.Table.Work.e0.X,.int .i64 a1.Table.Work.e0.Y,.int .i64 a1.Table.Work.e0.Z,.int .i64 a1.Table.Work.e1.X,.int .i64 a1.Table.Work.e1.Y,.int .i64 a1.Table.Work.e1.Z,.int .i64 a1.Table.Work.e2.X,.int .i64 a1.Table.Work.e2.Y,.int .i64 a1.Table.Work.e2.Z,.int .i64 a1.Table.Work.e3.X,.int .i64 a1.Table.Work.e3.Y,.int .i64 a1.Table.Work.e3.Z,.int .i64 a1.Table.Work.e4.X,.int .i64 a1.Table.Work.e4.Y,.int .i64 a1.Table.Work.e4.Z,.int .i64 a1.Table.Work.e5.X,.int .i64 a1.Table.Work.e5.Y,.int .i64 a1.Table.Work.e5.Z,.list (List.map encR45Length a1.Table.Lengths),.int .i64 a1.From.X,.int .i64 a1.From.Y,.int .i64 a1.From.Z] 19,.agg [.d (.int .i64 a1.From.X),.d (.int .i64 a1.From.Y),.d (.int .i64 a1.From.Z)],.tuple [.d (.list (List.map encApiMotion y12.1)),.agg [.d (.int .i64 y12.2.Block),.d (.int .i64 y12.2.Code)]],.d (.list (List.map encApiMotion y12.1)),.agg [.d (.int .i64 y12.2.Block),.d (.int .i64 y12.2.Code)]] ++ us 63) ⟨[[.d (.int .i64 y5.1.Motion),.d (.int .i64 y5.1.Distance),.d (.int .i64 y5.1.Work),.d (.int .i64 y5.1.Length),.d (.int .i64 y5.1.Return),.d (.int .i64 y5.1.Feed),.d (.int .i64 y5.1.Tool),.d (.int .i64 y5.1.Offset)],[.d (.int .i64 y8.2.Block),.d (.int .i64 y8.2.Code)],[.rowc 41 3 (List.map encApiBlock [])],[.d (.int .i64 y12.2.Block),.d (.int .i64 y12.2.Code)]],[]⟩ (by kernel_rfl) (fun e h=>?_) (fun e h=>?_)))) h
 simp only [seval,EMLInterpreterRestored,w_none,w_eq,SB]
 refine regH.toA (regH.moveB (j := 0) (by kernel_rfl) rfl rfl ?_)
 simp only [seval,EMLInterpreterRestored,w_none,w_eq]
 refine regH.moveB (j := 2) (by kernel_rfl) rfl rfl ?_
 simp only [seval,EMLInterpreterRestored,w_none,w_eq]
 refine regH.fieldI (j := 7) (y := .iptr [.int .i64 a1.Table.Work.e0.X,.int .i64 a1.Table.Work.e0.Y,.int .i64 a1.Table.Work.e0.Z,.int .i64 a1.Table.Work.e1.X,.int .i64 a1.Table.Work.e1.Y,.int .i64 a1.Table.Work.e1.Z,.int .i64 a1.Table.Work.e2.X,.int .i64 a1.Table.Work.e2.Y,.int .i64 a1.Table.Work.e2.Z,.int .i64 a1.Table.Work.e3.X,.int .i64 a1.Table.Work.e3.Y,.int .i64 a1.Table.Work.e3.Z,.int .i64 a1.Table.Work.e4.X,.int .i64 a1.Table.Work.e4.Y,.int .i64 a1.Table.Work.e4.Z,.int .i64 a1.Table.Work.e5.X,.int .i64 a1.Table.Work.e5.Y,.int .i64 a1.Table.Work.e5.Z,.list (List.map encR45Length a1.Table.Lengths),.int .i64 a1.From.X,.int .i64 a1.From.Y,.int .i64 a1.From.Z] 0) (by kernel_rfl) rfl rfl (by first | simp only [seval,EMLInterpreterRestored,fld_30_0,sz_28] | kernel_rfl) ?_
 simp only [seval,EMLInterpreterRestored,w_none,w_eq,fld_30_0,sz_28]
 refine regH.loadI (j := 8) (y := .agg [.d (.int .i64 a1.Table.Work.e0.X),.d (.int .i64 a1.Table.Work.e0.Y),.d (.int .i64 a1.Table.Work.e0.Z),.d (.int .i64 a1.Table.Work.e1.X),.d (.int .i64 a1.Table.Work.e1.Y),.d (.int .i64 a1.Table.Work.e1.Z),.d (.int .i64 a1.Table.Work.e2.X),.d (.int .i64 a1.Table.Work.e2.Y),.d (.int .i64 a1.Table.Work.e2.Z),.d (.int .i64 a1.Table.Work.e3.X),.d (.int .i64 a1.Table.Work.e3.Y),.d (.int .i64 a1.Table.Work.e3.Z),.d (.int .i64 a1.Table.Work.e4.X),.d (.int .i64 a1.Table.Work.e4.Y),.d (.int .i64 a1.Table.Work.e4.Z),.d (.int .i64 a1.Table.Work.e5.X),.d (.int .i64 a1.Table.Work.e5.Y),.d (.int .i64 a1.Table.Work.e5.Z),.d (.list (List.map encR45Length a1.Table.Lengths))]) (by kernel_rfl) rfl rfl rfl (by first | (simp only [↓reduceIte,nA,nL,pt_eq,ag_28,sz_28,dc_cons,dc_nil,SV] <;> rfl) | simp only [seval,EMLInterpreterRestored,ag_28,sz_28] | kernel_rfl) ?_
 simp only [seval,EMLInterpreterRestored,w_none,w_eq,ag_28,sz_28]
 refine regH.fieldI (j := 10) (y := .iptr [.int .i64 a1.Table.Work.e0.X,.int .i64 a1.Table.Work.e0.Y,.int .i64 a1.Table.Work.e0.Z,.int .i64 a1.Table.Work.e1.X,.int .i64 a1.Table.Work.e1.Y,.int .i64 a1.Table.Work.e1.Z,.int .i64 a1.Table.Work.e2.X,.int .i64 a1.Table.Work.e2.Y,.int .i64 a1.Table.Work.e2.Z,.int .i64 a1.Table.Work.e3.X,.int .i64 a1.Table.Work.e3.Y,.int .i64 a1.Table.Work.e3.Z,.int .i64 a1.Table.Work.e4.X,.int .i64 a1.Table.Work.e4.Y,.int .i64 a1.Table.Work.e4.Z,.int .i64 a1.Table.Work.e5.X,.int .i64 a1.Table.Work.e5.Y,.int .i64 a1.Table.Work.e5.Z,.list (List.map encR45Length a1.Table.Lengths),.int .i64 a1.From.X,.int .i64 a1.From.Y,.int .i64 a1.From.Z] 19) (by kernel_rfl) rfl rfl (by first | simp only [seval,EMLInterpreterRestored,fld_30_1,sz_24] | kernel_rfl) ?_
 simp only [seval,EMLInterpreterRestored,w_none,w_eq,fld_30_1,sz_24]
 refine regH.loadI (j := 11) (y := .agg [.d (.int .i64 a1.From.X),.d (.int .i64 a1.From.Y),.d (.int .i64 a1.From.Z)]) (by kernel_rfl) rfl rfl rfl (by first | (simp only [↓reduceIte,nA,nL,pt_eq,ag_24,sz_24,dc_cons,dc_nil,SV] <;> rfl) | simp only [seval,EMLInterpreterRestored,ag_24,sz_24] | kernel_rfl) ?_
 simp only [seval,EMLInterpreterRestored,w_none,w_eq,ag_24,sz_24]
 refine regH.three (j := 1) (k := 3) (l := 16) (by kernel_rfl) rfl rfl rfl ?_ ?_ ?_
 refine regW.of ?_
 simp only [seval,EMLInterpreterRestored,w_none,w_eq]
 refine SpecR.into 2 (slices_Clone_api_Block_api_Block_specR hy16) (by simp only [seval,FMLInterpreterRestored]) rfl ?_
 simp only [seval,EMLInterpreterRestored,w_none,w_eq]
 refine regH.two (j := 3) (k := 16) (by kernel_rfl) rfl rfl ?_ ?_
 refine regW.of ?_
 simp only [seval,EMLInterpreterRestored,w_none,w_eq,ag_34,sz_34]
 refine regH.two (j := 4) (k := 16) (by kernel_rfl) rfl rfl ?_ ?_
 refine regW.of ?_
 simp only [seval,EMLInterpreterRestored,w_none,w_eq]
 refine SpecS.by (md_Line_spec hy17) (by simp only [seval,FMLInterpreterRestored]) ?_
 simp only [seval,EMLInterpreterRestored,w_none,w_eq]
 refine regH.two (j := 5) (k := 16) (by kernel_rfl) rfl rfl ?_ ?_
 refine regW.of ?_
 simp only [seval,EMLInterpreterRestored,w_none,w_eq,und_22,sz_41,zero_41,(oL 3)]
 refine regH.two (j := 6) (k := 16) (by kernel_rfl) rfl rfl ?_ ?_
 refine regW.of ?_
 simp only [seval,EMLInterpreterRestored,w_none,w_eq]
 refine specS_ins_ApiBlock encApiBlock y9 y10 rfl (of_decide_eq_true q18).1 (of_decide_eq_true q18).2 q19 rfl ?_
 simp only [seval,EMLInterpreterRestored,w_none,w_eq]
 refine regH.frz 2 rfl ?_
 simp only [seval,us_0,us_s,xCA,xNA,and_self,and_true,true_and,and_false,false_and,SZ]
 refine regH.two (j := 9) (k := 16) (by kernel_rfl) rfl rfl ?_ ?_
 refine regW.of ?_
 simp only [seval,EMLInterpreterRestored,w_none,w_eq]
 refine SpecS.by (l47_theirs_spec hy20) (by simp only [seval,FMLInterpreterRestored]) ?_
 simp only [seval,EMLInterpreterRestored,w_none,w_eq]
 refine regH.two (j := 12) (k := 16) (by kernel_rfl) rfl rfl ?_ ?_
 refine regW.of ?_
 simp only [seval,EMLInterpreterRestored,w_none,w_eq]
 refine SpecS.by (inp_Blocks_spec hy21) (by simp only [seval,FMLInterpreterRestored]) ?_
 simp only [seval,EMLInterpreterRestored,w_none,w_eq]
 refine regH.moveB (j := 13) (by kernel_rfl) rfl rfl ?_
 simp only [seval,EMLInterpreterRestored,w_none,w_eq]
 refine regH.extB (j := 14) (by kernel_rfl) rfl rfl rfl rfl ?_
 simp only [seval,EMLInterpreterRestored,w_none,w_eq]
 refine regH.extB (j := 15) (by kernel_rfl) rfl rfl rfl rfl ?_
 simp only [seval,EMLInterpreterRestored,w_none,w_eq]
 refine regH.one (j := 16) (by kernel_rfl) rfl (regW.of ?_)
 simp only [seval,EMLInterpreterRestored,w_none,w_eq,zero_44]
 refine regH.assignB (j := 17) (by kernel_rfl) rfl rfl ?_
 simp only [seval,EMLInterpreterRestored,w_none,w_eq]
 refine regH.one (j := 18) (by kernel_rfl) rfl (regW.of ?_)
 simp only [seval,EMLInterpreterRestored,w_none,w_eq,sz_44]
 exact regH.nil (by kernel_rfl) ⟨by first | rfl | simp only [seval,FMLInterpreterRestored,xMA,xLA],by first | rfl | simp only [seval,FMLInterpreterRestored,xMA,xLA]⟩
 refine regW.of ?_
 simp only [seval,EMLInterpreterRestored,w_none,w_eq,zero_44]
 refine regH.one (j := 12) (by kernel_rfl) rfl (regW.of ?_)
 simp only [seval,EMLInterpreterRestored,w_none,w_eq]
 refine SpecS.by (inp_Blocks_spec hy21) (by simp only [seval,FMLInterpreterRestored]) ?_
 simp only [seval,EMLInterpreterRestored,w_none,w_eq]
 refine regH.moveB (j := 13) (by kernel_rfl) rfl rfl ?_
 simp only [seval,EMLInterpreterRestored,w_none,w_eq]
 refine regH.extB (j := 14) (by kernel_rfl) rfl rfl rfl rfl ?_
 simp only [seval,EMLInterpreterRestored,w_none,w_eq]
 refine regH.extB (j := 15) (by kernel_rfl) rfl rfl rfl rfl ?_
 simp only [seval,EMLInterpreterRestored,w_none,w_eq]
 refine regH.assignB (j := 17) (by kernel_rfl) rfl rfl ?_
 simp only [seval,EMLInterpreterRestored,w_none,w_eq]
 refine regH.one (j := 18) (by kernel_rfl) rfl (regW.of ?_)
 simp only [seval,EMLInterpreterRestored,w_none,w_eq,sz_44]
 exact regH.nil (by kernel_rfl) ⟨by first | rfl | simp only [seval,FMLInterpreterRestored,xMA,xLA],by first | rfl | simp only [seval,FMLInterpreterRestored,xMA,xLA]⟩
 refine regW.of ?_
 simp only [seval,EMLInterpreterRestored,w_none,w_eq,zero_44]
 refine regH.one (j := 9) (by kernel_rfl) rfl (regW.of ?_)
 simp only [seval,EMLInterpreterRestored,w_none,w_eq]
 refine SpecS.by (l47_theirs_spec hy20) (by simp only [seval,FMLInterpreterRestored]) ?_
 simp only [seval,EMLInterpreterRestored,w_none,w_eq]
 refine regH.one (j := 12) (by kernel_rfl) rfl (regW.of ?_)
 simp only [seval,EMLInterpreterRestored,w_none,w_eq]
 refine SpecS.by (inp_Blocks_spec hy21) (by simp only [seval,FMLInterpreterRestored]) ?_
 simp only [seval,EMLInterpreterRestored,w_none,w_eq]
 refine regH.moveB (j := 13) (by kernel_rfl) rfl rfl ?_
 simp only [seval,EMLInterpreterRestored,w_none,w_eq]
 refine regH.extB (j := 14) (by kernel_rfl) rfl rfl rfl rfl ?_
 simp only [seval,EMLInterpreterRestored,w_none,w_eq]
 refine regH.extB (j := 15) (by kernel_rfl) rfl rfl rfl rfl ?_
 simp only [seval,EMLInterpreterRestored,w_none,w_eq]
 refine regH.assignB (j := 17) (by kernel_rfl) rfl rfl ?_
 simp only [seval,EMLInterpreterRestored,w_none,w_eq]
 refine regH.one (j := 18) (by kernel_rfl) rfl (regW.of ?_)
 simp only [seval,EMLInterpreterRestored,w_none,w_eq,sz_44]
 exact regH.nil (by kernel_rfl) ⟨by first | rfl | simp only [seval,FMLInterpreterRestored,xMA,xLA],by first | rfl | simp only [seval,FMLInterpreterRestored,xMA,xLA]⟩
 refine regW.of ?_
 simp only [seval,EMLInterpreterRestored,w_none,w_eq,zero_44]
 refine regH.one (j := 6) (by kernel_rfl) rfl (regW.of ?_)
 simp only [seval,EMLInterpreterRestored,w_none,w_eq]
 refine specS_ins_ApiBlock encApiBlock y9 y10 rfl (of_decide_eq_true q18).1 (of_decide_eq_true q18).2 q19 rfl ?_
 simp only [seval,EMLInterpreterRestored,w_none,w_eq]
 refine regH.frz 2 rfl ?_
 simp only [seval,us_0,us_s,xCA,xNA,and_self,and_true,true_and,and_false,false_and,SZ]
 refine regH.one (j := 9) (by kernel_rfl) rfl (regW.of ?_)
 simp only [seval,EMLInterpreterRestored,w_none,w_eq]
 refine SpecS.by (l47_theirs_spec hy20) (by simp only [seval,FMLInterpreterRestored]) ?_
 simp only [seval,EMLInterpreterRestored,w_none,w_eq]
 refine regH.one (j := 12) (by kernel_rfl) rfl (regW.of ?_)
 simp only [seval,EMLInterpreterRestored,w_none,w_eq]
 refine SpecS.by (inp_Blocks_spec hy21) (by simp only [seval,FMLInterpreterRestored]) ?_
 simp only [seval,EMLInterpreterRestored,w_none,w_eq]
 refine regH.moveB (j := 13) (by kernel_rfl) rfl rfl ?_
 simp only [seval,EMLInterpreterRestored,w_none,w_eq]
 refine regH.extB (j := 14) (by kernel_rfl) rfl rfl rfl rfl ?_
 simp only [seval,EMLInterpreterRestored,w_none,w_eq]
 refine regH.extB (j := 15) (by kernel_rfl) rfl rfl rfl rfl ?_
 simp only [seval,EMLInterpreterRestored,w_none,w_eq]
 refine regH.assignB (j := 17) (by kernel_rfl) rfl rfl ?_
 simp only [seval,EMLInterpreterRestored,w_none,w_eq]
 refine regH.one (j := 18) (by kernel_rfl) rfl (regW.of ?_)
 simp only [seval,EMLInterpreterRestored,w_none,w_eq,sz_44]
 exact regH.nil (by kernel_rfl) ⟨by first | rfl | simp only [seval,FMLInterpreterRestored,xMA,xLA],by first | rfl | simp only [seval,FMLInterpreterRestored,xMA,xLA]⟩
 refine regW.of ?_
 simp only [seval,EMLInterpreterRestored,w_none,w_eq,zero_44]
 refine regH.one (j := 5) (by kernel_rfl) rfl (regW.of ?_)
 simp only [seval,EMLInterpreterRestored,w_none,w_eq,und_22,sz_41,zero_41,(oL 3)]
 refine regH.one (j := 6) (by kernel_rfl) rfl (regW.of ?_)
 simp only [seval,EMLInterpreterRestored,w_none,w_eq]
 refine specS_ins_ApiBlock encApiBlock y9 y10 rfl (of_decide_eq_true q18).1 (of_decide_eq_true q18).2 q19 rfl ?_
 simp only [seval,EMLInterpreterRestored,w_none,w_eq]
 refine regH.frz 2 rfl ?_
 simp only [seval,us_0,us_s,xCA,xNA,and_self,and_true,true_and,and_false,false_and,SZ]
 refine regH.one (j := 9) (by kernel_rfl) rfl (regW.of ?_)
 simp only [seval,EMLInterpreterRestored,w_none,w_eq]
 refine SpecS.by (l47_theirs_spec hy20) (by simp only [seval,FMLInterpreterRestored]) ?_
 simp only [seval,EMLInterpreterRestored,w_none,w_eq]
 refine regH.one (j := 12) (by kernel_rfl) rfl (regW.of ?_)
 simp only [seval,EMLInterpreterRestored,w_none,w_eq]
 refine SpecS.by (inp_Blocks_spec hy21) (by simp only [seval,FMLInterpreterRestored]) ?_
 simp only [seval,EMLInterpreterRestored,w_none,w_eq]
 refine regH.moveB (j := 13) (by kernel_rfl) rfl rfl ?_
 simp only [seval,EMLInterpreterRestored,w_none,w_eq]
 refine regH.extB (j := 14) (by kernel_rfl) rfl rfl rfl rfl ?_
 simp only [seval,EMLInterpreterRestored,w_none,w_eq]
 refine regH.extB (j := 15) (by kernel_rfl) rfl rfl rfl rfl ?_
 simp only [seval,EMLInterpreterRestored,w_none,w_eq]
 refine regH.assignB (j := 17) (by kernel_rfl) rfl rfl ?_
 simp only [seval,EMLInterpreterRestored,w_none,w_eq]
 refine regH.one (j := 18) (by kernel_rfl) rfl (regW.of ?_)
 simp only [seval,EMLInterpreterRestored,w_none,w_eq,sz_44]
 exact regH.nil (by kernel_rfl) ⟨by first | rfl | simp only [seval,FMLInterpreterRestored,xMA,xLA],by first | rfl | simp only [seval,FMLInterpreterRestored,xMA,xLA]⟩
 refine regW.of ?_
 simp only [seval,EMLInterpreterRestored,w_none,w_eq,zero_44]
 refine regH.one (j := 4) (by kernel_rfl) rfl (regW.of ?_)
 simp only [seval,EMLInterpreterRestored,w_none,w_eq]
 refine SpecS.by (md_Line_spec hy17) (by simp only [seval,FMLInterpreterRestored]) ?_
 simp only [seval,EMLInterpreterRestored,w_none,w_eq]
 refine regH.one (j := 5) (by kernel_rfl) rfl (regW.of ?_)
 simp only [seval,EMLInterpreterRestored,w_none,w_eq,und_22,sz_41,zero_41,(oL 3)]
 refine regH.one (j := 6) (by kernel_rfl) rfl (regW.of ?_)
 simp only [seval,EMLInterpreterRestored,w_none,w_eq]
 refine specS_ins_ApiBlock encApiBlock y9 y10 rfl (of_decide_eq_true q18).1 (of_decide_eq_true q18).2 q19 rfl ?_
 simp only [seval,EMLInterpreterRestored,w_none,w_eq]
 refine regH.frz 2 rfl ?_
 simp only [seval,us_0,us_s,xCA,xNA,and_self,and_true,true_and,and_false,false_and,SZ]
 refine regH.one (j := 9) (by kernel_rfl) rfl (regW.of ?_)
 simp only [seval,EMLInterpreterRestored,w_none,w_eq]
 refine SpecS.by (l47_theirs_spec hy20) (by simp only [seval,FMLInterpreterRestored]) ?_
 simp only [seval,EMLInterpreterRestored,w_none,w_eq]
 refine regH.one (j := 12) (by kernel_rfl) rfl (regW.of ?_)
 simp only [seval,EMLInterpreterRestored,w_none,w_eq]
 refine SpecS.by (inp_Blocks_spec hy21) (by simp only [seval,FMLInterpreterRestored]) ?_
 simp only [seval,EMLInterpreterRestored,w_none,w_eq]
 refine regH.moveB (j := 13) (by kernel_rfl) rfl rfl ?_
 simp only [seval,EMLInterpreterRestored,w_none,w_eq]
 refine regH.extB (j := 14) (by kernel_rfl) rfl rfl rfl rfl ?_
 simp only [seval,EMLInterpreterRestored,w_none,w_eq]
 refine regH.extB (j := 15) (by kernel_rfl) rfl rfl rfl rfl ?_
 simp only [seval,EMLInterpreterRestored,w_none,w_eq]
 refine regH.assignB (j := 17) (by kernel_rfl) rfl rfl ?_
 simp only [seval,EMLInterpreterRestored,w_none,w_eq]
 refine regH.one (j := 18) (by kernel_rfl) rfl (regW.of ?_)
 simp only [seval,EMLInterpreterRestored,w_none,w_eq,sz_44]
 exact regH.nil (by kernel_rfl) ⟨by first | rfl | simp only [seval,FMLInterpreterRestored,xMA,xLA],by first | rfl | simp only [seval,FMLInterpreterRestored,xMA,xLA]⟩
 refine regW.of ?_
 simp only [seval,EMLInterpreterRestored,w_none,w_eq,zero_44]
 refine regH.one (j := 3) (by kernel_rfl) rfl (regW.of ?_)
 simp only [seval,EMLInterpreterRestored,w_none,w_eq,ag_34,sz_34]
 refine regH.one (j := 4) (by kernel_rfl) rfl (regW.of ?_)
 simp only [seval,EMLInterpreterRestored,w_none,w_eq]
 refine SpecS.by (md_Line_spec hy17) (by simp only [seval,FMLInterpreterRestored]) ?_
 simp only [seval,EMLInterpreterRestored,w_none,w_eq]
 refine regH.one (j := 5) (by kernel_rfl) rfl (regW.of ?_)
 simp only [seval,EMLInterpreterRestored,w_none,w_eq,und_22,sz_41,zero_41,(oL 3)]
 refine regH.one (j := 6) (by kernel_rfl) rfl (regW.of ?_)
 simp only [seval,EMLInterpreterRestored,w_none,w_eq]
 refine specS_ins_ApiBlock encApiBlock y9 y10 rfl (of_decide_eq_true q18).1 (of_decide_eq_true q18).2 q19 rfl ?_
 simp only [seval,EMLInterpreterRestored,w_none,w_eq]
 refine regH.frz 2 rfl ?_
 simp only [seval,us_0,us_s,xCA,xNA,and_self,and_true,true_and,and_false,false_and,SZ]
 refine regH.one (j := 9) (by kernel_rfl) rfl (regW.of ?_)
 simp only [seval,EMLInterpreterRestored,w_none,w_eq]
 refine SpecS.by (l47_theirs_spec hy20) (by simp only [seval,FMLInterpreterRestored]) ?_
 simp only [seval,EMLInterpreterRestored,w_none,w_eq]
 refine regH.one (j := 12) (by kernel_rfl) rfl (regW.of ?_)
 simp only [seval,EMLInterpreterRestored,w_none,w_eq]
 refine SpecS.by (inp_Blocks_spec hy21) (by simp only [seval,FMLInterpreterRestored]) ?_
 simp only [seval,EMLInterpreterRestored,w_none,w_eq]
 refine regH.moveB (j := 13) (by kernel_rfl) rfl rfl ?_
 simp only [seval,EMLInterpreterRestored,w_none,w_eq]
 refine regH.extB (j := 14) (by kernel_rfl) rfl rfl rfl rfl ?_
 simp only [seval,EMLInterpreterRestored,w_none,w_eq]
 refine regH.extB (j := 15) (by kernel_rfl) rfl rfl rfl rfl ?_
 simp only [seval,EMLInterpreterRestored,w_none,w_eq]
 refine regH.assignB (j := 17) (by kernel_rfl) rfl rfl ?_
 simp only [seval,EMLInterpreterRestored,w_none,w_eq]
 refine regH.one (j := 18) (by kernel_rfl) rfl (regW.of ?_)
 simp only [seval,EMLInterpreterRestored,w_none,w_eq,sz_44]
 exact regH.nil (by kernel_rfl) ⟨by first | rfl | simp only [seval,FMLInterpreterRestored,xMA,xLA],by first | rfl | simp only [seval,FMLInterpreterRestored,xMA,xLA]⟩
 refine regW.of ?_
 simp only [seval,EMLInterpreterRestored,w_none,w_eq,ag_34,sz_34]
 refine regH.two (j := 1) (k := 16) (by kernel_rfl) rfl rfl ?_ ?_
 refine regW.of ?_
 simp only [seval,EMLInterpreterRestored,w_none,w_eq]
 refine SpecR.into 2 (slices_Clone_api_Block_api_Block_specR hy16) (by simp only [seval,FMLInterpreterRestored]) rfl ?_
 simp only [seval,EMLInterpreterRestored,w_none,w_eq]
 refine regH.two (j := 4) (k := 16) (by kernel_rfl) rfl rfl ?_ ?_
 refine regW.of ?_
 simp only [seval,EMLInterpreterRestored,w_none,w_eq]
 refine SpecS.by (md_Line_spec hy17) (by simp only [seval,FMLInterpreterRestored]) ?_
 simp only [seval,EMLInterpreterRestored,w_none,w_eq]
 refine regH.two (j := 5) (k := 16) (by kernel_rfl) rfl rfl ?_ ?_
 refine regW.of ?_
 simp only [seval,EMLInterpreterRestored,w_none,w_eq,und_22,sz_41,zero_41,(oL 3)]
 refine regH.two (j := 6) (k := 16) (by kernel_rfl) rfl rfl ?_ ?_
 refine regW.of ?_
 simp only [seval,EMLInterpreterRestored,w_none,w_eq]
 refine specS_ins_ApiBlock encApiBlock y9 y10 rfl (of_decide_eq_true q18).1 (of_decide_eq_true q18).2 q19 rfl ?_
 simp only [seval,EMLInterpreterRestored,w_none,w_eq]
 refine regH.frz 2 rfl ?_
 simp only [seval,us_0,us_s,xCA,xNA,and_self,and_true,true_and,and_false,false_and,SZ]
 refine regH.two (j := 9) (k := 16) (by kernel_rfl) rfl rfl ?_ ?_
 refine regW.of ?_
 simp only [seval,EMLInterpreterRestored,w_none,w_eq]
 refine SpecS.by (l47_theirs_spec hy20) (by simp only [seval,FMLInterpreterRestored]) ?_
 simp only [seval,EMLInterpreterRestored,w_none,w_eq]
 refine regH.two (j := 12) (k := 16) (by kernel_rfl) rfl rfl ?_ ?_
 refine regW.of ?_
 simp only [seval,EMLInterpreterRestored,w_none,w_eq]
 refine SpecS.by (inp_Blocks_spec hy21) (by simp only [seval,FMLInterpreterRestored]) ?_
 simp only [seval,EMLInterpreterRestored,w_none,w_eq]
 refine regH.moveB (j := 13) (by kernel_rfl) rfl rfl ?_
 simp only [seval,EMLInterpreterRestored,w_none,w_eq]
 refine regH.extB (j := 14) (by kernel_rfl) rfl rfl rfl rfl ?_
 simp only [seval,EMLInterpreterRestored,w_none,w_eq]
 refine regH.extB (j := 15) (by kernel_rfl) rfl rfl rfl rfl ?_
 simp only [seval,EMLInterpreterRestored,w_none,w_eq]
 refine regH.one (j := 16) (by kernel_rfl) rfl (regW.of ?_)
 simp only [seval,EMLInterpreterRestored,w_none,w_eq,zero_44]
 refine regH.assignB (j := 17) (by kernel_rfl) rfl rfl ?_
 simp only [seval,EMLInterpreterRestored,w_none,w_eq]
 refine regH.one (j := 18) (by kernel_rfl) rfl (regW.of ?_)
 simp only [seval,EMLInterpreterRestored,w_none,w_eq,sz_44]
 exact regH.nil (by kernel_rfl) ⟨by first | rfl | simp only [seval,FMLInterpreterRestored,xMA,xLA],by first | rfl | simp only [seval,FMLInterpreterRestored,xMA,xLA]⟩
 refine regW.of ?_
 simp only [seval,EMLInterpreterRestored,w_none,w_eq,zero_44]
 refine regH.one (j := 12) (by kernel_rfl) rfl (regW.of ?_)
 simp only [seval,EMLInterpreterRestored,w_none,w_eq]
 refine SpecS.by (inp_Blocks_spec hy21) (by simp only [seval,FMLInterpreterRestored]) ?_
 simp only [seval,EMLInterpreterRestored,w_none,w_eq]
 refine regH.moveB (j := 13) (by kernel_rfl) rfl rfl ?_
 simp only [seval,EMLInterpreterRestored,w_none,w_eq]
 refine regH.extB (j := 14) (by kernel_rfl) rfl rfl rfl rfl ?_
 simp only [seval,EMLInterpreterRestored,w_none,w_eq]
 refine regH.extB (j := 15) (by kernel_rfl) rfl rfl rfl rfl ?_
 simp only [seval,EMLInterpreterRestored,w_none,w_eq]
 refine regH.assignB (j := 17) (by kernel_rfl) rfl rfl ?_
 simp only [seval,EMLInterpreterRestored,w_none,w_eq]
 refine regH.one (j := 18) (by kernel_rfl) rfl (regW.of ?_)
 simp only [seval,EMLInterpreterRestored,w_none,w_eq,sz_44]
 exact regH.nil (by kernel_rfl) ⟨by first | rfl | simp only [seval,FMLInterpreterRestored,xMA,xLA],by first | rfl | simp only [seval,FMLInterpreterRestored,xMA,xLA]⟩
 refine regW.of ?_
 simp only [seval,EMLInterpreterRestored,w_none,w_eq,zero_44]
 refine regH.one (j := 9) (by kernel_rfl) rfl (regW.of ?_)
 simp only [seval,EMLInterpreterRestored,w_none,w_eq]
 refine SpecS.by (l47_theirs_spec hy20) (by simp only [seval,FMLInterpreterRestored]) ?_
 simp only [seval,EMLInterpreterRestored,w_none,w_eq]
 refine regH.one (j := 12) (by kernel_rfl) rfl (regW.of ?_)
 simp only [seval,EMLInterpreterRestored,w_none,w_eq]
 refine SpecS.by (inp_Blocks_spec hy21) (by simp only [seval,FMLInterpreterRestored]) ?_
 simp only [seval,EMLInterpreterRestored,w_none,w_eq]
 refine regH.moveB (j := 13) (by kernel_rfl) rfl rfl ?_
 simp only [seval,EMLInterpreterRestored,w_none,w_eq]
 refine regH.extB (j := 14) (by kernel_rfl) rfl rfl rfl rfl ?_
 simp only [seval,EMLInterpreterRestored,w_none,w_eq]
 refine regH.extB (j := 15) (by kernel_rfl) rfl rfl rfl rfl ?_
 simp only [seval,EMLInterpreterRestored,w_none,w_eq]
 refine regH.assignB (j := 17) (by kernel_rfl) rfl rfl ?_
 simp only [seval,EMLInterpreterRestored,w_none,w_eq]
 refine regH.one (j := 18) (by kernel_rfl) rfl (regW.of ?_)
 simp only [seval,EMLInterpreterRestored,w_none,w_eq,sz_44]
 exact regH.nil (by kernel_rfl) ⟨by first | rfl | simp only [seval,FMLInterpreterRestored,xMA,xLA],by first | rfl | simp only [seval,FMLInterpreterRestored,xMA,xLA]⟩
 refine regW.of ?_
 simp only [seval,EMLInterpreterRestored,w_none,w_eq,zero_44]
 refine regH.one (j := 6) (by kernel_rfl) rfl (regW.of ?_)
 simp only [seval,EMLInterpreterRestored,w_none,w_eq]
 refine specS_ins_ApiBlock encApiBlock y9 y10 rfl (of_decide_eq_true q18).1 (of_decide_eq_true q18).2 q19 rfl ?_
 simp only [seval,EMLInterpreterRestored,w_none,w_eq]
 refine regH.frz 2 rfl ?_
 simp only [seval,us_0,us_s,xCA,xNA,and_self,and_true,true_and,and_false,false_and,SZ]
 refine regH.one (j := 9) (by kernel_rfl) rfl (regW.of ?_)
 simp only [seval,EMLInterpreterRestored,w_none,w_eq]
 refine SpecS.by (l47_theirs_spec hy20) (by simp only [seval,FMLInterpreterRestored]) ?_
 simp only [seval,EMLInterpreterRestored,w_none,w_eq]
 refine regH.one (j := 12) (by kernel_rfl) rfl (regW.of ?_)
 simp only [seval,EMLInterpreterRestored,w_none,w_eq]
 refine SpecS.by (inp_Blocks_spec hy21) (by simp only [seval,FMLInterpreterRestored]) ?_
 simp only [seval,EMLInterpreterRestored,w_none,w_eq]
 refine regH.moveB (j := 13) (by kernel_rfl) rfl rfl ?_
 simp only [seval,EMLInterpreterRestored,w_none,w_eq]
 refine regH.extB (j := 14) (by kernel_rfl) rfl rfl rfl rfl ?_
 simp only [seval,EMLInterpreterRestored,w_none,w_eq]
 refine regH.extB (j := 15) (by kernel_rfl) rfl rfl rfl rfl ?_
 simp only [seval,EMLInterpreterRestored,w_none,w_eq]
 refine regH.assignB (j := 17) (by kernel_rfl) rfl rfl ?_
 simp only [seval,EMLInterpreterRestored,w_none,w_eq]
 refine regH.one (j := 18) (by kernel_rfl) rfl (regW.of ?_)
 simp only [seval,EMLInterpreterRestored,w_none,w_eq,sz_44]
 exact regH.nil (by kernel_rfl) ⟨by first | rfl | simp only [seval,FMLInterpreterRestored,xMA,xLA],by first | rfl | simp only [seval,FMLInterpreterRestored,xMA,xLA]⟩
 refine regW.of ?_
 simp only [seval,EMLInterpreterRestored,w_none,w_eq,zero_44]
 refine regH.one (j := 5) (by kernel_rfl) rfl (regW.of ?_)
 simp only [seval,EMLInterpreterRestored,w_none,w_eq,und_22,sz_41,zero_41,(oL 3)]
 refine regH.one (j := 6) (by kernel_rfl) rfl (regW.of ?_)
 simp only [seval,EMLInterpreterRestored,w_none,w_eq]
 refine specS_ins_ApiBlock encApiBlock y9 y10 rfl (of_decide_eq_true q18).1 (of_decide_eq_true q18).2 q19 rfl ?_
 simp only [seval,EMLInterpreterRestored,w_none,w_eq]
 refine regH.frz 2 rfl ?_
 simp only [seval,us_0,us_s,xCA,xNA,and_self,and_true,true_and,and_false,false_and,SZ]
 refine regH.one (j := 9) (by kernel_rfl) rfl (regW.of ?_)
 simp only [seval,EMLInterpreterRestored,w_none,w_eq]
 refine SpecS.by (l47_theirs_spec hy20) (by simp only [seval,FMLInterpreterRestored]) ?_
 simp only [seval,EMLInterpreterRestored,w_none,w_eq]
 refine regH.one (j := 12) (by kernel_rfl) rfl (regW.of ?_)
 simp only [seval,EMLInterpreterRestored,w_none,w_eq]
 refine SpecS.by (inp_Blocks_spec hy21) (by simp only [seval,FMLInterpreterRestored]) ?_
 simp only [seval,EMLInterpreterRestored,w_none,w_eq]
 refine regH.moveB (j := 13) (by kernel_rfl) rfl rfl ?_
 simp only [seval,EMLInterpreterRestored,w_none,w_eq]
 refine regH.extB (j := 14) (by kernel_rfl) rfl rfl rfl rfl ?_
 simp only [seval,EMLInterpreterRestored,w_none,w_eq]
 refine regH.extB (j := 15) (by kernel_rfl) rfl rfl rfl rfl ?_
 simp only [seval,EMLInterpreterRestored,w_none,w_eq]
 refine regH.assignB (j := 17) (by kernel_rfl) rfl rfl ?_
 simp only [seval,EMLInterpreterRestored,w_none,w_eq]
 refine regH.one (j := 18) (by kernel_rfl) rfl (regW.of ?_)
 simp only [seval,EMLInterpreterRestored,w_none,w_eq,sz_44]
 exact regH.nil (by kernel_rfl) ⟨by first | rfl | simp only [seval,FMLInterpreterRestored,xMA,xLA],by first | rfl | simp only [seval,FMLInterpreterRestored,xMA,xLA]⟩
 refine regW.of ?_
 simp only [seval,EMLInterpreterRestored,w_none,w_eq,zero_44]
 refine regH.one (j := 4) (by kernel_rfl) rfl (regW.of ?_)
 simp only [seval,EMLInterpreterRestored,w_none,w_eq]
 refine SpecS.by (md_Line_spec hy17) (by simp only [seval,FMLInterpreterRestored]) ?_
 simp only [seval,EMLInterpreterRestored,w_none,w_eq]
 refine regH.one (j := 5) (by kernel_rfl) rfl (regW.of ?_)
 simp only [seval,EMLInterpreterRestored,w_none,w_eq,und_22,sz_41,zero_41,(oL 3)]
 refine regH.one (j := 6) (by kernel_rfl) rfl (regW.of ?_)
 simp only [seval,EMLInterpreterRestored,w_none,w_eq]
 refine specS_ins_ApiBlock encApiBlock y9 y10 rfl (of_decide_eq_true q18).1 (of_decide_eq_true q18).2 q19 rfl ?_
 simp only [seval,EMLInterpreterRestored,w_none,w_eq]
 refine regH.frz 2 rfl ?_
 simp only [seval,us_0,us_s,xCA,xNA,and_self,and_true,true_and,and_false,false_and,SZ]
 refine regH.one (j := 9) (by kernel_rfl) rfl (regW.of ?_)
 simp only [seval,EMLInterpreterRestored,w_none,w_eq]
 refine SpecS.by (l47_theirs_spec hy20) (by simp only [seval,FMLInterpreterRestored]) ?_
 simp only [seval,EMLInterpreterRestored,w_none,w_eq]
 refine regH.one (j := 12) (by kernel_rfl) rfl (regW.of ?_)
 simp only [seval,EMLInterpreterRestored,w_none,w_eq]
 refine SpecS.by (inp_Blocks_spec hy21) (by simp only [seval,FMLInterpreterRestored]) ?_
 simp only [seval,EMLInterpreterRestored,w_none,w_eq]
 refine regH.moveB (j := 13) (by kernel_rfl) rfl rfl ?_
 simp only [seval,EMLInterpreterRestored,w_none,w_eq]
 refine regH.extB (j := 14) (by kernel_rfl) rfl rfl rfl rfl ?_
 simp only [seval,EMLInterpreterRestored,w_none,w_eq]
 refine regH.extB (j := 15) (by kernel_rfl) rfl rfl rfl rfl ?_
 simp only [seval,EMLInterpreterRestored,w_none,w_eq]
 refine regH.assignB (j := 17) (by kernel_rfl) rfl rfl ?_
 simp only [seval,EMLInterpreterRestored,w_none,w_eq]
 refine regH.one (j := 18) (by kernel_rfl) rfl (regW.of ?_)
 simp only [seval,EMLInterpreterRestored,w_none,w_eq,sz_44]
 exact regH.nil (by kernel_rfl) ⟨by first | rfl | simp only [seval,FMLInterpreterRestored,xMA,xLA],by first | rfl | simp only [seval,FMLInterpreterRestored,xMA,xLA]⟩
 refine regW.of ?_
 simp only [seval,EMLInterpreterRestored,w_none,w_eq,zero_44]
 refine regH.one (j := 1) (by kernel_rfl) rfl (regW.of ?_)
 simp only [seval,EMLInterpreterRestored,w_none,w_eq]
 refine SpecR.into 2 (slices_Clone_api_Block_api_Block_specR hy16) (by simp only [seval,FMLInterpreterRestored]) rfl ?_
 simp only [seval,EMLInterpreterRestored,w_none,w_eq]
 refine regH.one (j := 4) (by kernel_rfl) rfl (regW.of ?_)
 simp only [seval,EMLInterpreterRestored,w_none,w_eq]
 refine SpecS.by (md_Line_spec hy17) (by simp only [seval,FMLInterpreterRestored]) ?_
 simp only [seval,EMLInterpreterRestored,w_none,w_eq]
 refine regH.one (j := 5) (by kernel_rfl) rfl (regW.of ?_)
 simp only [seval,EMLInterpreterRestored,w_none,w_eq,und_22,sz_41,zero_41,(oL 3)]
 refine regH.one (j := 6) (by kernel_rfl) rfl (regW.of ?_)
 simp only [seval,EMLInterpreterRestored,w_none,w_eq]
 refine specS_ins_ApiBlock encApiBlock y9 y10 rfl (of_decide_eq_true q18).1 (of_decide_eq_true q18).2 q19 rfl ?_
 simp only [seval,EMLInterpreterRestored,w_none,w_eq]
 refine regH.frz 2 rfl ?_
 simp only [seval,us_0,us_s,xCA,xNA,and_self,and_true,true_and,and_false,false_and,SZ]
 refine regH.one (j := 9) (by kernel_rfl) rfl (regW.of ?_)
 simp only [seval,EMLInterpreterRestored,w_none,w_eq]
 refine SpecS.by (l47_theirs_spec hy20) (by simp only [seval,FMLInterpreterRestored]) ?_
 simp only [seval,EMLInterpreterRestored,w_none,w_eq]
 refine regH.one (j := 12) (by kernel_rfl) rfl (regW.of ?_)
 simp only [seval,EMLInterpreterRestored,w_none,w_eq]
 refine SpecS.by (inp_Blocks_spec hy21) (by simp only [seval,FMLInterpreterRestored]) ?_
 simp only [seval,EMLInterpreterRestored,w_none,w_eq]
 refine regH.moveB (j := 13) (by kernel_rfl) rfl rfl ?_
 simp only [seval,EMLInterpreterRestored,w_none,w_eq]
 refine regH.extB (j := 14) (by kernel_rfl) rfl rfl rfl rfl ?_
 simp only [seval,EMLInterpreterRestored,w_none,w_eq]
 refine regH.extB (j := 15) (by kernel_rfl) rfl rfl rfl rfl ?_
 simp only [seval,EMLInterpreterRestored,w_none,w_eq]
 refine regH.assignB (j := 17) (by kernel_rfl) rfl rfl ?_
 simp only [seval,EMLInterpreterRestored,w_none,w_eq]
 refine regH.one (j := 18) (by kernel_rfl) rfl (regW.of ?_)
 simp only [seval,EMLInterpreterRestored,w_none,w_eq,sz_44]
 exact regH.nil (by kernel_rfl) ⟨by first | rfl | simp only [seval,FMLInterpreterRestored,xMA,xLA],by first | rfl | simp only [seval,FMLInterpreterRestored,xMA,xLA]⟩
 refine regW.of ?_
 simp only [seval,EMLInterpreterRestored,w_none,w_eq,zero_44]
 refine regH.two (j := 1) (k := 3) (by kernel_rfl) rfl rfl ?_ ?_
 refine regW.of ?_
 simp only [seval,EMLInterpreterRestored,w_none,w_eq]
 refine SpecR.into 2 (slices_Clone_api_Block_api_Block_specR hy16) (by simp only [seval,FMLInterpreterRestored]) rfl ?_
 simp only [seval,EMLInterpreterRestored,w_none,w_eq]
 refine regH.one (j := 3) (by kernel_rfl) rfl (regW.of ?_)
 simp only [seval,EMLInterpreterRestored,w_none,w_eq,ag_34,sz_34]
 refine regH.one (j := 4) (by kernel_rfl) rfl (regW.of ?_)
 simp only [seval,EMLInterpreterRestored,w_none,w_eq]
 refine SpecS.by (md_Line_spec hy17) (by simp only [seval,FMLInterpreterRestored]) ?_
 simp only [seval,EMLInterpreterRestored,w_none,w_eq]
 refine regH.one (j := 5) (by kernel_rfl) rfl (regW.of ?_)
 simp only [seval,EMLInterpreterRestored,w_none,w_eq,und_22,sz_41,zero_41,(oL 3)]
 refine regH.one (j := 6) (by kernel_rfl) rfl (regW.of ?_)
 simp only [seval,EMLInterpreterRestored,w_none,w_eq]
 refine specS_ins_ApiBlock encApiBlock y9 y10 rfl (of_decide_eq_true q18).1 (of_decide_eq_true q18).2 q19 rfl ?_
 simp only [seval,EMLInterpreterRestored,w_none,w_eq]
 refine regH.frz 2 rfl ?_
 simp only [seval,us_0,us_s,xCA,xNA,and_self,and_true,true_and,and_false,false_and,SZ]
 refine regH.one (j := 9) (by kernel_rfl) rfl (regW.of ?_)
 simp only [seval,EMLInterpreterRestored,w_none,w_eq]
 refine SpecS.by (l47_theirs_spec hy20) (by simp only [seval,FMLInterpreterRestored]) ?_
 simp only [seval,EMLInterpreterRestored,w_none,w_eq]
 refine regH.one (j := 12) (by kernel_rfl) rfl (regW.of ?_)
 simp only [seval,EMLInterpreterRestored,w_none,w_eq]
 refine SpecS.by (inp_Blocks_spec hy21) (by simp only [seval,FMLInterpreterRestored]) ?_
 simp only [seval,EMLInterpreterRestored,w_none,w_eq]
 refine regH.moveB (j := 13) (by kernel_rfl) rfl rfl ?_
 simp only [seval,EMLInterpreterRestored,w_none,w_eq]
 refine regH.extB (j := 14) (by kernel_rfl) rfl rfl rfl rfl ?_
 simp only [seval,EMLInterpreterRestored,w_none,w_eq]
 refine regH.extB (j := 15) (by kernel_rfl) rfl rfl rfl rfl ?_
 simp only [seval,EMLInterpreterRestored,w_none,w_eq]
 refine regH.assignB (j := 17) (by kernel_rfl) rfl rfl ?_
 simp only [seval,EMLInterpreterRestored,w_none,w_eq]
 refine regH.one (j := 18) (by kernel_rfl) rfl (regW.of ?_)
 simp only [seval,EMLInterpreterRestored,w_none,w_eq,sz_44]
 exact regH.nil (by kernel_rfl) ⟨by first | rfl | simp only [seval,FMLInterpreterRestored,xMA,xLA],by first | rfl | simp only [seval,FMLInterpreterRestored,xMA,xLA]⟩
 refine regW.of ?_
 simp only [seval,EMLInterpreterRestored,w_none,w_eq,ag_34,sz_34]
 refine regH.one (j := 1) (by kernel_rfl) rfl (regW.of ?_)
 simp only [seval,EMLInterpreterRestored,w_none,w_eq]
 refine SpecR.into 2 (slices_Clone_api_Block_api_Block_specR hy16) (by simp only [seval,FMLInterpreterRestored]) rfl ?_
 simp only [seval,EMLInterpreterRestored,w_none,w_eq]
 refine regH.one (j := 4) (by kernel_rfl) rfl (regW.of ?_)
 simp only [seval,EMLInterpreterRestored,w_none,w_eq]
 refine SpecS.by (md_Line_spec hy17) (by simp only [seval,FMLInterpreterRestored]) ?_
 simp only [seval,EMLInterpreterRestored,w_none,w_eq]
 refine regH.one (j := 5) (by kernel_rfl) rfl (regW.of ?_)
 simp only [seval,EMLInterpreterRestored,w_none,w_eq,und_22,sz_41,zero_41,(oL 3)]
 refine regH.one (j := 6) (by kernel_rfl) rfl (regW.of ?_)
 simp only [seval,EMLInterpreterRestored,w_none,w_eq]
 refine specS_ins_ApiBlock encApiBlock y9 y10 rfl (of_decide_eq_true q18).1 (of_decide_eq_true q18).2 q19 rfl ?_
 simp only [seval,EMLInterpreterRestored,w_none,w_eq]
 refine regH.frz 2 rfl ?_
 simp only [seval,us_0,us_s,xCA,xNA,and_self,and_true,true_and,and_false,false_and,SZ]
 refine regH.one (j := 9) (by kernel_rfl) rfl (regW.of ?_)
 simp only [seval,EMLInterpreterRestored,w_none,w_eq]
 refine SpecS.by (l47_theirs_spec hy20) (by simp only [seval,FMLInterpreterRestored]) ?_
 simp only [seval,EMLInterpreterRestored,w_none,w_eq]
 refine regH.one (j := 12) (by kernel_rfl) rfl (regW.of ?_)
 simp only [seval,EMLInterpreterRestored,w_none,w_eq]
 refine SpecS.by (inp_Blocks_spec hy21) (by simp only [seval,FMLInterpreterRestored]) ?_
 simp only [seval,EMLInterpreterRestored,w_none,w_eq]
 refine regH.moveB (j := 13) (by kernel_rfl) rfl rfl ?_
 simp only [seval,EMLInterpreterRestored,w_none,w_eq]
 refine regH.extB (j := 14) (by kernel_rfl) rfl rfl rfl rfl ?_
 simp only [seval,EMLInterpreterRestored,w_none,w_eq]
 refine regH.extB (j := 15) (by kernel_rfl) rfl rfl rfl rfl ?_
 simp only [seval,EMLInterpreterRestored,w_none,w_eq]
 refine regH.assignB (j := 17) (by kernel_rfl) rfl rfl ?_
 simp only [seval,EMLInterpreterRestored,w_none,w_eq]
 refine regH.one (j := 18) (by kernel_rfl) rfl (regW.of ?_)
 simp only [seval,EMLInterpreterRestored,w_none,w_eq,sz_44]
 exact regH.nil (by kernel_rfl) ⟨by first | rfl | simp only [seval,FMLInterpreterRestored,xMA,xLA],by first | rfl | simp only [seval,FMLInterpreterRestored,xMA,xLA]⟩
 refine mU e (.seqK (.seqK (.joinV ([U,U,U,U,U,U,U,.d (.int .i64 (Int.tmod (IntKind.i64.wrap a2) (IntKind.i64.wrap ((a0.length : Int) + 1)))),U,U,.d (.list (List.map encApiMotion y8.1)),U,.d (.list (List.map encApiMotion y12.1)),U,U,U,U,U,U,U,U,U,U,U,U,U,U,U,U,U,U,U,U,U,U,U,U,U,U,U,U,U,U,U,U,U,U,U,U,U,U,U,U,U,U,U,U,U,U,U,U,U,U,U,U,U,U,U,U,U,U,U,U,U,U,U,U,U,U,U,U,U,U,U,U,U,U,U,U,U,U,U,U,U,U,U,U,U,U,U,U,U,U,U,U,.d (.bool (((y8.1.length : Int) != (y12.1.length : Int)) || ((y8.2.Code != y12.2.Code) || (if (decide (y8.2.Block ≥ (Int.tmod (IntKind.i64.wrap a2) (IntKind.i64.wrap ((a0.length : Int) + 1))))) = true then (y12.2.Block != (IntKind.i64.wrap (y8.2.Block + 1))) || ((decide (y8.2.Block < (Int.tmod (IntKind.i64.wrap a2) (IntKind.i64.wrap ((a0.length : Int) + 1))))) && (y12.2.Block != y8.2.Block)) else (decide (y8.2.Block < (Int.tmod (IntKind.i64.wrap a2) (IntKind.i64.wrap ((a0.length : Int) + 1))))) && (y12.2.Block != y8.2.Block)))))] ++ us 24) ⟨[[.d (.int .i64 y5.1.Motion),.d (.int .i64 y5.1.Distance),.d (.int .i64 y5.1.Work),.d (.int .i64 y5.1.Length),.d (.int .i64 y5.1.Return),.d (.int .i64 y5.1.Feed),.d (.int .i64 y5.1.Tool),.d (.int .i64 y5.1.Offset)],[.d (.int .i64 y8.2.Block),.d (.int .i64 y8.2.Code)],[.rowc 41 3 (List.map encApiBlock [])],[.d (.int .i64 y12.2.Block),.d (.int .i64 y12.2.Code)]],[]⟩ rfl ?_ ?_))) h
 refine SWs.region ?_
 rcases Bool.eq_false_or_eq_true ((y8.1.length : Int) != (y12.1.length : Int)) with hb22 | hb22
 simp only [seval,EMLInterpreterRestored,SL,PB,und_42,hb22]
 rcases Bool.eq_false_or_eq_true (y8.2.Code != y12.2.Code) with hb23 | hb23
 simp only [seval,EMLInterpreterRestored,SL,PB,und_42,fld_44_1,sz_35,ag_35,hb22,hb23]
 rcases Bool.eq_false_or_eq_true (decide (y8.2.Block ≥ (Int.tmod (IntKind.i64.wrap a2) (IntKind.i64.wrap ((a0.length : Int) + 1))))) with hb24 | hb24
 rcases Bool.eq_false_or_eq_true (y12.2.Block != (IntKind.i64.wrap (y8.2.Block + 1))) with hb25 | hb25
 simp only [seval,EMLInterpreterRestored,SL,PB,und_42,fld_44_1,sz_35,ag_35,fld_44_0,sz_3,ag_3,hb22,hb23,hb24,hb25]
 rcases Bool.eq_false_or_eq_true (decide (y8.2.Block < (Int.tmod (IntKind.i64.wrap a2) (IntKind.i64.wrap ((a0.length : Int) + 1))))) with hb26 | hb26
 simp only [seval,EMLInterpreterRestored,SL,PB,und_42,fld_44_1,sz_35,ag_35,fld_44_0,sz_3,ag_3,hb22,hb23,hb24,hb25,hb26]
 simp only [seval,EMLInterpreterRestored,SL,PB,und_42,fld_44_1,sz_35,ag_35,fld_44_0,sz_3,ag_3,hb22,hb23,hb24,hb25,hb26]
 rcases Bool.eq_false_or_eq_true (decide (y8.2.Block < (Int.tmod (IntKind.i64.wrap a2) (IntKind.i64.wrap ((a0.length : Int) + 1))))) with hb27 | hb27
 simp only [seval,EMLInterpreterRestored,SL,PB,und_42,fld_44_1,sz_35,ag_35,fld_44_0,sz_3,ag_3,hb22,hb23,hb24,hb27]
 simp only [seval,EMLInterpreterRestored,SL,PB,und_42,fld_44_1,sz_35,ag_35,fld_44_0,sz_3,ag_3,hb22,hb23,hb24,hb27]
 refine Mir.toK (.cond rfl (fun hb29=>?_) (fun hb29=>?_))
 refine .sR fun e h=>?_
 simp only [seval,EMLInterpreterRestored]
 refine mU e (.ret fun e h=>?_) h
 cases h
 simp only [seval,FMLInterpreterRestored,Tryd.results3]
 refine .skip (Mir.toK (.seqK (.sR fun e h=>?_)))
 simp only [seval,EMLInterpreterRestored,und_42]
 refine mU e (Mir.join (fun v4 : Unit=>(us 130)) (fun v4=>⟨[[.d (.int .i64 y5.1.Motion),.d (.int .i64 y5.1.Distance),.d (.int .i64 y5.1.Work),.d (.int .i64 y5.1.Length),.d (.int .i64 y5.1.Return),.d (.int .i64 y5.1.Feed),.d (.int .i64 y5.1.Tool),.d (.int .i64 y5.1.Offset)],[.d (.int .i64 y8.2.Block),.d (.int .i64 y8.2.Code)],[.rowc 41 3 (List.map encApiBlock [])],[.d (.int .i64 y12.2.Block),.d (.int .i64 y12.2.Code)]],[]⟩) (fun _=>rfl) ?_ ?_) h
 refine .block (.guard fun q1=>Mir.range (fun (i1 : Nat) (v2 : Unit)=>([U,U,U,U,U,U,U,.d (.int .i64 (Int.tmod (IntKind.i64.wrap a2) (IntKind.i64.wrap ((a0.length : Int) + 1)))),U,U,.d (.list (List.map encApiMotion y8.1)),U,.d (.list (List.map encApiMotion y12.1)),U,U,U,U,U,U,U,U,U,U,U,U,U,U,U,U,U,U,U,U,U,U,U,U,U,U,U,U,U,U,U,U,U,U,U,U,U,U,U,U,U,U,U,U,U,U,U,U,U,U,U,U,U,U,U,U,U,U,U,U,U,U,U,U,U,U,U,U,U,U,U,U,U,U,U,U,U,U,U,U,U,U,U,U,U,U,U,U,U,U,U,U,U,U,.d (.int .i64 (y8.1.length : Int)),.d (.int .i64 (i1 : Int))] ++ us 21)) (fun i1 v2=>⟨[[.d (.int .i64 y5.1.Motion),.d (.int .i64 y5.1.Distance),.d (.int .i64 y5.1.Work),.d (.int .i64 y5.1.Length),.d (.int .i64 y5.1.Return),.d (.int .i64 y5.1.Feed),.d (.int .i64 y5.1.Tool),.d (.int .i64 y5.1.Offset)],[.d (.int .i64 y8.2.Block),.d (.int .i64 y8.2.Code)],[.rowc 41 3 (List.map encApiBlock [])],[.d (.int .i64 y12.2.Block),.d (.int .i64 y12.2.Code)]],[]⟩) q1 (fun _ _=>rfl) (by simp only [seval,FMLInterpreterRestored,zNI]) (by simp only [seval,FMLInterpreterRestored,zNI]) ?_ ?_)
 intro i1 e1 v2 q2
 refine .sR fun e h=>?_
 simp only [seval,EMLInterpreterRestored,q2]
 refine mU e (.seqK (.condT rfl (.skip (Mir.toK (.seqK (.block (.sR fun e h=>?_))))))) h
 simp only [seval,EMLInterpreterRestored]
 refine mU e (.sR fun e h=>?_) h
 simp only [seval,EMLInterpreterRestored,und_42,sz_54,q2,Int.toNat_natCast,ag_54,zero_54]
 refine mU e (.seqK (.sR fun e h=>?_)) h
 simp only [seval,EMLInterpreterRestored,fld_54_4,sz_3,ag_3]
 refine mU e (Mir.joinO (fun v3 : Int=>([U,U,U,U,U,U,U,.d (.int .i64 (Int.tmod (IntKind.i64.wrap a2) (IntKind.i64.wrap ((a0.length : Int) + 1)))),U,U,.d (.list (List.map encApiMotion y8.1)),U,.d (.list (List.map encApiMotion y12.1)),U,.d (.int .i64 (i1 : Int)),.ptr 4 0,U,U,U,U,U,U,U,U,U,U,U,U,U,U,U,U,U,U,U,U,U,U,U,U,U,U,U,U,U,U,U,U,U,U,U,U,U,U,U,U,U,U,U,U,U,U,U,U,U,U,U,U,U,U,U,U,U,U,U,U,U,U,U,U,U,U,U,U,U,U,U,U,U,U,U,U,U,U,U,U,U,U,U,U,U,U,U,U,U,U,U,.d (.int .i64 (y8.1.length : Int)),.d (.int .i64 (i1 : Int))] ++ us 21)) (fun v3=>⟨[[.d (.int .i64 y5.1.Motion),.d (.int .i64 y5.1.Distance),.d (.int .i64 y5.1.Work),.d (.int .i64 y5.1.Length),.d (.int .i64 y5.1.Return),.d (.int .i64 y5.1.Feed),.d (.int .i64 y5.1.Tool),.d (.int .i64 y5.1.Offset)],[.d (.int .i64 y8.2.Block),.d (.int .i64 y8.2.Code)],[.rowc 41 3 (List.map encApiBlock [])],[.d (.int .i64 y12.2.Block),.d (.int .i64 y12.2.Code)],[.d (.int .i64 e1.From.X),.d (.int .i64 e1.From.Y),.d (.int .i64 e1.From.Z),.d (.int .i64 e1.To.X),.d (.int .i64 e1.To.Y),.d (.int .i64 e1.To.Z),.d (.int .i64 e1.Rate),.d (.int .i64 e1.Tool),.d (.int .i64 v3)]],[]⟩) (fun _=>rfl) ?_ ?_) h
 refine .cond rfl (fun h1=>?_) (fun h1=>?_)
 refine .region fun e h=>?_
 simp only [seval,EMLInterpreterRestored,fld_54_4,sz_3,ag_3]
 cases h
 simp only [seval,FMLInterpreterRestored,Tryd.results3]
 refine .skip fun e h=>?_
 cases h
 simp only [seval,FMLInterpreterRestored,Tryd.results3]
 intro v3
 refine Mir.toK (.seqK (.bind fun e2 q3=>?_))
 replace q3 := gt_ok q3
 simp only [Int.toNat_natCast] at q3
 refine .regionD [] (by kernel_rfl) fun e h=>?_
 simp only [seval,EMLInterpreterRestored,SB,ag_54,sz_54,und_42,q3,Int.toNat_natCast,gE_54]
 refine mU e (.cond rfl (fun h2=>?_) (fun h2=>?_)) h
 refine .sR fun e h=>?_
 simp only [seval,EMLInterpreterRestored]
 refine mU e (.ret fun e h=>?_) h
 cases h
 simp only [seval,FMLInterpreterRestored,Tryd.results3]
 refine .skip (Mir.toB (Mir.toK (.region fun e h=>?_)))
 simp only [seval,EMLInterpreterRestored]
 cases h
 simp only [seval,FMLInterpreterRestored,Tryd.results3,q2]
 intro v2 q4
 refine .sR fun e h=>?_
 simp only [seval,EMLInterpreterRestored,q4]
 refine mU e (.seqK (.condF rfl (.exit fun e h=>?_))) h
 cases h
 simp only [seval,FMLInterpreterRestored,Tryd.results3]
 intro v4
 refine Mir.toK (.sR fun e h=>?_)
 simp only [seval,EMLInterpreterRestored]
 refine mU e (.ret fun e h=>?_) h
 cases h
 simp only [seval,FMLInterpreterRestored,Tryd.results3]
theorem co_4 : Tryd.prog.cellsOf 4 = 1 := by kernel_rfl
theorem opn_4 : Opn Tryd.prog 4 eBool inBool := Opn.bool Tryd.underlying4
theorem co_5 : Tryd.prog.cellsOf 5 = 1 := by kernel_rfl
theorem opn_5 : Opn Tryd.prog 5 (eInt .u8) (inInt .u8) := Opn.int Tryd.underlying5
theorem co_2 : Tryd.prog.cellsOf 2 = 1 := by kernel_rfl
theorem opn_2 : Opn Tryd.prog 2 (eInt .i64) (inInt .i64) := Opn.int Tryd.underlying2
def inApiWord (x : ApiWord) : Prop := (inInt .u8) x.Letter ∧ (inInt .i64) x.Value
theorem co_77 : Tryd.prog.cellsOf 77 = 2 := by kernel_rfl
theorem opn_77 : Opn Tryd.prog 77 encApiWord inApiWord := by
 intro w H enc fuel cs x h
 obtain ⟨xs,n,_,_,hl,hxl,hf⟩ := DataW.trod_struct Tryd.underlying77 h
 have hxl' : xs.length = 2 := hxl
 obtain ⟨s0,r0,o0⟩ := Opn.field hf 0 5 0 1 rfl co_5 (by omega) opn_5
 obtain ⟨s1,r1,o1⟩ := Opn.field hf 1 2 1 1 rfl co_2 (by omega) opn_2
 refine ⟨⟨s0,s1⟩,?_,o0,o1⟩
 exact (RelC.cut 0 1 r0 rfl (RelC.cut 1 1 r1 rfl (RelC.nil (n := 2) (by rw [hl,co_77]; exact Nat.le_refl _))))
theorem co_39 : Tryd.prog.cellsOf 39 = 1 := by kernel_rfl
theorem opn_39 : Opn Tryd.prog 39 (eList encApiWord) (inList inApiWord) := Opn.slice Tryd.underlying39 opn_77 (fun _=>(rfl : _ = 2).trans co_77.symm) (by rw [co_77]; decide)
theorem co_9 : Tryd.prog.cellsOf 9 = 1 := by kernel_rfl
theorem opn_9 : Opn Tryd.prog 9 eStr inStr := Opn.str Tryd.underlying9
def inApiBlock (x : ApiBlock) : Prop := inBool x.Skip ∧ (inList inApiWord) x.Words ∧ inStr x.Comment
theorem co_41 : Tryd.prog.cellsOf 41 = 3 := by kernel_rfl
theorem opn_41 : Opn Tryd.prog 41 encApiBlock inApiBlock := by
 intro w H enc fuel cs x h
 obtain ⟨xs,n,_,_,hl,hxl,hf⟩ := DataW.trod_struct Tryd.underlying41 h
 have hxl' : xs.length = 3 := hxl
 obtain ⟨s0,r0,o0⟩ := Opn.field hf 0 4 0 1 rfl co_4 (by omega) opn_4
 obtain ⟨s1,r1,o1⟩ := Opn.field hf 1 39 1 1 rfl co_39 (by omega) opn_39
 obtain ⟨s2,r2,o2⟩ := Opn.field hf 2 9 2 1 rfl co_9 (by omega) opn_9
 refine ⟨⟨s0,s1,s2⟩,?_,o0,o1,o2⟩
 exact (RelC.cut 0 1 r0 rfl (RelC.cut 1 1 r1 rfl (RelC.cut 2 1 r2 rfl (RelC.nil (n := 3) (by rw [hl,co_41]; exact Nat.le_refl _)))))
theorem opn_22 : Opn Tryd.prog 22 (eList encApiBlock) (inList inApiBlock) := Opn.slice Tryd.underlying22 opn_41 (fun _=>(rfl : _ = 3).trans co_41.symm) (by rw [co_41]; decide)
def inApiPos (x : ApiPos) : Prop := (inInt .i64) x.X ∧ (inInt .i64) x.Y ∧ (inInt .i64) x.Z
theorem co_24 : Tryd.prog.cellsOf 24 = 3 := by kernel_rfl
theorem opn_24 : Opn Tryd.prog 24 encApiPos inApiPos := by
 intro w H enc fuel cs x h
 obtain ⟨xs,n,_,_,hl,hxl,hf⟩ := DataW.trod_struct Tryd.underlying24 h
 have hxl' : xs.length = 3 := hxl
 obtain ⟨s0,r0,o0⟩ := Opn.field hf 0 2 0 1 rfl co_2 (by omega) opn_2
 obtain ⟨s1,r1,o1⟩ := Opn.field hf 1 2 1 1 rfl co_2 (by omega) opn_2
 obtain ⟨s2,r2,o2⟩ := Opn.field hf 2 2 2 1 rfl co_2 (by omega) opn_2
 refine ⟨⟨s0,s1,s2⟩,?_,o0,o1,o2⟩
 exact (RelC.cut 0 1 r0 rfl (RelC.cut 1 1 r1 rfl (RelC.cut 2 1 r2 rfl (RelC.nil (n := 3) (by rw [hl,co_24]; exact Nat.le_refl _)))))
def inArr6ApiPos (x : Arr6ApiPos) : Prop := inApiPos x.e0 ∧ inApiPos x.e1 ∧ inApiPos x.e2 ∧ inApiPos x.e3 ∧ inApiPos x.e4 ∧ inApiPos x.e5
theorem co_25 : Tryd.prog.cellsOf 25 = 18 := by kernel_rfl
theorem opn_25 : Opn Tryd.prog 25 encArr6ApiPos inArr6ApiPos := by
 intro w H enc fuel cs x h
 obtain ⟨xs,n,_,_,hl,hxl,hf⟩ := DataW.trod_array Tryd.underlying25 h
 obtain ⟨s0,r0,o0⟩ := Opn.elem hf 0 3 co_24 (by omega) hxl opn_24
 obtain ⟨s1,r1,o1⟩ := Opn.elem hf 1 3 co_24 (by omega) hxl opn_24
 obtain ⟨s2,r2,o2⟩ := Opn.elem hf 2 3 co_24 (by omega) hxl opn_24
 obtain ⟨s3,r3,o3⟩ := Opn.elem hf 3 3 co_24 (by omega) hxl opn_24
 obtain ⟨s4,r4,o4⟩ := Opn.elem hf 4 3 co_24 (by omega) hxl opn_24
 obtain ⟨s5,r5,o5⟩ := Opn.elem hf 5 3 co_24 (by omega) hxl opn_24
 refine ⟨⟨s0,s1,s2,s3,s4,s5⟩,?_,o0,o1,o2,o3,o4,o5⟩
 exact (RelC.cut 0 3 r0 rfl (RelC.cut 3 3 r1 rfl (RelC.cut 6 3 r2 rfl (RelC.cut 9 3 r3 rfl (RelC.cut 12 3 r4 rfl (RelC.cut 15 3 r5 rfl (RelC.nil (n := 18) (by rw [hl,co_25]; exact Nat.le_refl _))))))))
def inR45Length (x : R45Length) : Prop := (inInt .i64) x.Number ∧ (inInt .i64) x.Length
theorem co_72 : Tryd.prog.cellsOf 72 = 2 := by kernel_rfl
theorem opn_72 : Opn Tryd.prog 72 encR45Length inR45Length := by
 intro w H enc fuel cs x h
 obtain ⟨xs,n,_,_,hl,hxl,hf⟩ := DataW.trod_struct Tryd.underlying72 h
 have hxl' : xs.length = 2 := hxl
 obtain ⟨s0,r0,o0⟩ := Opn.field hf 0 2 0 1 rfl co_2 (by omega) opn_2
 obtain ⟨s1,r1,o1⟩ := Opn.field hf 1 2 1 1 rfl co_2 (by omega) opn_2
 refine ⟨⟨s0,s1⟩,?_,o0,o1⟩
 exact (RelC.cut 0 1 r0 rfl (RelC.cut 1 1 r1 rfl (RelC.nil (n := 2) (by rw [hl,co_72]; exact Nat.le_refl _))))
theorem co_26 : Tryd.prog.cellsOf 26 = 1 := by kernel_rfl
theorem opn_26 : Opn Tryd.prog 26 (eList encR45Length) (inList inR45Length) := Opn.slice Tryd.underlying26 opn_72 (fun _=>(rfl : _ = 2).trans co_72.symm) (by rw [co_72]; decide)
def inR45Table (x : R45Table) : Prop := inArr6ApiPos x.Work ∧ (inList inR45Length) x.Lengths
theorem co_28 : Tryd.prog.cellsOf 28 = 19 := by kernel_rfl
theorem opn_28 : Opn Tryd.prog 28 encR45Table inR45Table := by
 intro w H enc fuel cs x h
 obtain ⟨xs,n,_,_,hl,hxl,hf⟩ := DataW.trod_struct Tryd.underlying28 h
 have hxl' : xs.length = 2 := hxl
 obtain ⟨s0,r0,o0⟩ := Opn.field hf 0 25 0 18 rfl co_25 (by omega) opn_25
 obtain ⟨s1,r1,o1⟩ := Opn.field hf 1 26 18 1 rfl co_26 (by omega) opn_26
 refine ⟨⟨s0,s1⟩,?_,o0,o1⟩
 exact (RelC.cut 0 18 r0 rfl (RelC.cut 18 1 r1 rfl (RelC.nil (n := 19) (by rw [hl,co_28]; exact Nat.le_refl _))))
def inL47Setting (x : L47Setting) : Prop := inR45Table x.Table ∧ inApiPos x.From
theorem co_30 : Tryd.prog.cellsOf 30 = 22 := by kernel_rfl
theorem opn_30 : Opn Tryd.prog 30 encL47Setting inL47Setting := by
 intro w H enc fuel cs x h
 obtain ⟨xs,n,_,_,hl,hxl,hf⟩ := DataW.trod_struct Tryd.underlying30 h
 have hxl' : xs.length = 2 := hxl
 obtain ⟨s0,r0,o0⟩ := Opn.field hf 0 28 0 19 rfl co_28 (by omega) opn_28
 obtain ⟨s1,r1,o1⟩ := Opn.field hf 1 24 19 3 rfl co_24 (by omega) opn_24
 refine ⟨⟨s0,s1⟩,?_,o0,o1⟩
 exact (RelC.cut 0 19 r0 rfl (RelC.cut 19 3 r1 rfl (RelC.nil (n := 22) (by rw [hl,co_30]; exact Nat.le_refl _))))
end Go.Proofs.YtnnelopkjdgbgaaDoor
