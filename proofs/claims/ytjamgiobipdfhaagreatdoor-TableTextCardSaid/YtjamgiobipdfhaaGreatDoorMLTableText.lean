import Derived.Test.YtjamgiobipdfhaaGreatDoorGx
import Derived.Test.YtjamgiobipdfhaaGreatDoorTy
import Derived.Test.YtjamgiobipdfhaaGreatDoorGo
import Derived.Test.YtjamgiobipdfhaaGreatDoorMI
import Derived.Test.YtjamgiobipdfhaaGreatDoorMQ
import Derived.Test.YtjamgiobipdfhaaGreatDoorMB
import Derived.Test.YtjamgiobipdfhaaGreatDoorMT
import Derived.Test.YtjamgiobipdfhaaGreatDoorMX
import Derived.Test.YtjamgiobipdfhaaGreatDoorMK
namespace Go.Proofs.YtjamgiobipdfhaaGreatDoor
open Go.RowKit
open Nat renaming reduceAdd → nA,reduceSub → nS,reduceMul → nM,reduceEqDiff → nE,reduceLeDiff → nL,reduceLT → nT,reduceBEq → nB
open Int renaming reduceLT → iT,reduceToNat → iN,reduceEq → iE
set_option linter.unusedVariables false
set_option linter.unusedSimpArgs false
set_option maxRecDepth 100000
set_option maxHeartbeats 8000000
theorem EMLTableText : type_of% (And.intro @SE <| @ENMK) := And.intro @SE <| @ENMK
theorem FMLTableText : type_of% (And.intro @SF <| @ENMK) := And.intro @SF <| @ENMK
def l45_TableText (a0 : R45Table) : Option Bool := bindO (bindO (l45_awake ) fun (y1 : Bool)=>if y1 = true then some (decide ((a0.Lengths.length : Int) > 40)) else some true) fun (v1 : Bool)=>if v1 = true then bindO (l45_awake ) fun (y2 : Bool)=>some y2 else bindO (l45_theirs a0) fun (y3 : TableTable)=>bindO (tb_Format y3) fun (y4 : (List UInt8) × Int)=>bindO (r45_Format a0) fun (y5 : (List UInt8) × Int)=>if (!(y4.1 == y5.1) || (y4.2 != y5.2)) = true then some false else if (y4.2 != 0) = true then some true else bindO (tb_Parse y4.1) fun (y6 : TableTable × Int × Int)=>bindO (if (y6.2.2 == 0) = true then if (y6.2.1 == 0) = true then bindO (l45_own y6.1) fun (y7 : R45Table)=>bindO (r45_Same y7 a0) fun (y8 : Bool)=>some y8 else some false else some false) fun (v2 : Bool)=>some v2
theorem l45_TableText_spec {a0 : R45Table} {y : Bool} (h : l45_TableText a0 = some y) : Spec gP 3 [.agg [.d (.int .i64 a0.Work.e0.X),.d (.int .i64 a0.Work.e0.Y),.d (.int .i64 a0.Work.e0.Z),.d (.int .i64 a0.Work.e1.X),.d (.int .i64 a0.Work.e1.Y),.d (.int .i64 a0.Work.e1.Z),.d (.int .i64 a0.Work.e2.X),.d (.int .i64 a0.Work.e2.Y),.d (.int .i64 a0.Work.e2.Z),.d (.int .i64 a0.Work.e3.X),.d (.int .i64 a0.Work.e3.Y),.d (.int .i64 a0.Work.e3.Z),.d (.int .i64 a0.Work.e4.X),.d (.int .i64 a0.Work.e4.Y),.d (.int .i64 a0.Work.e4.Z),.d (.int .i64 a0.Work.e5.X),.d (.int .i64 a0.Work.e5.Y),.d (.int .i64 a0.Work.e5.Z),.d (.list (List.map encR45Length a0.Lengths))]] (.d (.bool y)) := by
 refine spec_mir Tryz.func3 rfl (by kernel_rfl) (by kernel_rfl) (fun y : Bool=>.d (.bool y)) ?_ h
 unfold l45_TableText
 simp only [List.replicate,List.length,nS,nA,Tryz.ntmps3,SV]
 refine .sR fun e h=>?_
 simp only [seval,EMLTableText]
 refine mU e (.seqK (.seqK (Mir.joinO (fun v1 : Bool=>([U,.ptr 0 0,U,U,U,U,U,U,U,U,U,U,U,U,U,U,U,.d (.bool v1)] ++ us 40)) (fun v1=>⟨[[.d (.int .i64 a0.Work.e0.X),.d (.int .i64 a0.Work.e0.Y),.d (.int .i64 a0.Work.e0.Z),.d (.int .i64 a0.Work.e1.X),.d (.int .i64 a0.Work.e1.Y),.d (.int .i64 a0.Work.e1.Z),.d (.int .i64 a0.Work.e2.X),.d (.int .i64 a0.Work.e2.Y),.d (.int .i64 a0.Work.e2.Z),.d (.int .i64 a0.Work.e3.X),.d (.int .i64 a0.Work.e3.Y),.d (.int .i64 a0.Work.e3.Z),.d (.int .i64 a0.Work.e4.X),.d (.int .i64 a0.Work.e4.Y),.d (.int .i64 a0.Work.e4.Z),.d (.int .i64 a0.Work.e5.X),.d (.int .i64 a0.Work.e5.Y),.d (.int .i64 a0.Work.e5.Z),.d (.list (List.map encR45Length a0.Lengths))]],[]⟩) (fun _=>rfl) ?_ ?_))) h
 refine .bind fun y1 hy1=>.ite (fun hb2=>?_) (fun hb2=>?_)
 refine .region fun e h=>?_
 simp only [seval,EMLTableText,hb2]
 refine SpecS.by (l45_awake_spec hy1) (rfl) ?_
 simp only [seval,EMLTableText,fld_27_1,sz_25,ag_25,und_25,hb2]
 cases h
 simp only [seval,FMLTableText,hb2]
 refine .region fun e h=>?_
 simp only [seval,EMLTableText,hb2]
 refine SpecS.by (l45_awake_spec hy1) (rfl) ?_
 simp only [seval,EMLTableText,hb2]
 cases h
 simp only [seval,FMLTableText,hb2]
 intro v1
 refine Mir.toK (.cond rfl (fun hb5=>?_) (fun hb5=>?_))
 refine .seqK (.bind fun y2 hy6=>.region fun e h=>?_)
 simp only [seval,EMLTableText]
 refine SpecS.by (l45_awake_spec hy6) (rfl) ?_
 simp only [seval,EMLTableText]
 refine mU e (.ret fun e h=>?_) h
 cases h
 simp only [seval,FMLTableText,Tryz.results3]
 refine .skip (Mir.toK (.seqK (.bind fun y3 hy7=>.bind fun y4 hy8=>.region fun e h=>?_)))
 simp only [seval,EMLTableText,ag_27,sz_27]
 refine SpecS.by (l45_theirs_spec hy7) (by simp only [seval,FMLTableText]) ?_
 simp only [seval,EMLTableText]
 refine SpecS.by (tb_Format_spec hy8) (by simp only [seval,FMLTableText]) ?_
 simp only [seval,EMLTableText]
 refine mU e (.seqK (.bind fun y5 hy9=>.region fun e h=>?_)) h
 simp only [seval,EMLTableText,ag_27,sz_27]
 refine SpecS.by (r45_Format_spec hy9) (by simp only [seval,FMLTableText]) ?_
 simp only [seval,EMLTableText]
 refine mU e (.seqK (.seqK (.joinV ([U,.ptr 0 0,U,.d (.str y4.1),.d (.int .i64 y4.2),U,U,U,U,U,U,U,U,U,U,U,U,U,U,U,U,U,U,U,U,U,U,U,U,U,U,U,U,U,U,U,U,.d (.bool (!(y4.1 == y5.1) || (y4.2 != y5.2)))] ++ us 20) ⟨[[.d (.int .i64 a0.Work.e0.X),.d (.int .i64 a0.Work.e0.Y),.d (.int .i64 a0.Work.e0.Z),.d (.int .i64 a0.Work.e1.X),.d (.int .i64 a0.Work.e1.Y),.d (.int .i64 a0.Work.e1.Z),.d (.int .i64 a0.Work.e2.X),.d (.int .i64 a0.Work.e2.Y),.d (.int .i64 a0.Work.e2.Z),.d (.int .i64 a0.Work.e3.X),.d (.int .i64 a0.Work.e3.Y),.d (.int .i64 a0.Work.e3.Z),.d (.int .i64 a0.Work.e4.X),.d (.int .i64 a0.Work.e4.Y),.d (.int .i64 a0.Work.e4.Z),.d (.int .i64 a0.Work.e5.X),.d (.int .i64 a0.Work.e5.Y),.d (.int .i64 a0.Work.e5.Z),.d (.list (List.map encR45Length a0.Lengths))]],[]⟩ rfl ?_ ?_))) h
 refine SWs.region ?_
 rcases Bool.eq_false_or_eq_true (y4.1 == y5.1) with hb10 | hb10
 simp only [seval,EMLTableText,SL,PB,hb10]
 simp only [seval,EMLTableText,SL,PB,hb10]
 refine Mir.toK (.cond rfl (fun hb12=>?_) (fun hb12=>?_))
 refine .sR fun e h=>?_
 simp only [seval,EMLTableText]
 refine mU e (.ret fun e h=>?_) h
 cases h
 simp only [seval,FMLTableText,Tryz.results3]
 refine .skip (Mir.toK (.seqK (.sR fun e h=>?_)))
 simp only [seval,EMLTableText]
 refine mU e (.cond rfl (fun hb14=>?_) (fun hb14=>?_)) h
 refine .sR fun e h=>?_
 simp only [seval,EMLTableText]
 refine mU e (.ret fun e h=>?_) h
 cases h
 simp only [seval,FMLTableText,Tryz.results3]
 refine .skip (Mir.toK (.seqK (.bind fun y6 hy15=>.region fun e h=>?_)))
 simp only [seval,EMLTableText]
 refine SpecS.by (tb_Parse_spec hy15) (by simp only [seval,FMLTableText]) ?_
 simp only [seval,EMLTableText,zero_34,sz_34]
 refine mU e (.seqK (Mir.joinO (fun v2 : Bool=>([U,U,.d (.bool v2)] ++ us 55)) (fun v2=>⟨[[.d (.int .i64 a0.Work.e0.X),.d (.int .i64 a0.Work.e0.Y),.d (.int .i64 a0.Work.e0.Z),.d (.int .i64 a0.Work.e1.X),.d (.int .i64 a0.Work.e1.Y),.d (.int .i64 a0.Work.e1.Z),.d (.int .i64 a0.Work.e2.X),.d (.int .i64 a0.Work.e2.Y),.d (.int .i64 a0.Work.e2.Z),.d (.int .i64 a0.Work.e3.X),.d (.int .i64 a0.Work.e3.Y),.d (.int .i64 a0.Work.e3.Z),.d (.int .i64 a0.Work.e4.X),.d (.int .i64 a0.Work.e4.Y),.d (.int .i64 a0.Work.e4.Z),.d (.int .i64 a0.Work.e5.X),.d (.int .i64 a0.Work.e5.Y),.d (.int .i64 a0.Work.e5.Z),.d (.list (List.map encR45Length a0.Lengths))],[.d (.int .i64 y6.1.Work.e0.X),.d (.int .i64 y6.1.Work.e0.Y),.d (.int .i64 y6.1.Work.e0.Z),.d (.int .i64 y6.1.Work.e1.X),.d (.int .i64 y6.1.Work.e1.Y),.d (.int .i64 y6.1.Work.e1.Z),.d (.int .i64 y6.1.Work.e2.X),.d (.int .i64 y6.1.Work.e2.Y),.d (.int .i64 y6.1.Work.e2.Z),.d (.int .i64 y6.1.Work.e3.X),.d (.int .i64 y6.1.Work.e3.Y),.d (.int .i64 y6.1.Work.e3.Z),.d (.int .i64 y6.1.Work.e4.X),.d (.int .i64 y6.1.Work.e4.Y),.d (.int .i64 y6.1.Work.e4.Z),.d (.int .i64 y6.1.Work.e5.X),.d (.int .i64 y6.1.Work.e5.Y),.d (.int .i64 y6.1.Work.e5.Z),.d (.list (List.map encTableLength y6.1.Lengths))]],[]⟩) (fun _=>rfl) ?_ ?_)) h
 refine .ite (fun hb16=>?_) (fun hb16=>?_)
 refine .ite (fun hb17=>?_) (fun hb17=>?_)
 refine .bind fun y7 hy18=>.bind fun y8 hy19=>.regionD [] (by kernel_rfl) fun e h=>?_
 simp only [seval,EMLTableText,SB,ag_34,sz_34,hb16,hb17]
 refine Spec.by (l45_own_spec hy18) (by simp only [seval,FMLTableText,hb16,hb17]) ?_
 simp only [seval,EMLTableText,SB,ag_27,sz_27,hb16,hb17]
 refine Spec.by (r45_Same_spec hy19) (by simp only [seval,FMLTableText,hb16,hb17]) ?_
 simp only [seval,EMLTableText,SB,hb16,hb17]
 cases h
 simp only [seval,FMLTableText,hb16,hb17]
 refine .regionD [] (by kernel_rfl) fun e h=>?_
 simp only [seval,EMLTableText,SB,hb16,hb17]
 cases h
 simp only [seval,FMLTableText,hb16,hb17]
 refine .regionD [] (by kernel_rfl) fun e h=>?_
 simp only [seval,EMLTableText,SB,hb16]
 cases h
 simp only [seval,FMLTableText,hb16]
 intro v2
 refine Mir.toK (.ret fun e h=>?_)
 cases h
 simp only [seval,FMLTableText,Tryz.results3]
theorem co_2 : Tryz.prog.cellsOf 2 = 1 := by kernel_rfl
theorem opn_2 : Opn Tryz.prog 2 (eInt .i64) (inInt .i64) := Opn.int Tryz.underlying2
def inApiPos (x : ApiPos) : Prop := (inInt .i64) x.X ∧ (inInt .i64) x.Y ∧ (inInt .i64) x.Z
theorem co_23 : Tryz.prog.cellsOf 23 = 3 := by kernel_rfl
theorem opn_23 : Opn Tryz.prog 23 encApiPos inApiPos := by
 intro w H enc fuel cs x h
 obtain ⟨xs,n,_,_,hl,hxl,hf⟩ := DataW.trod_struct Tryz.underlying23 h
 have hxl' : xs.length = 3 := hxl
 obtain ⟨s0,r0,o0⟩ := Opn.field hf 0 2 0 1 rfl co_2 (by omega) opn_2
 obtain ⟨s1,r1,o1⟩ := Opn.field hf 1 2 1 1 rfl co_2 (by omega) opn_2
 obtain ⟨s2,r2,o2⟩ := Opn.field hf 2 2 2 1 rfl co_2 (by omega) opn_2
 refine ⟨⟨s0,s1,s2⟩,?_,o0,o1,o2⟩
 exact (RelC.cut 0 1 r0 rfl (RelC.cut 1 1 r1 rfl (RelC.cut 2 1 r2 rfl (RelC.nil (n := 3) (by rw [hl,co_23]; exact Nat.le_refl _)))))
def inArr6ApiPos (x : Arr6ApiPos) : Prop := inApiPos x.e0 ∧ inApiPos x.e1 ∧ inApiPos x.e2 ∧ inApiPos x.e3 ∧ inApiPos x.e4 ∧ inApiPos x.e5
theorem co_24 : Tryz.prog.cellsOf 24 = 18 := by kernel_rfl
theorem opn_24 : Opn Tryz.prog 24 encArr6ApiPos inArr6ApiPos := by
 intro w H enc fuel cs x h
 obtain ⟨xs,n,_,_,hl,hxl,hf⟩ := DataW.trod_array Tryz.underlying24 h
 obtain ⟨s0,r0,o0⟩ := Opn.elem hf 0 3 co_23 (by omega) hxl opn_23
 obtain ⟨s1,r1,o1⟩ := Opn.elem hf 1 3 co_23 (by omega) hxl opn_23
 obtain ⟨s2,r2,o2⟩ := Opn.elem hf 2 3 co_23 (by omega) hxl opn_23
 obtain ⟨s3,r3,o3⟩ := Opn.elem hf 3 3 co_23 (by omega) hxl opn_23
 obtain ⟨s4,r4,o4⟩ := Opn.elem hf 4 3 co_23 (by omega) hxl opn_23
 obtain ⟨s5,r5,o5⟩ := Opn.elem hf 5 3 co_23 (by omega) hxl opn_23
 refine ⟨⟨s0,s1,s2,s3,s4,s5⟩,?_,o0,o1,o2,o3,o4,o5⟩
 exact (RelC.cut 0 3 r0 rfl (RelC.cut 3 3 r1 rfl (RelC.cut 6 3 r2 rfl (RelC.cut 9 3 r3 rfl (RelC.cut 12 3 r4 rfl (RelC.cut 15 3 r5 rfl (RelC.nil (n := 18) (by rw [hl,co_24]; exact Nat.le_refl _))))))))
def inR45Length (x : R45Length) : Prop := (inInt .i64) x.Number ∧ (inInt .i64) x.Length
theorem co_68 : Tryz.prog.cellsOf 68 = 2 := by kernel_rfl
theorem opn_68 : Opn Tryz.prog 68 encR45Length inR45Length := by
 intro w H enc fuel cs x h
 obtain ⟨xs,n,_,_,hl,hxl,hf⟩ := DataW.trod_struct Tryz.underlying68 h
 have hxl' : xs.length = 2 := hxl
 obtain ⟨s0,r0,o0⟩ := Opn.field hf 0 2 0 1 rfl co_2 (by omega) opn_2
 obtain ⟨s1,r1,o1⟩ := Opn.field hf 1 2 1 1 rfl co_2 (by omega) opn_2
 refine ⟨⟨s0,s1⟩,?_,o0,o1⟩
 exact (RelC.cut 0 1 r0 rfl (RelC.cut 1 1 r1 rfl (RelC.nil (n := 2) (by rw [hl,co_68]; exact Nat.le_refl _))))
theorem co_25 : Tryz.prog.cellsOf 25 = 1 := by kernel_rfl
theorem opn_25 : Opn Tryz.prog 25 (eList encR45Length) (inList inR45Length) := Opn.slice Tryz.underlying25 opn_68 (fun _=>(rfl : _ = 2).trans co_68.symm) (by rw [co_68]; decide)
def inR45Table (x : R45Table) : Prop := inArr6ApiPos x.Work ∧ (inList inR45Length) x.Lengths
theorem co_27 : Tryz.prog.cellsOf 27 = 19 := by kernel_rfl
theorem opn_27 : Opn Tryz.prog 27 encR45Table inR45Table := by
 intro w H enc fuel cs x h
 obtain ⟨xs,n,_,_,hl,hxl,hf⟩ := DataW.trod_struct Tryz.underlying27 h
 have hxl' : xs.length = 2 := hxl
 obtain ⟨s0,r0,o0⟩ := Opn.field hf 0 24 0 18 rfl co_24 (by omega) opn_24
 obtain ⟨s1,r1,o1⟩ := Opn.field hf 1 25 18 1 rfl co_25 (by omega) opn_25
 refine ⟨⟨s0,s1⟩,?_,o0,o1⟩
 exact (RelC.cut 0 18 r0 rfl (RelC.cut 18 1 r1 rfl (RelC.nil (n := 19) (by rw [hl,co_27]; exact Nat.le_refl _))))
end Go.Proofs.YtjamgiobipdfhaaGreatDoor
