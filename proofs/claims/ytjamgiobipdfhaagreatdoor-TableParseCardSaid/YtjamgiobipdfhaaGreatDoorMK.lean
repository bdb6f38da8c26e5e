import Derived.Test.YtjamgiobipdfhaaGreatDoorMKa
open List renaming map → zC,replicate → zI,length → zJ
open Int renaming toNat_natCast → zD,reduceToNat → zF,reduceLT → zG
open Bool renaming eq_false_or_eq_true → zE
open Nat renaming sub_zero → zH,le_of_ble_eq_true → zK,le_refl → zL
open Go.IntKind renaming i64 → zM
namespace Go.Proofs.YtjamgiobipdfhaaGreatDoor
open Go.RowKit
open Nat renaming reduceAdd → nA,reduceSub → nS,reduceMul → nM,reduceEqDiff → nE,reduceLeDiff → nL,reduceLT → nT,reduceBEq → nB
open Int renaming reduceLT → iT,reduceToNat → iN,reduceEq → iE
set_option linter.unusedVariables false
set_option linter.unusedSimpArgs false
set_option maxRecDepth 100000
set_option maxHeartbeats 8000000
def r45_words (a0 : (List UInt8)) : Option (List (List UInt8)) := bindO (guardO (okIdx a0) ( rangeX (λ(i1 : Nat) (c1 : UInt8) (v1 : (Nat × List (List UInt8)))=>bindO (if ((c1.toNat : Int) == 32) = true then guardO (okLen (v1.2.length + 1)) ( some (v1.1 + 1,v1.2 ++ [[]])) else bindO (gt v1.2 (zM.wrap ((v1.2.length : Int) - 1))) λ(e1 : (List UInt8))=>bindO (cutL a0 (i1 : Int) (zM.wrap ((i1 : Int) + 1))) λ(s1 : (List UInt8))=>guardO (okStr e1 s1) ( bindO (gt v1.2 (zM.wrap ((v1.2.length : Int) - 1))) λ(e2 : (List UInt8))=>some (v1.1,v1.2.set (Int.toNat (zM.wrap ((v1.2.length : Int) - 1))) (e1 ++ s1)))) λ(v2 : (Nat × List (List UInt8)))=>some (.go (v2.1,v2.2))) (λ(v1 : (Nat × List (List UInt8)))=>some (v1.1,v1.2)) a0 0 (0,[[]]))) λ(v3 : (Nat × List (List UInt8)))=>some v3.2
theorem r45_words_spec {a0 : (List UInt8)} {y : (List (List UInt8))} (h : r45_words a0 = some y) : Spec gP 52 [.d (.str a0)] (.d (.list (zC eStr y))) := by
 refine spec_mir Tryz.func52 rfl (by kernel_rfl) (by kernel_rfl) (λy : (List (List UInt8))=>.d (.list (zC eStr y))) ?_ h
 unfold r45_words
 simp only [zI,zJ,nS,nA,Tryz.ntmps52,SV]
 refine .sR λe h=>?_
 simp only [seval,EMK,eStr,rmap_set,spD]
 refine mU e (.seqK (.regionW λe h=>regW.alt 0 rfl ?_)) h
 simp only [seval,EMK,w_none,w_eq,eStr,rmap_set,spD]
 refine alt_litRow (es := zC eStr [[]]) app_70 (by simp only [seval,EMK,und_70,sz_9,zero_9,(oL 1),eStr,rmap_set,spD]) (by decide) rfl (regW.of ?_)
 simp only [seval,EMK,w_none,w_eq,und_70,sz_9,zero_9,(oL 1),eStr,rmap_set,spD]
 refine mU e (.seqK (.sR λe h=>?_)) h
 simp only [seval,EMK,eStr,rmap_set,spD]
 refine mU e (Mir.joinO (λv3 : (Nat × List (List UInt8))=>([U,U,U,.gr 0 v3.1] ++ us 33)) (λv3=>⟨[[.rowc 9 v3.1 (zC eStr v3.2)]],[]⟩) (λ_=>rfl) ?_ ?_) h
 refine .block (.guard λq1=>Mir.range (λ(i1 : Nat) (v1 : (Nat × List (List UInt8)))=>([.d (.str a0),U,U,.gr 0 v1.1,.d (.int .i64 (i1 : Int))] ++ us 32)) (λi1 v1=>⟨[[.rowc 9 v1.1 (zC eStr v1.2)]],[]⟩) q1 (λ_ _=>rfl) (by simp only [seval,FMK,eStr,rmap_set,spD,zNI]) (by simp only [seval,FMK,eStr,rmap_set,spD,zNI]) ?_ ?_)
 intro i1 c1 v1 q2
 refine .seqK (.sR λe h=>?_)
 simp only [seval,EMK,und_9,q2,eStr,rmap_set,spD]
 refine mU e (.condT rfl (.skip (Mir.toK (.seqK (Mir.joinO (λv2 : (Nat × List (List UInt8))=>([.d (.str a0),U,U,.gr 0 v2.1,.d (.int .i64 (i1 : Int))] ++ us 32)) (λv2=>⟨[[.rowc 9 v2.1 (zC eStr v2.2)]],[]⟩) (λ_=>rfl) ?_ ?_))))) h
 refine .block (.sR λe h=>?_)
 simp only [seval,EMK,und_9,zD,q2,eStr,rmap_set,spD]
 refine mU e (.cond rfl (λh1=>?_) (λh1=>?_)) h
 refine .guard λq3=>.regionW λe h=>regW.alt 2 rfl ?_
 simp only [seval,EMK,w_none,w_eq,und_70,sz_9,zero_9,(oL 1),eStr,rmap_set,spD]
 refine alt_appR (e' := 0) (ys := zC eStr [[]]) rfl (by simp only [seval,EMK,eStr,rmap_set,spD]) rfl app_70 al_eStr (Nat.zero_lt_succ _) (ok2 q3 (by simp only [lm]) rfl) (regW.of ?_)
 simp only [seval,EMK,w_none,w_eq,app_70,al_eStr,eStr,rmap_set,spD]
 cases h
 simp only [seval,FMK,eStr,rmap_set,spD,Tryz.results52]
 refine .bind λe1 q4=>?_
 replace q4 := gt_ok q4
 refine .bind λs1 q5=>?_
 replace q5 := cutL_ok q5
 simp only [zD] at q5
 refine .guard λq6=>?_
 replace q6 := okStr_ok q6
 refine .bind λe2 q7=>?_
 replace q7 := gt_ok q7
 refine Mir.regionST 17 (by kernel_rfl) λe h=>stW.alt 2 rfl (by kernel_rfl) ?_
 simp only [seval,EMK,w_none,w_eq,eStr,rmap_set,spD]
 refine st_lenR rfl rfl und_70 (stW.alt 3 rfl (by kernel_rfl) ?_)
 simp only [seval,EMK,w_none,w_eq,und_70,eStr,rmap_set,spD]
 refine st_lenR rfl rfl und_70 (stW.alt 1 rfl (by kernel_rfl) ?_)
 simp only [seval,EMK,w_none,w_eq,und_70,eStr,rmap_set,spD]
 refine st_indexR rfl rfl rfl und_70 sz_9 (row_lo q4.1) (row_hi q4.2 q4.1) (stW.alt 0 rfl (by kernel_rfl) ?_)
 simp only [seval,EMK,w_none,w_eq,und_70,sz_9,eStr,rmap_set,spD]
 refine st_loadR rfl rfl (row_at q4.2) (by simp only [↓reduceIte,nA,nL,pt_eq,ag_9,sz_9,dc_cons,dc_nil,SV,eStr] <;> rfl) (stW.alt 6 rfl (by kernel_rfl) ?_)
 simp only [seval,EMK,w_none,w_eq,ag_9,sz_9,und_9,q5,zL,and_true,true_and,dm,tm,zD,q6,eStr,rmap_set,spD]
 refine st_indexR rfl rfl rfl und_70 sz_9 (row_lo q7.1) (row_hi q7.2 q7.1) (stW.of (by kernel_rfl) ?_)
 simp only [seval,EMK,w_none,w_eq,und_70,sz_9,eStr,rmap_set,spD]
 refine regW.alt 0 rfl ?_
 simp only [seval,EMK,w_none,w_eq,eStr,rmap_set,spD]
 refine alt_storeR rfl rfl (row_at q7.2) rfl rfl sz_9 rfl (zK rfl) (regW.of ?_)
 simp only [seval,EMK,w_none,w_eq,sz_9,eStr,rmap_set,spD]
 cases h
 simp only [seval,FMK,eStr,rmap_set,spD,Tryz.results52]
 intro v2
 refine Mir.toK (.region λe h=>?_)
 simp only [seval,EMK,eStr,rmap_set,spD]
 cases h
 simp only [seval,FMK,eStr,rmap_set,spD,Tryz.results52,q2]
 intro v1 q8
 refine .seqK (.sR λe h=>?_)
 simp only [seval,EMK,und_9,q8,eStr,rmap_set,spD]
 refine mU e (.condF rfl (.exit λe h=>?_)) h
 cases h
 simp only [seval,FMK,eStr,rmap_set,spD,Tryz.results52]
 intro v3
 refine Mir.toK (.sR λe h=>?_)
 simp only [seval,EMK,eStr,rmap_set,spD]
 refine mU e (.frz 0 rfl ?_) h
 simp only [seval,us_0,us_s,xCA,xNA,and_self,and_true,true_and,and_false,false_and,SZ]
 refine .ret λe h=>?_
 cases h
 simp only [seval,FMK,eStr,rmap_set,spD,Tryz.results52]
def r45_number (a0 : (List UInt8)) : Option Int := bindX (guardO (okIdx a0) ( rangeX (λ(i1 : Nat) (c1 : UInt8) (v1 : Int)=>if ((decide ((c1.toNat : Int) < 48)) || ((decide ((c1.toNat : Int) > 57)) || (decide ((i1 : Int) > 2)))) = true then some (.ret (.ret (-1))) else some (.go (zM.wrap ((zM.wrap (10 * v1)) + (zM.wrap (IntKind.u8.wrap ((c1.toNat : Int) - 48))))))) (λ(v1 : Int)=>some (.go v1)) a0 0 0)) λ(v2 : Int)=>some v2
theorem r45_number_spec {a0 : (List UInt8)} {y : Int} (h : r45_number a0 = some y) : Spec gP 54 [.d (.str a0)] (.d (.int .i64 y)) := by
 refine spec_mir Tryz.func54 rfl (by kernel_rfl) (by kernel_rfl) (λy : Int=>.d (.int .i64 y)) ?_ h
 unfold r45_number
 simp only [zI,zJ,nS,nA,Tryz.ntmps54,SV]
 refine .sR λe h=>?_
 simp only [seval,EMK]
 refine mU e (.sR λe h=>?_) h
 simp only [seval,EMK]
 refine mU e (.seqK (.sR λe h=>?_)) h
 simp only [seval,EMK]
 refine mU e (Mir.join (λv2 : Int=>([U,U,U,.d (.int .i64 v2)] ++ us 30)) (λv2=>⟨[],[]⟩) (λ_=>rfl) ?_ ?_) h
 refine .block (.guard λqg98=>Mir.range (λ(i1 : Nat) (v1 : Int)=>([.d (.str a0),U,U,.d (.int .i64 v1),.d (.int .i64 (i1 : Int))] ++ us 29)) (λi1 v1=>⟨[],[]⟩) qg98 (λ_ _=>rfl) (by simp only [seval,FMK,zNI]) (by simp only [seval,FMK,zNI]) ?_ ?_)
 intro i1 c1 v1 qr96
 refine .seqK (.sR λe h=>?_)
 simp only [seval,EMK,und_9,qr96]
 refine mU e (.condT rfl (.skip (Mir.toK (.seqK (.block (.seqK (.seqK (.joinV ([.d (.str a0),U,U,.d (.int .i64 v1),.d (.int .i64 (i1 : Int)),U,U,U,U,U,U,U,U,U,U,U,U,U,U,U,U,U,U,U,.d (.bool ((decide ((c1.toNat : Int) < 48)) || ((decide ((c1.toNat : Int) > 57)) || (decide ((i1 : Int) > 2)))))] ++ us 9) ⟨[],[]⟩ rfl ?_ ?_)))))))) h
 refine SWs.region ?_
 rcases zE (decide ((c1.toNat : Int) < 48)) with h1 | h1
 simp only [seval,EMK,SL,PB,und_9,zD,qr96,h1]
 rcases zE (decide ((c1.toNat : Int) > 57)) with h2 | h2
 simp only [seval,EMK,SL,PB,und_9,zD,qr96,h1,h2]
 simp only [seval,EMK,SL,PB,und_9,zD,qr96,h1,h2]
 refine Mir.toK (.cond rfl (λh3=>?_) (λh3=>?_))
 refine .sR λe h=>?_
 simp only [seval,EMK]
 refine mU e (.ret λe h=>?_) h
 cases h
 simp only [seval,FMK,Tryz.results54]
 refine .skip (Mir.toK (.region λe h=>?_))
 simp only [seval,EMK,und_9,zD,qr96,und_5,und_2]
 refine mU e (.region λe h=>?_) h
 simp only [seval,EMK]
 cases h
 simp only [seval,FMK,Tryz.results54,qr96]
 intro v1 qd97
 refine .seqK (.sR λe h=>?_)
 simp only [seval,EMK,und_9,qd97]
 refine mU e (.condF rfl (.exit λe h=>?_)) h
 cases h
 simp only [seval,FMK,Tryz.results54]
 intro v2
 refine Mir.toK (.sR λe h=>?_)
 simp only [seval,EMK]
 refine mU e (.ret λe h=>?_) h
 cases h
 simp only [seval,FMK,Tryz.results54]
def r45_index (a0 : Int) : Option Int := if ((decide (a0 < 54000)) || ((decide (a0 > 59000)) || ((Int.tmod a0 1000) != 0))) = true then some (-1) else some (zM.wrap ((zM.wrap (Int.tdiv a0 1000)) - 54))
theorem r45_index_spec {a0 : Int} {y : Int} (h : r45_index a0 = some y) : Spec gP 53 [.d (.int .i64 a0)] (.d (.int .i64 y)) := by
 refine spec_mir Tryz.func53 rfl (by kernel_rfl) (by kernel_rfl) (λy : Int=>.d (.int .i64 y)) ?_ h
 unfold r45_index
 simp only [zI,zJ,nS,nA,Tryz.ntmps53,SV]
 refine .sR λe h=>?_
 simp only [seval,EMK]
 refine mU e (.seqK (.seqK (.joinV [.d (.int .i64 a0),U,U,U,U,U,U,U,U,U,U,U,U,.d (.bool ((decide (a0 < 54000)) || ((decide (a0 > 59000)) || ((Int.tmod a0 1000) != 0)))),U,U,U] ⟨[],[]⟩ rfl ?_ ?_))) h
 refine SWs.region ?_
 rcases zE (decide (a0 < 54000)) with hb1 | hb1
 simp only [seval,EMK,SL,PB,hb1]
 rcases zE (decide (a0 > 59000)) with hb2 | hb2
 simp only [seval,EMK,SL,PB,hb1,hb2]
 simp only [seval,EMK,SL,PB,hb1,hb2]
 refine Mir.toK (.cond rfl (λhb4=>?_) (λhb4=>?_))
 refine .sR λe h=>?_
 simp only [seval,EMK]
 refine mU e (.ret λe h=>?_) h
 cases h
 simp only [seval,FMK,Tryz.results53]
 refine .skip (Mir.toK (.sR λe h=>?_))
 simp only [seval,EMK]
 refine mU e (.ret λe h=>?_) h
 cases h
 simp only [seval,FMK,Tryz.results53]
def r45_read (a0 : R45Table) (a1 : (List UInt8)) : Option (R45Table × Bool) := bindO (r45_words a1) λ(y1 : (List (List UInt8)))=>bindO (r45_Lines a0) λ(y2 : (List (List UInt8)))=>bindO (if ((y1.length : Int) == 5) = true then bindO (gt y1 0) λ(e1 : (List UInt8))=>if (e1 == [119,111,114,107]) = true then bindO (gt y1 1) λ(e2 : (List UInt8))=>if ((e2.length : Int) == 3) = true then bindO (gt e2 0) λ(c1 : UInt8)=>if ((c1.toNat : Int) == 71) = true then some ((a0.Lengths.length : Int) == 0) else some false else some false else some false else some false) λ(v1 : Bool)=>bindX (if v1 = true then bindO (gt y1 1) λ(e3 : (List UInt8))=>bindO (cutF e3 1) λ(s1 : (List UInt8))=>bindO (r45_number s1) λ(y3 : Int)=>bindO (r45_index (zM.wrap (1000 * y3))) λ(y4 : Int)=>bindO (gt y1 2) λ(e4 : (List UInt8))=>bindO (r06_FromMillimetres e4) λ(y5 : Int × Int)=>bindO (gt y1 3) λ(e5 : (List UInt8))=>bindO (r06_FromMillimetres e5) λ(y6 : Int × Int)=>bindO (gt y1 4) λ(e6 : (List UInt8))=>bindO (r06_FromMillimetres e6) λ(y7 : Int × Int)=>if ((decide (y4 < 0)) || ((y5.2 != 0) || ((y6.2 != 0) || (y7.2 != 0)))) = true then some (.ret (a0,false)) else bindO (guardO (decide (0 ≤ y4 ∧ y4 < 6)) ( if (y4 == 0) = true then some (R45Table.mk (Arr6ApiPos.mk (ApiPos.mk y5.1 y6.1 y7.1) a0.Work.e1 a0.Work.e2 a0.Work.e3 a0.Work.e4 a0.Work.e5) a0.Lengths) else if (y4 == 1) = true then some (R45Table.mk (Arr6ApiPos.mk a0.Work.e0 (ApiPos.mk y5.1 y6.1 y7.1) a0.Work.e2 a0.Work.e3 a0.Work.e4 a0.Work.e5) a0.Lengths) else if (y4 == 2) = true then some (R45Table.mk (Arr6ApiPos.mk a0.Work.e0 a0.Work.e1 (ApiPos.mk y5.1 y6.1 y7.1) a0.Work.e3 a0.Work.e4 a0.Work.e5) a0.Lengths) else if (y4 == 3) = true then some (R45Table.mk (Arr6ApiPos.mk a0.Work.e0 a0.Work.e1 a0.Work.e2 (ApiPos.mk y5.1 y6.1 y7.1) a0.Work.e4 a0.Work.e5) a0.Lengths) else if (y4 == 4) = true then some (R45Table.mk (Arr6ApiPos.mk a0.Work.e0 a0.Work.e1 a0.Work.e2 a0.Work.e3 (ApiPos.mk y5.1 y6.1 y7.1) a0.Work.e5) a0.Lengths) else some (R45Table.mk (Arr6ApiPos.mk a0.Work.e0 a0.Work.e1 a0.Work.e2 a0.Work.e3 a0.Work.e4 (ApiPos.mk y5.1 y6.1 y7.1)) a0.Lengths))) λ(v2 : R45Table)=>some (.go v2) else bindO (if ((y1.length : Int) == 3) = true then bindO (gt y1 0) λ(e7 : (List UInt8))=>some (e7 == [108,101,110,103,116,104]) else some false) λ(v3 : Bool)=>if v3 = true then bindO (gt y1 2) λ(e8 : (List UInt8))=>bindO (r06_FromMillimetres e8) λ(y8 : Int × Int)=>if (y8.2 != 0) = true then some (.ret (a0,false)) else guardO (okLen (0 + a0.Lengths.length)) ( bindO (gt y1 1) λ(e9 : (List UInt8))=>bindO (r45_number e9) λ(y9 : Int)=>guardO (okLen (0 + a0.Lengths.length + 1)) ( some (.go (R45Table.mk a0.Work ([] ++ a0.Lengths ++ [R45Length.mk y9 y8.1]))))) else some (.ret (a0,false))) λ(v4 : R45Table)=>bindO (r45_Lines v4) λ(y10 : (List (List UInt8)))=>bindO (bindO (r45_Valid v4) λ(y11 : Int)=>if (y11 == 0) = true then if ((y10.length : Int) == (zM.wrap ((y2.length : Int) + 1))) = true then bindO (gt y10 (y2.length : Int)) λ(e10 : (List UInt8))=>some (e10 == a1) else some false else some false) λ(v5 : Bool)=>some (v4,v5)
theorem r45_read_spec {a0 : R45Table} {a1 : (List UInt8)} {y : R45Table × Bool} (h : r45_read a0 a1 = some y) : Spec gP 28 [.agg (w6 a0.Work [.d (.list (zC encR45Length a0.Lengths))]),.d (.str a1)] (.tuple [.agg (w6 y.1.Work [.d (.list (zC encR45Length y.1.Lengths))]),.d (.bool y.2)]) := by
 refine spec_mir Tryz.func28 rfl (by kernel_rfl) (by kernel_rfl) (λy : R45Table × Bool=>.tuple [.agg (w6 y.1.Work [.d (.list (zC encR45Length y.1.Lengths))]),.d (.bool y.2)]) ?_ h
 unfold r45_read
 simp only [zI,zJ,nS,nA,Tryz.ntmps28,SV]
 refine .sR λe h=>?_
 simp only [seval,EMK,zero_27,eStr]
 refine mU e (.seqK (.bind λy1 hy1=>.region λe h=>?_)) h
 simp only [seval,EMK,eStr]
 refine SpecS.by (r45_words_spec hy1) (by simp only [seval,FMK,eStr]) ?_
 simp only [seval,EMK,eStr]
 refine mU e (.seqK (.bind λy2 hy2=>.region λe h=>?_)) h
 simp only [seval,EMK,ag_27,sz_27,eStr]
 refine SpecS.by (r45_Lines_spec hy2) (by simp only [seval,FMK,eStr]) ?_
 simp only [seval,EMK,und_70,eStr]
 refine mU e (.seqK (.seqK (Mir.joinO (λv1 : Bool=>([U,.d (.str a1),.ptr 0 0,U,.ptr 1 0,U,.d (.list (zC eStr y1)),.d (.int .i64 (y2.length : Int)),U,U,U,U,U,U,U,U,U,U,U,U,U,U,U,U,U,U,U,U,U,U,U,U,U,U,U,U,U,U,U,U,U,U,U,U,U,U,U,U,U,U,U,.d (.bool v1)] ++ us 104)) (λv1=>⟨[(w6 a0.Work [.d (.list (zC encR45Length a0.Lengths))]),[.d (.int .i64 0),.d (.int .i64 0),.d (.int .i64 0),.d (.int .i64 0),.d (.int .i64 0),.d (.int .i64 0),.d (.int .i64 0),.d (.int .i64 0),.d (.int .i64 0),.d (.int .i64 0),.d (.int .i64 0),.d (.int .i64 0),.d (.int .i64 0),.d (.int .i64 0),.d (.int .i64 0),.d (.int .i64 0),.d (.int .i64 0),.d (.int .i64 0),.nil]],[]⟩) (λ_=>rfl) ?_ ?_))) h
 refine .ite (λhb3=>?_) (λhb3=>?_)
 refine .bind λe1 q4=>?_
 replace q4 := gt_ok q4
 simp only [zF,zG,zH,dp0] at q4
 refine .ite (λhb5=>?_) (λhb5=>?_)
 refine .bind λe2 q6=>?_
 replace q6 := gt_ok q6
 simp only [zF,zG,zH,dp0] at q6
 refine .ite (λhb7=>?_) (λhb7=>?_)
 refine .bind λc1 q8=>?_
 replace q8 := gt_ok q8
 simp only [zF,zG,zH,dp0] at q8
 refine .ite (λhb9=>?_) (λhb9=>?_)
 refine .region λe h=>?_
 simp only [seval,EMK,und_70,sz_9,q4,ag_9,q6,und_9,q8,fld_27_1,sz_25,ag_25,und_25,eStr,hb3,hb5,hb7,hb9]
 cases h
 simp only [seval,FMK,eStr,hb3,hb5,hb7,hb9]
 refine .region λe h=>?_
 simp only [seval,EMK,und_70,sz_9,q4,ag_9,q6,und_9,q8,eStr,hb3,hb5,hb7,hb9]
 cases h
 simp only [seval,FMK,eStr,hb3,hb5,hb7,hb9]
 refine .region λe h=>?_
 simp only [seval,EMK,und_70,sz_9,q4,ag_9,q6,und_9,eStr,hb3,hb5,hb7]
 cases h
 simp only [seval,FMK,eStr,hb3,hb5,hb7]
 refine .region λe h=>?_
 simp only [seval,EMK,und_70,sz_9,q4,ag_9,eStr,hb3,hb5]
 cases h
 simp only [seval,FMK,eStr,hb3,hb5]
 refine .region λe h=>?_
 simp only [seval,EMK,und_70,eStr,hb3]
 cases h
 simp only [seval,FMK,eStr,hb3]
 intro v1
 refine Mir.toK (Mir.join (λv4 : R45Table=>([U,.d (.str a1),.ptr 0 0,U,.ptr 1 0,U,U,.d (.int .i64 (y2.length : Int))] ++ us 148)) (λv4=>⟨[(w6 v4.Work [.d (.list (zC encR45Length v4.Lengths))]),[.d (.int .i64 0),.d (.int .i64 0),.d (.int .i64 0),.d (.int .i64 0),.d (.int .i64 0),.d (.int .i64 0),.d (.int .i64 0),.d (.int .i64 0),.d (.int .i64 0),.d (.int .i64 0),.d (.int .i64 0),.d (.int .i64 0),.d (.int .i64 0),.d (.int .i64 0),.d (.int .i64 0),.d (.int .i64 0),.d (.int .i64 0),.d (.int .i64 0),.nil]],[]⟩) (λ_=>rfl) ?_ ?_)
 refine .cond rfl (λhb44=>?_) (λhb44=>?_)
 refine .seqK (.bind λe3 q45=>?_)
 replace q45 := gt_ok q45
 simp only [zF,zG,zH,dp0] at q45
 refine .bind λs1 q46=>?_
 replace q46 := cutF_ok q46
 simp only [zF,zG,zH,dp0] at q46
 refine .bind λy3 hy47=>.bind λy4 hy48=>.region λe h=>?_
 simp only [seval,EMK,und_70,sz_9,q45,ag_9,und_9,q46,zL,and_true,true_and,dm,tm,eStr]
 refine SpecS.by (r45_number_spec hy47) (by simp only [seval,FMK,eStr]) ?_
 simp only [seval,EMK,eStr]
 refine SpecS.by (r45_index_spec hy48) (by simp only [seval,FMK,eStr]) ?_
 simp only [seval,EMK,eStr]
 refine mU e (.seqK (.bind λe4 q49=>?_)) h
 replace q49 := gt_ok q49
 simp only [zF,zG,zH,dp0] at q49
 refine .bind λy5 hy50=>.region λe h=>?_
 simp only [seval,EMK,und_70,sz_9,q49,ag_9,eStr]
 refine SpecS.by (r06_FromMillimetres_spec hy50) (by simp only [seval,FMK,eStr]) ?_
 simp only [seval,EMK,eStr]
 refine mU e (.seqK (.bind λe5 q51=>?_)) h
 replace q51 := gt_ok q51
 simp only [zF,zG,zH,dp0] at q51
 refine .bind λy6 hy52=>.region λe h=>?_
 simp only [seval,EMK,und_70,sz_9,q51,ag_9,eStr]
 refine SpecS.by (r06_FromMillimetres_spec hy52) (by simp only [seval,FMK,eStr]) ?_
 simp only [seval,EMK,eStr]
 refine mU e (.seqK (.bind λe6 q53=>?_)) h
 replace q53 := gt_ok q53
 simp only [zF,zG,zH,dp0] at q53
 refine .bind λy7 hy54=>.region λe h=>?_
 simp only [seval,EMK,und_70,sz_9,q53,ag_9,eStr]
 refine SpecS.by (r06_FromMillimetres_spec hy54) (by simp only [seval,FMK,eStr]) ?_
 simp only [seval,EMK,eStr]
 refine mU e (.seqK (.seqK (.joinV ([U,.d (.str a1),.ptr 0 0,U,.ptr 1 0,U,U,.d (.int .i64 (y2.length : Int)),.d (.int .i64 y4),.d (.int .i64 y5.1),U,.d (.int .i64 y6.1),U,.d (.int .i64 y7.1),U,U,U,U,U,U,U,U,U,U,U,U,U,U,U,U,U,U,U,U,U,U,U,U,U,U,U,U,U,U,U,U,U,U,U,U,U,U,U,U,U,U,U,U,U,U,U,U,U,U,U,U,U,U,U,U,U,U,U,U,U,U,U,U,U,U,U,U,U,U,U,U,U,U,U,U,U,U,U,.d (.bool ((decide (y4 < 0)) || ((y5.2 != 0) || ((y6.2 != 0) || (y7.2 != 0)))))] ++ us 62) ⟨[(w6 a0.Work [.d (.list (zC encR45Length a0.Lengths))]),[.d (.int .i64 0),.d (.int .i64 0),.d (.int .i64 0),.d (.int .i64 0),.d (.int .i64 0),.d (.int .i64 0),.d (.int .i64 0),.d (.int .i64 0),.d (.int .i64 0),.d (.int .i64 0),.d (.int .i64 0),.d (.int .i64 0),.d (.int .i64 0),.d (.int .i64 0),.d (.int .i64 0),.d (.int .i64 0),.d (.int .i64 0),.d (.int .i64 0),.nil]],[]⟩ rfl ?_ ?_))) h
 refine SWs.region ?_
 rcases zE (decide (y4 < 0)) with hb55 | hb55
 simp only [seval,EMK,SL,PB,hb55,eStr]
 rcases zE (y5.2 != 0) with hb56 | hb56
 simp only [seval,EMK,SL,PB,hb55,hb56,eStr]
 rcases zE (y6.2 != 0) with hb57 | hb57
 simp only [seval,EMK,SL,PB,hb55,hb56,hb57,eStr]
 simp only [seval,EMK,SL,PB,hb55,hb56,hb57,eStr]
 refine Mir.toK (.cond rfl (λhb59=>?_) (λhb59=>?_))
 refine .sR λe h=>?_
 simp only [seval,EMK,ag_27,sz_27,eStr]
 refine mU e (.ret λe h=>?_) h
 cases h
 simp only [seval,FMK,eStr,Tryz.results28,ag_27,sz_27]
 refine .skip (Mir.toK (Mir.joinO (λv2 : R45Table=>([U,.d (.str a1),.ptr 0 0,U,.ptr 1 0,U,U,.d (.int .i64 (y2.length : Int))] ++ us 148)) (λv2=>⟨[(w6 v2.Work [.d (.list (zC encR45Length v2.Lengths))]),[.d (.int .i64 0),.d (.int .i64 0),.d (.int .i64 0),.d (.int .i64 0),.d (.int .i64 0),.d (.int .i64 0),.d (.int .i64 0),.d (.int .i64 0),.d (.int .i64 0),.d (.int .i64 0),.d (.int .i64 0),.d (.int .i64 0),.d (.int .i64 0),.d (.int .i64 0),.d (.int .i64 0),.d (.int .i64 0),.d (.int .i64 0),.d (.int .i64 0),.nil]],[]⟩) (λ_=>rfl) ?_ ?_))
 refine .guard λqi60=>.ite (λhb61=>?_) (λhb61=>?_)
 refine .region λe h=>?_
 simp only [seval,EMK,zero_23,pl_23,fld_27_0,sz_24,und_24,(eq_of_beq hb61),sz_23,ag_23,eStr,hb61]
 cases h
 simp only [seval,FMK,eStr,hb61]
 refine .ite (λhb62=>?_) (λhb62=>?_)
 refine .region λe h=>?_
 simp only [seval,EMK,zero_23,pl_23,fld_27_0,sz_24,und_24,(eq_of_beq hb62),sz_23,ag_23,eStr,hb61,hb62]
 cases h
 simp only [seval,FMK,eStr,hb61,hb62]
 refine .ite (λhb63=>?_) (λhb63=>?_)
 refine .region λe h=>?_
 simp only [seval,EMK,zero_23,pl_23,fld_27_0,sz_24,und_24,(eq_of_beq hb63),sz_23,ag_23,eStr,hb61,hb62,hb63]
 cases h
 simp only [seval,FMK,eStr,hb61,hb62,hb63]
 refine .ite (λhb64=>?_) (λhb64=>?_)
 refine .region λe h=>?_
 simp only [seval,EMK,zero_23,pl_23,fld_27_0,sz_24,und_24,(eq_of_beq hb64),sz_23,ag_23,eStr,hb61,hb62,hb63,hb64]
 cases h
 simp only [seval,FMK,eStr,hb61,hb62,hb63,hb64]
 refine .ite (λhb65=>?_) (λhb65=>?_)
 refine .region λe h=>?_
 simp only [seval,EMK,zero_23,pl_23,fld_27_0,sz_24,und_24,(eq_of_beq hb65),sz_23,ag_23,eStr,hb61,hb62,hb63,hb64,hb65]
 cases h
 simp only [seval,FMK,eStr,hb61,hb62,hb63,hb64,hb65]
 have hz66 : y4 = 5 := by have h0 := of_decide_eq_true qi60; have h1 := ne_of_beq_false hb61; have h2 := ne_of_beq_false hb62; have h3 := ne_of_beq_false hb63; have h4 := ne_of_beq_false hb64; have h5 := ne_of_beq_false hb65; omega
 refine .region λe h=>?_
 simp only [seval,EMK,zero_23,pl_23,fld_27_0,sz_24,und_24,hz66,sz_23,ag_23,eStr,hb61,hb62,hb63,hb64,hb65]
 cases h
 simp only [seval,FMK,eStr,hb61,hb62,hb63,hb64,hb65]
 intro v2
 intro e h
 cases h
 simp only [seval,FMK,eStr,Tryz.results28,ag_27,sz_27]
 refine .seqK (Mir.joinO (λv3 : Bool=>([U,.d (.str a1),.ptr 0 0,U,.ptr 1 0,U,.d (.list (zC eStr y1)),.d (.int .i64 (y2.length : Int)),U,U,U,U,U,U,U,U,U,U,U,U,U,U,U,U,U,U,U,U,U,U,U,U,U,U,U,U,U,U,U,U,U,U,U,U,U,U,U,U,U,U,U,U,U,U,U,U,U,U,U,U,U,U,U,U,U,U,U,U,U,U,U,U,U,U,U,U,U,U,U,U,U,U,U,U,U,U,U,U,U,U,U,U,U,U,U,U,U,U,U,U,U,U,U,U,U,U,U,U,U,U,.d (.bool v3)] ++ us 45)) (λv3=>⟨[(w6 a0.Work [.d (.list (zC encR45Length a0.Lengths))]),[.d (.int .i64 0),.d (.int .i64 0),.d (.int .i64 0),.d (.int .i64 0),.d (.int .i64 0),.d (.int .i64 0),.d (.int .i64 0),.d (.int .i64 0),.d (.int .i64 0),.d (.int .i64 0),.d (.int .i64 0),.d (.int .i64 0),.d (.int .i64 0),.d (.int .i64 0),.d (.int .i64 0),.d (.int .i64 0),.d (.int .i64 0),.d (.int .i64 0),.nil]],[]⟩) (λ_=>rfl) ?_ ?_)
 refine .ite (λhb67=>?_) (λhb67=>?_)
 refine .bind λe7 q68=>?_
 replace q68 := gt_ok q68
 simp only [zF,zG,zH,dp0] at q68
 refine .region λe h=>?_
 simp only [seval,EMK,und_70,sz_9,q68,ag_9,eStr,hb67]
 cases h
 simp only [seval,FMK,eStr,hb67]
 refine .region λe h=>?_
 simp only [seval,EMK,und_70,eStr,hb67]
 cases h
 simp only [seval,FMK,eStr,hb67]
 intro v3
 refine Mir.toK (.cond rfl (λhb69=>?_) (λhb69=>?_))
 refine .seqK (.bind λe8 q70=>?_)
 replace q70 := gt_ok q70
 simp only [zF,zG,zH,dp0] at q70
 refine .bind λy8 hy71=>.region λe h=>?_
 simp only [seval,EMK,und_70,sz_9,q70,ag_9,eStr]
 refine SpecS.by (r06_FromMillimetres_spec hy71) (by simp only [seval,FMK,eStr]) ?_
 simp only [seval,EMK,eStr]
 refine mU e (.seqK (.sR λe h=>?_)) h
 simp only [seval,EMK,eStr]
 refine mU e (.cond rfl (λhb73=>?_) (λhb73=>?_)) h
 refine .sR λe h=>?_
 simp only [seval,EMK,ag_27,sz_27,eStr]
 refine mU e (.ret λe h=>?_) h
 cases h
 simp only [seval,FMK,eStr,Tryz.results28,ag_27,sz_27]
 refine .skip (Mir.toK (.guard λq74=>.bind λe9 q75=>?_))
 replace q75 := gt_ok q75
 simp only [zF,zG,zH,dp0] at q75
 refine .bind λy9 hy76=>.guard λq77=>Mir.regionA 0 [] ([U,.d (.str a1),.ptr 0 0,U,.ptr 1 0,U,.d (.list (zC eStr y1)),.d (.int .i64 (y2.length : Int)),U,U,U,U,U,U,U,.d (.int .i64 y8.1),.d (.int .i64 y8.2),U,U,U,U,U,U,U,U,U,U,U,U,U,U,U,U,U,U,U,U,U,U,U,U,U,U,U,U,U,U,U,U,U,U,U,U,U,U,U,U,U,U,U,U,U,U,U,U,U,U,U,U,U,U,U,U,U,U,U,U,U,U,U,U,U,U,U,U,U,U,U,U,U,U,U,U,U,U,U,U,U,U,U,U,U,U,U,U,U,U,U,U,U,.d (.bool v3),.tuple [.d (.int .i64 y8.1),.d (.int .i64 y8.2)],.d (.list (zC eStr y1)),.iptr [.str e8] 0,.d (.str e8),.tuple [.d (.int .i64 y8.1),.d (.int .i64 y8.2)],.d (.int .i64 y8.1),.d (.int .i64 y8.2),.d (.int .i64 y8.2),.d (.bool (y8.2 != 0)),U,.own 0 (zC encR45Length []),.ptr 0 18,.d (.list (zC encR45Length a0.Lengths)),.own 0 (zC encR45Length ([] ++ a0.Lengths)),.d (.list (zC eStr y1)),.iptr [.str e9] 0,.d (.str e9),.d (.int .i64 y9),.d (.int .i64 y8.1),.agg [.d (.int .i64 y9),.d (.int .i64 y8.1)],.full (zC encR45Length [R45Length.mk y9 y8.1]),.own 0 (zC encR45Length ([] ++ a0.Lengths ++ [R45Length.mk y9 y8.1])),.ptr 0 18] ++ us 22) ⟨[(w6 a0.Work [.own 0 (zC encR45Length ([] ++ a0.Lengths ++ [R45Length.mk y9 y8.1]))]),[.d (.int .i64 0),.d (.int .i64 0),.d (.int .i64 0),.d (.int .i64 0),.d (.int .i64 0),.d (.int .i64 0),.d (.int .i64 0),.d (.int .i64 0),.d (.int .i64 0),.d (.int .i64 0),.d (.int .i64 0),.d (.int .i64 0),.d (.int .i64 0),.d (.int .i64 0),.d (.int .i64 0),.d (.int .i64 0),.d (.int .i64 0),.d (.int .i64 0),.nil]],[(68,0 + a0.Lengths.length + 1)]⟩ (by kernel_rfl) (λe h=>?_) (λe h=>?_)
 simp only [seval,EMK,w_none,w_eq,SB,sepV_s,eStr]
 refine regA.fieldB (j := 1) (k := 0) (n := 18) (by kernel_rfl) rfl rfl (by simp only [seval,EMK,fld_27_1,sz_25,eStr]) ?_
 simp only [seval,EMK,w_none,w_eq,eStr]
 refine regA.moveB (j := 4) (by kernel_rfl) rfl rfl ?_
 simp only [seval,EMK,w_none,w_eq,eStr]
 refine regA.indexB (j := 5) (c := [.str e9]) (by kernel_rfl) rfl rfl rfl rfl und_70 sz_9 (by decide) (by simp only [seval,EMK,und_70,sz_9,q75,eStr]) rfl ?_
 simp only [seval,EMK,w_none,w_eq,eStr]
 refine regA.pureB (j := 8) (d := 129) (by kernel_rfl) rfl rfl (by kernel_rfl) rfl rfl (zK rfl) ?_
 simp only [seval,EMK,w_none,w_eq,eStr]
 refine ⟨rfl,?_⟩
 refine regA.three (j := 0) (k := 2) (l := 6) (by kernel_rfl) rfl rfl rfl ?_ ?_ ?_
 refine regW.alt 0 rfl ?_
 simp only [seval,EMK,w_none,w_eq,eStr]
 refine alt_emptyOwn app_25 (regW.of ?_)
 simp only [seval,EMK,w_none,w_eq,und_25,sz_68,zero_68,(oL 0),eStr]
 refine regA.two (j := 2) (k := 6) (by kernel_rfl) rfl rfl ?_ ?_
 refine regW.of ?_
 simp only [seval,EMK,w_none,w_eq,ag_25,sz_25,eStr]
 refine regA.two (j := 3) (k := 6) (by kernel_rfl) rfl rfl ?_ ?_
 refine regW.of ?_
 simp only [seval,EMK,w_none,w_eq,app_25,al_R45Length,q74,eStr]
 refine regA.one (j := 6) (by kernel_rfl) rfl (regW.of ?_)
 simp only [seval,EMK,w_none,w_eq,ag_9,sz_9,eStr]
 refine regA.one (j := 7) (by kernel_rfl) rfl (regW.of ?_)
 simp only [seval,EMK,w_none,w_eq,eStr]
 refine SpecS.by (r45_number_spec hy76) (by simp only [seval,FMK,eStr]) ?_
 simp only [seval,EMK,w_none,w_eq,eStr]
 refine regA.one (j := 9) (by kernel_rfl) rfl (regW.of ?_)
 simp only [seval,EMK,w_none,w_eq,zero_68,pl_68,eStr]
 refine regA.one (j := 10) (by kernel_rfl) rfl (regW.of ?_)
 simp only [seval,EMK,w_none,w_eq,und_25,sz_68,zero_68,(oL 2),eStr]
 refine regA.one (j := 11) (by kernel_rfl) rfl (regW.of ?_)
 simp only [seval,EMK,w_none,w_eq,app_25,al_R45Length,xLA,q77,eStr]
 refine regA.fieldB (j := 12) (k := 0) (n := 18) (by kernel_rfl) rfl rfl (by simp only [seval,EMK,fld_27_1,sz_25,eStr]) ?_
 simp only [seval,EMK,w_none,w_eq,eStr]
 refine regA.one (j := 13) (by kernel_rfl) rfl (regW.of ?_)
 simp only [seval,EMK,w_none,w_eq,sz_25,eStr]
 exact regA.nil (by kernel_rfl) ⟨by first | rfl | simp only [seval,FMK,eStr,xMA,xLA],by first | rfl | simp only [seval,FMK,eStr,xMA,xLA]⟩
 refine regW.of ?_
 simp only [seval,EMK,w_none,w_eq,ag_9,sz_9,eStr]
 refine regA.one (j := 3) (by kernel_rfl) rfl (regW.of ?_)
 simp only [seval,EMK,w_none,w_eq,app_25,al_R45Length,q74,eStr]
 refine regA.one (j := 7) (by kernel_rfl) rfl (regW.of ?_)
 simp only [seval,EMK,w_none,w_eq,eStr]
 refine SpecS.by (r45_number_spec hy76) (by simp only [seval,FMK,eStr]) ?_
 simp only [seval,EMK,w_none,w_eq,eStr]
 refine regA.one (j := 9) (by kernel_rfl) rfl (regW.of ?_)
 simp only [seval,EMK,w_none,w_eq,zero_68,pl_68,eStr]
 refine regA.one (j := 10) (by kernel_rfl) rfl (regW.of ?_)
 simp only [seval,EMK,w_none,w_eq,und_25,sz_68,zero_68,(oL 2),eStr]
 refine regA.one (j := 11) (by kernel_rfl) rfl (regW.of ?_)
 simp only [seval,EMK,w_none,w_eq,app_25,al_R45Length,xLA,q77,eStr]
 refine regA.fieldB (j := 12) (k := 0) (n := 18) (by kernel_rfl) rfl rfl (by simp only [seval,EMK,fld_27_1,sz_25,eStr]) ?_
 simp only [seval,EMK,w_none,w_eq,eStr]
 refine regA.one (j := 13) (by kernel_rfl) rfl (regW.of ?_)
 simp only [seval,EMK,w_none,w_eq,sz_25,eStr]
 exact regA.nil (by kernel_rfl) ⟨by first | rfl | simp only [seval,FMK,eStr,xMA,xLA],by first | rfl | simp only [seval,FMK,eStr,xMA,xLA]⟩
 refine regW.of ?_
 simp only [seval,EMK,w_none,w_eq,ag_9,sz_9,eStr]
 refine regA.one (j := 2) (by kernel_rfl) rfl (regW.of ?_)
 simp only [seval,EMK,w_none,w_eq,ag_25,sz_25,eStr]
 refine regA.one (j := 3) (by kernel_rfl) rfl (regW.of ?_)
 simp only [seval,EMK,w_none,w_eq,app_25,al_R45Length,q74,eStr]
 refine regA.one (j := 7) (by kernel_rfl) rfl (regW.of ?_)
 simp only [seval,EMK,w_none,w_eq,eStr]
 refine SpecS.by (r45_number_spec hy76) (by simp only [seval,FMK,eStr]) ?_
 simp only [seval,EMK,w_none,w_eq,eStr]
 refine regA.one (j := 9) (by kernel_rfl) rfl (regW.of ?_)
 simp only [seval,EMK,w_none,w_eq,zero_68,pl_68,eStr]
 refine regA.one (j := 10) (by kernel_rfl) rfl (regW.of ?_)
 simp only [seval,EMK,w_none,w_eq,und_25,sz_68,zero_68,(oL 2),eStr]
 refine regA.one (j := 11) (by kernel_rfl) rfl (regW.of ?_)
 simp only [seval,EMK,w_none,w_eq,app_25,al_R45Length,xLA,q77,eStr]
 refine regA.fieldB (j := 12) (k := 0) (n := 18) (by kernel_rfl) rfl rfl (by simp only [seval,EMK,fld_27_1,sz_25,eStr]) ?_
 simp only [seval,EMK,w_none,w_eq,eStr]
 refine regA.one (j := 13) (by kernel_rfl) rfl (regW.of ?_)
 simp only [seval,EMK,w_none,w_eq,sz_25,eStr]
 exact regA.nil (by kernel_rfl) ⟨by first | rfl | simp only [seval,FMK,eStr,xMA,xLA],by first | rfl | simp only [seval,FMK,eStr,xMA,xLA]⟩
 refine regW.of ?_
 simp only [seval,EMK,w_none,w_eq,ag_25,sz_25,eStr]
 refine regA.two (j := 0) (k := 6) (by kernel_rfl) rfl rfl ?_ ?_
 refine regW.alt 0 rfl ?_
 simp only [seval,EMK,w_none,w_eq,eStr]
 refine alt_emptyOwn app_25 (regW.of ?_)
 simp only [seval,EMK,w_none,w_eq,und_25,sz_68,zero_68,(oL 0),eStr]
 refine regA.two (j := 3) (k := 6) (by kernel_rfl) rfl rfl ?_ ?_
 refine regW.of ?_
 simp only [seval,EMK,w_none,w_eq,app_25,al_R45Length,q74,eStr]
 refine regA.one (j := 6) (by kernel_rfl) rfl (regW.of ?_)
 simp only [seval,EMK,w_none,w_eq,ag_9,sz_9,eStr]
 refine regA.one (j := 7) (by kernel_rfl) rfl (regW.of ?_)
 simp only [seval,EMK,w_none,w_eq,eStr]
 refine SpecS.by (r45_number_spec hy76) (by simp only [seval,FMK,eStr]) ?_
 simp only [seval,EMK,w_none,w_eq,eStr]
 refine regA.one (j := 9) (by kernel_rfl) rfl (regW.of ?_)
 simp only [seval,EMK,w_none,w_eq,zero_68,pl_68,eStr]
 refine regA.one (j := 10) (by kernel_rfl) rfl (regW.of ?_)
 simp only [seval,EMK,w_none,w_eq,und_25,sz_68,zero_68,(oL 2),eStr]
 refine regA.one (j := 11) (by kernel_rfl) rfl (regW.of ?_)
 simp only [seval,EMK,w_none,w_eq,app_25,al_R45Length,xLA,q77,eStr]
 refine regA.fieldB (j := 12) (k := 0) (n := 18) (by kernel_rfl) rfl rfl (by simp only [seval,EMK,fld_27_1,sz_25,eStr]) ?_
 simp only [seval,EMK,w_none,w_eq,eStr]
 refine regA.one (j := 13) (by kernel_rfl) rfl (regW.of ?_)
 simp only [seval,EMK,w_none,w_eq,sz_25,eStr]
 exact regA.nil (by kernel_rfl) ⟨by first | rfl | simp only [seval,FMK,eStr,xMA,xLA],by first | rfl | simp only [seval,FMK,eStr,xMA,xLA]⟩
 refine regW.of ?_
 simp only [seval,EMK,w_none,w_eq,ag_9,sz_9,eStr]
 refine regA.one (j := 3) (by kernel_rfl) rfl (regW.of ?_)
 simp only [seval,EMK,w_none,w_eq,app_25,al_R45Length,q74,eStr]
 refine regA.one (j := 7) (by kernel_rfl) rfl (regW.of ?_)
 simp only [seval,EMK,w_none,w_eq,eStr]
 refine SpecS.by (r45_number_spec hy76) (by simp only [seval,FMK,eStr]) ?_
 simp only [seval,EMK,w_none,w_eq,eStr]
 refine regA.one (j := 9) (by kernel_rfl) rfl (regW.of ?_)
 simp only [seval,EMK,w_none,w_eq,zero_68,pl_68,eStr]
 refine regA.one (j := 10) (by kernel_rfl) rfl (regW.of ?_)
 simp only [seval,EMK,w_none,w_eq,und_25,sz_68,zero_68,(oL 2),eStr]
 refine regA.one (j := 11) (by kernel_rfl) rfl (regW.of ?_)
 simp only [seval,EMK,w_none,w_eq,app_25,al_R45Length,xLA,q77,eStr]
 refine regA.fieldB (j := 12) (k := 0) (n := 18) (by kernel_rfl) rfl rfl (by simp only [seval,EMK,fld_27_1,sz_25,eStr]) ?_
 simp only [seval,EMK,w_none,w_eq,eStr]
 refine regA.one (j := 13) (by kernel_rfl) rfl (regW.of ?_)
 simp only [seval,EMK,w_none,w_eq,sz_25,eStr]
 exact regA.nil (by kernel_rfl) ⟨by first | rfl | simp only [seval,FMK,eStr,xMA,xLA],by first | rfl | simp only [seval,FMK,eStr,xMA,xLA]⟩
 refine regW.of ?_
 simp only [seval,EMK,w_none,w_eq,ag_9,sz_9,eStr]
 refine regA.one (j := 0) (by kernel_rfl) rfl (regW.alt 0 rfl ?_)
 simp only [seval,EMK,w_none,w_eq,eStr]
 refine alt_emptyOwn app_25 (regW.of ?_)
 simp only [seval,EMK,w_none,w_eq,und_25,sz_68,zero_68,(oL 0),eStr]
 refine regA.one (j := 3) (by kernel_rfl) rfl (regW.of ?_)
 simp only [seval,EMK,w_none,w_eq,app_25,al_R45Length,q74,eStr]
 refine regA.one (j := 7) (by kernel_rfl) rfl (regW.of ?_)
 simp only [seval,EMK,w_none,w_eq,eStr]
 refine SpecS.by (r45_number_spec hy76) (by simp only [seval,FMK,eStr]) ?_
 simp only [seval,EMK,w_none,w_eq,eStr]
 refine regA.one (j := 9) (by kernel_rfl) rfl (regW.of ?_)
 simp only [seval,EMK,w_none,w_eq,zero_68,pl_68,eStr]
 refine regA.one (j := 10) (by kernel_rfl) rfl (regW.of ?_)
 simp only [seval,EMK,w_none,w_eq,und_25,sz_68,zero_68,(oL 2),eStr]
 refine regA.one (j := 11) (by kernel_rfl) rfl (regW.of ?_)
 simp only [seval,EMK,w_none,w_eq,app_25,al_R45Length,xLA,q77,eStr]
 refine regA.fieldB (j := 12) (k := 0) (n := 18) (by kernel_rfl) rfl rfl (by simp only [seval,EMK,fld_27_1,sz_25,eStr]) ?_
 simp only [seval,EMK,w_none,w_eq,eStr]
 refine regA.one (j := 13) (by kernel_rfl) rfl (regW.of ?_)
 simp only [seval,EMK,w_none,w_eq,sz_25,eStr]
 exact regA.nil (by kernel_rfl) ⟨by first | rfl | simp only [seval,FMK,eStr,xMA,xLA],by first | rfl | simp only [seval,FMK,eStr,xMA,xLA]⟩
 refine regW.of ?_
 simp only [seval,EMK,w_none,w_eq,ag_9,sz_9,eStr]
 refine regA.two (j := 0) (k := 2) (by kernel_rfl) rfl rfl ?_ ?_
 refine regW.alt 0 rfl ?_
 simp only [seval,EMK,w_none,w_eq,eStr]
 refine alt_emptyOwn app_25 (regW.of ?_)
 simp only [seval,EMK,w_none,w_eq,und_25,sz_68,zero_68,(oL 0),eStr]
 refine regA.one (j := 2) (by kernel_rfl) rfl (regW.of ?_)
 simp only [seval,EMK,w_none,w_eq,ag_25,sz_25,eStr]
 refine regA.one (j := 3) (by kernel_rfl) rfl (regW.of ?_)
 simp only [seval,EMK,w_none,w_eq,app_25,al_R45Length,q74,eStr]
 refine regA.one (j := 7) (by kernel_rfl) rfl (regW.of ?_)
 simp only [seval,EMK,w_none,w_eq,eStr]
 refine SpecS.by (r45_number_spec hy76) (by simp only [seval,FMK,eStr]) ?_
 simp only [seval,EMK,w_none,w_eq,eStr]
 refine regA.one (j := 9) (by kernel_rfl) rfl (regW.of ?_)
 simp only [seval,EMK,w_none,w_eq,zero_68,pl_68,eStr]
 refine regA.one (j := 10) (by kernel_rfl) rfl (regW.of ?_)
 simp only [seval,EMK,w_none,w_eq,und_25,sz_68,zero_68,(oL 2),eStr]
 refine regA.one (j := 11) (by kernel_rfl) rfl (regW.of ?_)
 simp only [seval,EMK,w_none,w_eq,app_25,al_R45Length,xLA,q77,eStr]
 refine regA.fieldB (j := 12) (k := 0) (n := 18) (by kernel_rfl) rfl rfl (by simp only [seval,EMK,fld_27_1,sz_25,eStr]) ?_
 simp only [seval,EMK,w_none,w_eq,eStr]
 refine regA.one (j := 13) (by kernel_rfl) rfl (regW.of ?_)
 simp only [seval,EMK,w_none,w_eq,sz_25,eStr]
 exact regA.nil (by kernel_rfl) ⟨by first | rfl | simp only [seval,FMK,eStr,xMA,xLA],by first | rfl | simp only [seval,FMK,eStr,xMA,xLA]⟩
 refine regW.of ?_
 simp only [seval,EMK,w_none,w_eq,ag_25,sz_25,eStr]
 refine regA.one (j := 0) (by kernel_rfl) rfl (regW.alt 0 rfl ?_)
 simp only [seval,EMK,w_none,w_eq,eStr]
 refine alt_emptyOwn app_25 (regW.of ?_)
 simp only [seval,EMK,w_none,w_eq,und_25,sz_68,zero_68,(oL 0),eStr]
 refine regA.one (j := 3) (by kernel_rfl) rfl (regW.of ?_)
 simp only [seval,EMK,w_none,w_eq,app_25,al_R45Length,q74,eStr]
 refine regA.one (j := 7) (by kernel_rfl) rfl (regW.of ?_)
 simp only [seval,EMK,w_none,w_eq,eStr]
 refine SpecS.by (r45_number_spec hy76) (by simp only [seval,FMK,eStr]) ?_
 simp only [seval,EMK,w_none,w_eq,eStr]
 refine regA.one (j := 9) (by kernel_rfl) rfl (regW.of ?_)
 simp only [seval,EMK,w_none,w_eq,zero_68,pl_68,eStr]
 refine regA.one (j := 10) (by kernel_rfl) rfl (regW.of ?_)
 simp only [seval,EMK,w_none,w_eq,und_25,sz_68,zero_68,(oL 2),eStr]
 refine regA.one (j := 11) (by kernel_rfl) rfl (regW.of ?_)
 simp only [seval,EMK,w_none,w_eq,app_25,al_R45Length,xLA,q77,eStr]
 refine regA.fieldB (j := 12) (k := 0) (n := 18) (by kernel_rfl) rfl rfl (by simp only [seval,EMK,fld_27_1,sz_25,eStr]) ?_
 simp only [seval,EMK,w_none,w_eq,eStr]
 refine regA.one (j := 13) (by kernel_rfl) rfl (regW.of ?_)
 simp only [seval,EMK,w_none,w_eq,sz_25,eStr]
 exact regA.nil (by kernel_rfl) ⟨by first | rfl | simp only [seval,FMK,eStr,xMA,xLA],by first | rfl | simp only [seval,FMK,eStr,xMA,xLA]⟩
 cases h
 simp only [seval,FMK,eStr,Tryz.results28,ag_27,sz_27]
 refine .sR λe h=>?_
 simp only [seval,EMK,ag_27,sz_27,eStr]
 refine mU e (.ret λe h=>?_) h
 cases h
 simp only [seval,FMK,eStr,Tryz.results28,ag_27,sz_27]
 intro v4
 refine Mir.toK (.seqK (.bind λy10 hy78=>.region λe h=>?_))
 simp only [seval,EMK,ag_27,sz_27,eStr]
 refine SpecS.by (r45_Lines_spec hy78) (by simp only [seval,FMK,eStr]) ?_
 simp only [seval,EMK,eStr]
 refine mU e (.seqK (Mir.joinO (λv5 : Bool=>([U,U,U,U,.ptr 1 0,.d (.bool v5)] ++ us 150)) (λv5=>⟨[(w6 v4.Work [.d (.list (zC encR45Length v4.Lengths))]),(w6 v4.Work [.d (.list (zC encR45Length v4.Lengths))])],[]⟩) (λ_=>rfl) ?_ ?_)) h
 refine .bind λy11 hy79=>.ite (λhb80=>?_) (λhb80=>?_)
 refine .ite (λhb81=>?_) (λhb81=>?_)
 refine .bind λe10 q82=>?_
 replace q82 := gt_ok q82
 refine .regionD [(151,4)] (by kernel_rfl) λe h=>?_
 simp only [seval,EMK,SB,sepV_s,ag_27,sz_27,eStr,hb80,hb81]
 refine Spec.by (r45_Valid_spec hy79) (by simp only [seval,FMK,eStr,hb80,hb81]) ?_
 simp only [seval,EMK,SB,sepV_s,und_70,sz_9,q82,ag_9,sz_27,eStr,hb80,hb81]
 cases h
 simp only [seval,FMK,eStr,hb80,hb81]
 refine .regionD [(151,4)] (by kernel_rfl) λe h=>?_
 simp only [seval,EMK,SB,sepV_s,ag_27,sz_27,eStr,hb80,hb81]
 refine Spec.by (r45_Valid_spec hy79) (by simp only [seval,FMK,eStr,hb80,hb81]) ?_
 simp only [seval,EMK,SB,sepV_s,und_70,sz_27,eStr,hb80,hb81]
 cases h
 simp only [seval,FMK,eStr,hb80,hb81]
 refine .regionD [(151,4)] (by kernel_rfl) λe h=>?_
 simp only [seval,EMK,SB,sepV_s,ag_27,sz_27,eStr,hb80]
 refine Spec.by (r45_Valid_spec hy79) (by simp only [seval,FMK,eStr,hb80]) ?_
 simp only [seval,EMK,SB,sepV_s,sz_27,eStr,hb80]
 cases h
 simp only [seval,FMK,eStr,hb80]
 intro v5
 refine Mir.toK (.ret λe h=>?_)
 cases h
 simp only [seval,FMK,eStr,Tryz.results28,ag_27,sz_27]
def r45_Parse (a0 : (List UInt8)) : Option (R45Table × Int × Int) := if (decide ((a0.length : Int) > 65536)) = true then some (R45Table.mk (Arr6ApiPos.mk (ApiPos.mk 0 0 0) (ApiPos.mk 0 0 0) (ApiPos.mk 0 0 0) (ApiPos.mk 0 0 0) (ApiPos.mk 0 0 0) (ApiPos.mk 0 0 0)) [],0,3) else bindX (guardO (okIdx a0) ( rangeX (λ(i1 : Nat) (c1 : UInt8) (v1 : Int × Int × R45Table)=>bindX (if ((c1.toNat : Int) != 10) = true then some (.go (v1.1,v1.2.1,v1.2.2)) else bindO (cutL a0 v1.1 (i1 : Int)) λ(s1 : (List UInt8))=>bindO (r45_read v1.2.2 s1) λ(y1 : R45Table × Bool)=>if (!y1.2) = true then some (.ret (.ret (.ret (R45Table.mk (Arr6ApiPos.mk (ApiPos.mk 0 0 0) (ApiPos.mk 0 0 0) (ApiPos.mk 0 0 0) (ApiPos.mk 0 0 0) (ApiPos.mk 0 0 0) (ApiPos.mk 0 0 0)) [],v1.2.1,2)))) else some (.go (zM.wrap ((i1 : Int) + 1),zM.wrap (v1.2.1 + 1),y1.1))) λ(v2 : Int × Int × R45Table)=>some (.go (v2.1,v2.2.1,v2.2.2))) (λ(v1 : Int × Int × R45Table)=>some (.go (v1.1,v1.2.1,v1.2.2))) a0 0 (0,1,R45Table.mk (Arr6ApiPos.mk (ApiPos.mk 0 0 0) (ApiPos.mk 0 0 0) (ApiPos.mk 0 0 0) (ApiPos.mk 0 0 0) (ApiPos.mk 0 0 0) (ApiPos.mk 0 0 0)) []))) λ(v3 : Int × Int × R45Table)=>if (decide (v3.1 < (a0.length : Int))) = true then some (R45Table.mk (Arr6ApiPos.mk (ApiPos.mk 0 0 0) (ApiPos.mk 0 0 0) (ApiPos.mk 0 0 0) (ApiPos.mk 0 0 0) (ApiPos.mk 0 0 0) (ApiPos.mk 0 0 0)) [],v3.2.1,2) else some (v3.2.2,0,0)
theorem r45_Parse_spec {a0 : (List UInt8)} {y : R45Table × Int × Int} (h : r45_Parse a0 = some y) : Spec gP 12 [.d (.str a0)] (.tuple [.agg (w6 y.1.Work [.d (.list (zC encR45Length y.1.Lengths))]),.d (.int .i64 y.2.1),.d (.int .i64 y.2.2)]) := by
 refine spec_mir Tryz.func12 rfl (by kernel_rfl) (by kernel_rfl) (λy : R45Table × Int × Int=>.tuple [.agg (w6 y.1.Work [.d (.list (zC encR45Length y.1.Lengths))]),.d (.int .i64 y.2.1),.d (.int .i64 y.2.2)]) ?_ h
 unfold r45_Parse
 simp only [zI,zJ,nS,nA,Tryz.ntmps12,SV]
 refine .sR λe h=>?_
 simp only [seval,EMK,zero_27]
 refine mU e (.seqK (.sR λe h=>?_)) h
 simp only [seval,EMK,und_9]
 refine mU e (.cond rfl (λhb2=>?_) (λhb2=>?_)) h
 refine .sR λe h=>?_
 simp only [seval,EMK,zero_27,pl_27,sz_27]
 refine mU e (.ret λe h=>?_) h
 cases h
 simp only [seval,FMK,Tryz.results12,ag_27,sz_27]
 refine .skip (Mir.toK (.sR λe h=>?_))
 simp only [seval,EMK,zero_27]
 refine mU e (.sR λe h=>?_) h
 simp only [seval,EMK]
 refine mU e (.seqK (.sR λe h=>?_)) h
 simp only [seval,EMK]
 refine mU e (Mir.join (λv3 : Int × Int × R45Table=>([.d (.str a0),U,.ptr 0 0,U,U,.ptr 1 0,.d (.int .i64 v3.1),.d (.int .i64 v3.2.1)] ++ us 42)) (λv3=>⟨[[.d (.int .i64 0),.d (.int .i64 0),.d (.int .i64 0),.d (.int .i64 0),.d (.int .i64 0),.d (.int .i64 0),.d (.int .i64 0),.d (.int .i64 0),.d (.int .i64 0),.d (.int .i64 0),.d (.int .i64 0),.d (.int .i64 0),.d (.int .i64 0),.d (.int .i64 0),.d (.int .i64 0),.d (.int .i64 0),.d (.int .i64 0),.d (.int .i64 0),.nil],(w6 v3.2.2.Work [.d (.list (zC encR45Length v3.2.2.Lengths))])],[]⟩) (λ_=>rfl) ?_ ?_) h
 refine .block (.guard λq1=>Mir.range (λ(i1 : Nat) (v1 : Int × Int × R45Table)=>([.d (.str a0),U,.ptr 0 0,U,U,.ptr 1 0,.d (.int .i64 v1.1),.d (.int .i64 v1.2.1),.d (.int .i64 (i1 : Int))] ++ us 41)) (λi1 v1=>⟨[[.d (.int .i64 0),.d (.int .i64 0),.d (.int .i64 0),.d (.int .i64 0),.d (.int .i64 0),.d (.int .i64 0),.d (.int .i64 0),.d (.int .i64 0),.d (.int .i64 0),.d (.int .i64 0),.d (.int .i64 0),.d (.int .i64 0),.d (.int .i64 0),.d (.int .i64 0),.d (.int .i64 0),.d (.int .i64 0),.d (.int .i64 0),.d (.int .i64 0),.nil],(w6 v1.2.2.Work [.d (.list (zC encR45Length v1.2.2.Lengths))])],[]⟩) q1 (λ_ _=>rfl) (by simp only [seval,FMK,zNI]) (by simp only [seval,FMK,zNI]) ?_ ?_)
 intro i1 c1 v1 q2
 refine .seqK (.sR λe h=>?_)
 simp only [seval,EMK,und_9,q2]
 refine mU e (.condT rfl (.skip (Mir.toK (.seqK (Mir.join (λv2 : Int × Int × R45Table=>([.d (.str a0),U,.ptr 0 0,U,U,.ptr 1 0,.d (.int .i64 v2.1),.d (.int .i64 v2.2.1),.d (.int .i64 (i1 : Int))] ++ us 41)) (λv2=>⟨[[.d (.int .i64 0),.d (.int .i64 0),.d (.int .i64 0),.d (.int .i64 0),.d (.int .i64 0),.d (.int .i64 0),.d (.int .i64 0),.d (.int .i64 0),.d (.int .i64 0),.d (.int .i64 0),.d (.int .i64 0),.d (.int .i64 0),.d (.int .i64 0),.d (.int .i64 0),.d (.int .i64 0),.d (.int .i64 0),.d (.int .i64 0),.d (.int .i64 0),.nil],(w6 v2.2.2.Work [.d (.list (zC encR45Length v2.2.2.Lengths))])],[]⟩) (λ_=>rfl) ?_ ?_))))) h
 refine .block (.seqK (.sR λe h=>?_))
 simp only [seval,EMK,und_9,zD,q2]
 refine mU e (.cond rfl (λh1=>?_) (λh1=>?_)) h
 refine .exit λe h=>?_
 cases h
 simp only [seval,FMK,Tryz.results12,ag_27,sz_27]
 refine .skip (Mir.toK (.seqK (.bind λs1 q3=>?_)))
 replace q3 := cutL_ok q3
 simp only [zD] at q3
 refine .bind λy1 h2=>.regionD [] (by kernel_rfl) λe h=>?_
 simp only [seval,EMK,SB,ag_27,sz_27,und_9,q3,zL,and_true,true_and,dm,tm,zD]
 refine Spec.by (r45_read_spec h2) (by simp only [seval,FMK]) ?_
 simp only [seval,EMK,SB,zero_27,sz_27]
 refine mU e (.seqK (.sR λe h=>?_)) h
 simp only [seval,EMK]
 refine mU e (.cond rfl (λh3=>?_) (λh3=>?_)) h
 refine .sR λe h=>?_
 simp only [seval,EMK,zero_27,pl_27,sz_27]
 refine mU e (.ret λe h=>?_) h
 cases h
 simp only [seval,FMK,Tryz.results12,ag_27,sz_27]
 refine .skip (Mir.toK (.region λe h=>?_))
 simp only [seval,EMK,ag_27,sz_27]
 cases h
 simp only [seval,FMK,Tryz.results12,ag_27,sz_27]
 intro v2
 refine Mir.toK (.region λe h=>?_)
 simp only [seval,EMK]
 cases h
 simp only [seval,FMK,Tryz.results12,ag_27,sz_27,q2]
 intro v1 q4
 refine .seqK (.sR λe h=>?_)
 simp only [seval,EMK,und_9,q4]
 refine mU e (.condF rfl (.exit λe h=>?_)) h
 cases h
 simp only [seval,FMK,Tryz.results12,ag_27,sz_27]
 intro v3
 refine Mir.toK (.seqK (.sR λe h=>?_))
 simp only [seval,EMK,und_9]
 refine mU e (.cond rfl (λh4=>?_) (λh4=>?_)) h
 refine .sR λe h=>?_
 simp only [seval,EMK,zero_27,pl_27,sz_27]
 refine mU e (.ret λe h=>?_) h
 cases h
 simp only [seval,FMK,Tryz.results12,ag_27,sz_27]
 refine .skip (Mir.toK (.sR λe h=>?_))
 simp only [seval,EMK,ag_27,sz_27]
 refine mU e (.ret λe h=>?_) h
 cases h
 simp only [seval,FMK,Tryz.results12,ag_27,sz_27]
end Go.Proofs.YtjamgiobipdfhaaGreatDoor
