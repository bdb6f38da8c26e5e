import Derived.Test.YtpdjgamdnjfmkaaGreatDoorGx
import Derived.Test.YtpdjgamdnjfmkaaGreatDoorTy
import Derived.Test.YtpdjgamdnjfmkaaGreatDoorBu
import Derived.Test.YtpdjgamdnjfmkaaGreatDoorLbe
import Derived.Test.YtpdjgamdnjfmkaaGreatDoorMI
import Derived.Test.YtpdjgamdnjfmkaaGreatDoorMQ
import Derived.Test.YtpdjgamdnjfmkaaGreatDoorMB
import Derived.Test.YtpdjgamdnjfmkaaGreatDoorMT
import Derived.Test.YtpdjgamdnjfmkaaGreatDoorMX
namespace Go.Proofs.YtpdjgamdnjfmkaaGreatDoor
open Go.RowKit
open Nat renaming reduceAdd → nA, reduceSub → nS, reduceMul → nM, reduceEqDiff → nE, reduceLeDiff → nL, reduceLT → nT, reduceBEq → nB
open Int renaming reduceLT → iT, reduceToNat → iN, reduceEq → iE
set_option linter.unusedVariables false
set_option linter.unusedSimpArgs false
set_option maxRecDepth 100000
set_option maxHeartbeats 8000000
structure LexerToken where
 Kind : Int
 Pos : Int
 Text : (List UInt8)
 deriving DecidableEq
def encLexerToken (x : LexerToken) : List D := [.int .i64 x.Kind, .int .i64 x.Pos, .str x.Text]
theorem al_LexerToken {l : List LexerToken} : (List.map encLexerToken l).all (fun x => x.length == 3) = true := by simp [List.all_eq_true, encLexerToken]
structure R21Token where
 Kind : Int
 Pos : Int
 Text : (List UInt8)
 deriving DecidableEq
def encR21Token (x : R21Token) : List D := [.int .i64 x.Kind, .int .i64 x.Pos, .str x.Text]
structure LexerLine where
 Number : Int
 Tokens : (List LexerToken)
 deriving DecidableEq
def encLexerLine (x : LexerLine) : List D := [.int .i64 x.Number, .list (List.map encLexerToken x.Tokens)]
structure R21Line where
 Number : Int
 Tokens : (List R21Token)
 deriving DecidableEq
def encR21Line (x : R21Line) : List D := [.int .i64 x.Number, .list (List.map encR21Token x.Tokens)]
theorem ENMK : type_of% (And.intro @encLexerToken.eq_1 <| And.intro @encR21Token.eq_1 <| And.intro @encLexerLine.eq_1 <| @encR21Line.eq_1) := And.intro @encLexerToken.eq_1 <| And.intro @encR21Token.eq_1 <| And.intro @encLexerLine.eq_1 <| @encR21Line.eq_1
theorem EMK : type_of% (And.intro @SE <| @ENMK) := And.intro @SE <| @ENMK
theorem FMK : type_of% (And.intro @SF <| @ENMK) := And.intro @SF <| @ENMK
def lx_letter (a0 : Int) : Option Bool := some (if (decide (97 ≤ a0)) = true then (decide (a0 ≤ 122)) || ((decide (65 ≤ a0)) && (decide (a0 ≤ 90))) else (decide (65 ≤ a0)) && (decide (a0 ≤ 90)))
theorem lx_letter_spec {a0 : Int} {y : Bool} (h : lx_letter a0 = some y) : Spec gP 21 [.d (.int .u8 a0)] (.d (.bool y)) := by
 refine spec_mir Tryz.func21 rfl (by kernel_rfl) (by kernel_rfl) (fun y : Bool => .d (.bool y)) ?_ h
 unfold lx_letter
 simp only [List.replicate, List.length, nS, nA, Tryz.ntmps21, SV]
 refine .sR fun e h=>?_
 simp only [seval,EMK]
 refine mU e (.seqK (.joinV ([U,U,.d (.bool (if (decide (97 ≤ a0)) = true then (decide (a0 ≤ 122)) || ((decide (65 ≤ a0)) && (decide (a0 ≤ 90))) else (decide (65 ≤ a0)) && (decide (a0 ≤ 90))))] ++ us 14) ⟨[],[]⟩ rfl ?_ ?_)) h
 refine SWs.region ?_
 rcases Bool.eq_false_or_eq_true (decide (97 ≤ a0)) with hb1 | hb1
 rcases Bool.eq_false_or_eq_true (decide (a0 ≤ 122)) with hb2 | hb2
 simp only [seval,EMK,SL,PB,hb1,hb2]
 rcases Bool.eq_false_or_eq_true (decide (65 ≤ a0)) with hb3 | hb3
 simp only [seval,EMK,SL,PB,hb1,hb2,hb3]
 simp only [seval,EMK,SL,PB,hb1,hb2,hb3]
 rcases Bool.eq_false_or_eq_true (decide (65 ≤ a0)) with hb4 | hb4
 simp only [seval,EMK,SL,PB,hb1,hb4]
 simp only [seval,EMK,SL,PB,hb1,hb4]
 refine Mir.toK (.ret fun e h=>?_)
 cases h
 simp only [seval,FMK,Tryz.results21]
def lx_digit (a0 : Int) : Option Bool := some ((decide (48 ≤ a0)) && (decide (a0 ≤ 57)))
theorem lx_digit_spec {a0 : Int} {y : Bool} (h : lx_digit a0 = some y) : Spec gP 24 [.d (.int .u8 a0)] (.d (.bool y)) := by
 refine spec_mir Tryz.func24 rfl (by kernel_rfl) (by kernel_rfl) (fun y : Bool => .d (.bool y)) ?_ h
 unfold lx_digit
 simp only [List.replicate, List.length, nS, nA, Tryz.ntmps24, SV]
 refine .sR fun e h=>?_
 simp only [seval,EMK]
 refine mU e (.seqK (.joinV ([U,U,.d (.bool ((decide (48 ≤ a0)) && (decide (a0 ≤ 57))))] ++ us 6) ⟨[],[]⟩ rfl ?_ ?_)) h
 refine SWs.region ?_
 rcases Bool.eq_false_or_eq_true (decide (48 ≤ a0)) with hb1 | hb1
 simp only [seval,EMK,SL,PB,hb1]
 simp only [seval,EMK,SL,PB,hb1]
 refine Mir.toK (.ret fun e h=>?_)
 cases h
 simp only [seval,FMK,Tryz.results24]
def lx_inName (a0 : Int) : Option Bool := bindO (bindO (lx_letter a0) fun (y1 : Bool) => if y1 = true then some true else bindO (lx_digit a0) fun (y2 : Bool) => if y2 = true then some true else if (a0 == 95) = true then some true else some (a0 == 45)) fun (v1 : Bool) => some v1
theorem lx_inName_spec {a0 : Int} {y : Bool} (h : lx_inName a0 = some y) : Spec gP 23 [.d (.int .u8 a0)] (.d (.bool y)) := by
 refine spec_mir Tryz.func23 rfl (by kernel_rfl) (by kernel_rfl) (fun y : Bool => .d (.bool y)) ?_ h
 unfold lx_inName
 simp only [List.replicate, List.length, nS, nA, Tryz.ntmps23, SV]
 refine .sR fun e h=>?_
 simp only [seval,EMK]
 refine mU e (.seqK (Mir.joinO (fun v1 : Bool=>([U,U,.d (.bool v1)] ++ us 14)) (fun v1=>⟨[],[]⟩) (fun _=>rfl) ?_ ?_)) h
 refine .bind fun y1 hy1=>.ite (fun hb2=>?_) (fun hb2=>?_)
 refine .region fun e h=>?_
 simp only [seval,EMK,hb2]
 refine SpecS.by (lx_letter_spec hy1) (by simp only [seval,FMK,hb2]) ?_
 simp only [seval,EMK,hb2]
 cases h
 simp only [seval,FMK,hb2]
 refine .bind fun y2 hy3=>.ite (fun hb4=>?_) (fun hb4=>?_)
 refine .region fun e h=>?_
 simp only [seval,EMK,hb2,hb4]
 refine SpecS.by (lx_letter_spec hy1) (by simp only [seval,FMK,hb2,hb4]) ?_
 simp only [seval,EMK,hb2,hb4]
 refine SpecS.by (lx_digit_spec hy3) (by simp only [seval,FMK,hb2,hb4]) ?_
 simp only [seval,EMK,hb2,hb4]
 cases h
 simp only [seval,FMK,hb2,hb4]
 refine .ite (fun hb5=>?_) (fun hb5=>?_)
 refine .region fun e h=>?_
 simp only [seval,EMK,hb2,hb4,hb5]
 refine SpecS.by (lx_letter_spec hy1) (by simp only [seval,FMK,hb2,hb4,hb5]) ?_
 simp only [seval,EMK,hb2,hb4,hb5]
 refine SpecS.by (lx_digit_spec hy3) (by simp only [seval,FMK,hb2,hb4,hb5]) ?_
 simp only [seval,EMK,hb2,hb4,hb5]
 cases h
 simp only [seval,FMK,hb2,hb4,hb5]
 refine .region fun e h=>?_
 simp only [seval,EMK,hb2,hb4,hb5]
 refine SpecS.by (lx_letter_spec hy1) (by simp only [seval,FMK,hb2,hb4,hb5]) ?_
 simp only [seval,EMK,hb2,hb4,hb5]
 refine SpecS.by (lx_digit_spec hy3) (by simp only [seval,FMK,hb2,hb4,hb5]) ?_
 simp only [seval,EMK,hb2,hb4,hb5]
 cases h
 simp only [seval,FMK,hb2,hb4,hb5]
 intro v1
 refine Mir.toK (.ret fun e h=>?_)
 cases h
 simp only [seval,FMK,Tryz.results23]
def lx_peek (a0 : (List UInt8)) (a1 : Int) : Option Int := if (decide (a1 < (a0.length : Int))) = true then bindO (gt a0 a1) fun (c1 : UInt8) => some (c1.toNat : Int) else some 0
theorem lx_peek_spec {a0 : (List UInt8)} {a1 : Int} {y : Int} (h : lx_peek a0 a1 = some y) : Spec gP 25 [.d (.str a0), .d (.int .i64 a1)] (.d (.int .u8 y)) := by
 refine spec_mir Tryz.func25 rfl (by kernel_rfl) (by kernel_rfl) (fun y : Int => .d (.int .u8 y)) ?_ h
 unfold lx_peek
 simp only [List.replicate, List.length, nS, nA, Tryz.ntmps25, SV]
 refine .sR fun e h=>?_
 simp only [seval,EMK]
 refine mU e (.seqK (.sR fun e h=>?_)) h
 simp only [seval,EMK,und_9]
 refine mU e (.cond rfl (fun hb3=>?_) (fun hb3=>?_)) h
 refine .seqK (.bind fun c1 q4=>?_)
 replace q4 := gt_ok q4
 refine .region fun e h=>?_
 simp only [seval,EMK,und_9,q4]
 refine mU e (.ret fun e h=>?_) h
 cases h
 simp only [seval,FMK,Tryz.results25]
 refine .skip (Mir.toK (.sR fun e h=>?_))
 simp only [seval,EMK]
 refine mU e (.ret fun e h=>?_) h
 cases h
 simp only [seval,FMK,Tryz.results25]
def lx_number (a0 : (List UInt8)) (a1 : Int) : Option Int := bindO (gt a0 a1) fun (c1 : UInt8) => bindO (if ((c1.toNat : Int) == 45) = true then some (IntKind.i64.wrap (a1 + 1)) else some a1) fun (v1 : Int) => bindO (bindO (loopX (fun (v2 : Int) => bindO (if (decide (v2 < (a0.length : Int))) = true then bindO (gt a0 v2) fun (c2 : UInt8) => bindO (lx_digit (c2.toNat : Int)) fun (y1 : Bool) => some y1 else some false) fun (v3 : Bool) => if v3 = true then some (.go (IntKind.i64.wrap (v2 + 1))) else some (.ret v2)) fuel v1) fun (v4 : Int) => some v4) fun (v5 : Int) => bindO (bindO (lx_peek a0 v5) fun (y2 : Int) => if (y2 == 46) = true then bindO (lx_peek a0 (IntKind.i64.wrap (v5 + 1))) fun (y3 : Int) => bindO (lx_digit y3) fun (y4 : Bool) => some y4 else some false) fun (v6 : Bool) => bindO (if v6 = true then bindO (bindO (loopX (fun (v7 : Int) => bindO (if (decide (v7 < (a0.length : Int))) = true then bindO (gt a0 v7) fun (c3 : UInt8) => bindO (lx_digit (c3.toNat : Int)) fun (y5 : Bool) => some y5 else some false) fun (v8 : Bool) => if v8 = true then some (.go (IntKind.i64.wrap (v7 + 1))) else some (.ret v7)) fuel (IntKind.i64.wrap (v5 + 1))) fun (v9 : Int) => some v9) fun (v10 : Int) => some v10 else some v5) fun (v11 : Int) => some v11
theorem lx_number_spec {a0 : (List UInt8)} {a1 : Int} {y : Int} (h : lx_number a0 a1 = some y) : Spec gP 26 [.d (.str a0), .d (.int .i64 a1)] (.d (.int .i64 y)) := by
 refine spec_mir Tryz.func26 rfl (by kernel_rfl) (by kernel_rfl) (fun y : Int => .d (.int .i64 y)) ?_ h
 unfold lx_number
 simp only [List.replicate, List.length, nS, nA, Tryz.ntmps26, SV]
 refine .sR fun e h=>?_
 simp only [seval,EMK]
 refine mU e (.seqK (.seqK (.bind fun c1 q1=>?_))) h
 replace q1 := gt_ok q1
 refine .region fun e h=>?_
 simp only [seval,EMK,und_9,q1]
 refine mU e (Mir.joinO (fun v1 : Int=>([.d (.str a0),.d (.int .i64 v1)] ++ us 28)) (fun v1=>⟨[],[]⟩) (fun _=>rfl) ?_ ?_) h
 refine .cond rfl (fun hb3=>?_) (fun hb3=>?_)
 refine .region fun e h=>?_
 simp only [seval,EMK]
 cases h
 simp only [seval,FMK,Tryz.results26]
 refine .skip fun e h=>?_
 cases h
 simp only [seval,FMK,Tryz.results26]
 intro v1
 refine Mir.toK (.seqK (.bind fun v5 hv46=>.region fun e h=>?_))
 simp only [seval,EMK]
 refine SpecS.inl Tryz.func22 rfl (by kernel_rfl) (by kernel_rfl) (fun v5 : Int=>.d (.int .i64 v5)) (fun v5=>⟨[],[]⟩) hv46 rfl ?_ ?_
 simp only [List.replicate,List.length,nS,nA,Tryz.ntmps22,SV]
 refine .sR fun e h=>?_
 simp only [seval,EMK]
 refine mU e (.seqK (Mir.joinO (fun v4 : Int=>([U,.d (.int .i64 v4)] ++ us 19)) (fun v4=>⟨[],[]⟩) (fun _=>rfl) ?_ ?_)) h
 refine .block (Mir.loop (fun v2 : Int=>([.d (.str a0),.d (.int .i64 v2),.fn 24 []] ++ us 18)) (fun v2=>⟨[],[]⟩) (fun _=>rfl) (by simp only [seval,FMK]) (by simp only [seval,FMK]) fun v2=>.seqK (.seqK (Mir.joinO (fun v3 : Bool=>[.d (.str a0),.d (.int .i64 v2),.fn 24 [],U,U,U,U,U,U,U,U,U,U,U,U,U,U,.d (.bool v3),U,U,U]) (fun v3=>⟨[],[]⟩) (fun _=>rfl) ?_ ?_)))
 refine .ite (fun hb84=>?_) (fun hb84=>?_)
 refine .bind fun c2 q85=>?_
 replace q85 := gt_ok q85
 refine .bind fun y1 hy86=>.region fun e h=>?_
 simp only [seval,EMK,und_9,q85,hb84]
 refine SpecS.by (lx_digit_spec hy86) (by simp only [seval,FMK,hb84]) ?_
 simp only [seval,EMK,hb84]
 cases h
 simp only [seval,FMK,hb84]
 refine .region fun e h=>?_
 simp only [seval,EMK,und_9,hb84]
 cases h
 simp only [seval,FMK,hb84]
 intro v3
 refine Mir.toK (.cond rfl (fun hb88=>?_) (fun hb88=>?_))
 refine .skip (Mir.toK (.block (.region fun e h=>?_)))
 simp only [seval,EMK]
 cases h
 simp only [seval,FMK,Tryz.results22]
 refine .exit fun e h=>?_
 cases h
 simp only [seval,FMK,Tryz.results22]
 intro v4
 refine Mir.toK (.sR fun e h=>?_)
 simp only [seval,EMK]
 refine mU e (.ret fun e h=>?_) h
 cases h
 simp only [seval,FMK,Tryz.results22]
 simp only [seval,EMK]
 refine mU e (.seqK (.seqK (Mir.joinO (fun v6 : Bool=>([.d (.str a0),.d (.int .i64 v5),U,U,U,U,U,U,U,U,U,U,U,U,U,U,U,U,U,U,U,U,U,U,.d (.bool v6)] ++ us 5)) (fun v6=>⟨[],[]⟩) (fun _=>rfl) ?_ ?_))) h
 refine .bind fun y2 hy89=>.ite (fun hb90=>?_) (fun hb90=>?_)
 refine .bind fun y3 hy91=>.bind fun y4 hy92=>.region fun e h=>?_
 simp only [seval,EMK,hb90]
 refine SpecS.by (lx_peek_spec hy89) (by simp only [seval,FMK,hb90]) ?_
 simp only [seval,EMK,hb90]
 refine SpecS.by (lx_peek_spec hy91) (by simp only [seval,FMK,hb90]) ?_
 simp only [seval,EMK,hb90]
 refine SpecS.by (lx_digit_spec hy92) (by simp only [seval,FMK,hb90]) ?_
 simp only [seval,EMK,hb90]
 cases h
 simp only [seval,FMK,hb90]
 refine .region fun e h=>?_
 simp only [seval,EMK,hb90]
 refine SpecS.by (lx_peek_spec hy89) (by simp only [seval,FMK,hb90]) ?_
 simp only [seval,EMK,hb90]
 cases h
 simp only [seval,FMK,hb90]
 intro v6
 refine Mir.toK (Mir.joinO (fun v11 : Int=>([U,.d (.int .i64 v11)] ++ us 28)) (fun v11=>⟨[],[]⟩) (fun _=>rfl) ?_ ?_)
 refine .cond rfl (fun h1=>?_) (fun h1=>?_)
 refine .bind fun v10 h2=>.region fun e h=>?_
 simp only [seval,EMK]
 refine SpecS.inl Tryz.func22 rfl (by kernel_rfl) (by kernel_rfl) (fun v10 : Int=>.d (.int .i64 v10)) (fun v10=>⟨[],[]⟩) h2 rfl ?_ ?_
 simp only [List.replicate,List.length,nS,nA,Tryz.ntmps22,SV]
 refine .sR fun e h=>?_
 simp only [seval,EMK]
 refine mU e (.seqK (Mir.joinO (fun v9 : Int=>([U,.d (.int .i64 v9)] ++ us 19)) (fun v9=>⟨[],[]⟩) (fun _=>rfl) ?_ ?_)) h
 refine .block (Mir.loop (fun v7 : Int=>([.d (.str a0),.d (.int .i64 v7),.fn 24 []] ++ us 18)) (fun v7=>⟨[],[]⟩) (fun _=>rfl) (by simp only [seval,FMK]) (by simp only [seval,FMK]) fun v7=>.seqK (.seqK (Mir.joinO (fun v8 : Bool=>[.d (.str a0),.d (.int .i64 v7),.fn 24 [],U,U,U,U,U,U,U,U,U,U,U,U,U,U,.d (.bool v8),U,U,U]) (fun v8=>⟨[],[]⟩) (fun _=>rfl) ?_ ?_)))
 refine .ite (fun h3=>?_) (fun h3=>?_)
 refine .bind fun c3 q2=>?_
 replace q2 := gt_ok q2
 refine .bind fun y5 h4=>.region fun e h=>?_
 simp only [seval,EMK,und_9,q2,h3]
 refine SpecS.by (lx_digit_spec h4) (by simp only [seval,FMK,h3]) ?_
 simp only [seval,EMK,h3]
 cases h
 simp only [seval,FMK,h3]
 refine .region fun e h=>?_
 simp only [seval,EMK,und_9,h3]
 cases h
 simp only [seval,FMK,h3]
 intro v8
 refine Mir.toK (.cond rfl (fun h5=>?_) (fun h5=>?_))
 refine .skip (Mir.toK (.block (.region fun e h=>?_)))
 simp only [seval,EMK]
 cases h
 simp only [seval,FMK,Tryz.results22]
 refine .exit fun e h=>?_
 cases h
 simp only [seval,FMK,Tryz.results22]
 intro v9
 refine Mir.toK (.sR fun e h=>?_)
 simp only [seval,EMK]
 refine mU e (.ret fun e h=>?_) h
 cases h
 simp only [seval,FMK,Tryz.results22]
 simp only [seval,EMK]
 cases h
 simp only [seval,FMK,Tryz.results26]
 refine .skip fun e h=>?_
 cases h
 simp only [seval,FMK,Tryz.results26]
 intro v11
 refine Mir.toK (.sR fun e h=>?_)
 simp only [seval,EMK]
 refine mU e (.ret fun e h=>?_) h
 cases h
 simp only [seval,FMK,Tryz.results26]
def strings_IndexByte (a0 : (List UInt8)) (a1 : Int) : Option Int := bindO (stringslite_IndexByte a0 a1) fun (y1 : Int) => some y1
theorem strings_IndexByte_spec {a0 : (List UInt8)} {a1 : Int} {y : Int} (h : strings_IndexByte a0 a1 = some y) : Spec gP 28 [.d (.str a0), .d (.int .u8 a1)] (.d (.int .i64 y)) := by
 refine spec_mir Tryz.func28 rfl (by kernel_rfl) (by kernel_rfl) (fun y : Int => .d (.int .i64 y)) ?_ h
 unfold strings_IndexByte
 simp only [List.replicate, List.length, nS, nA, Tryz.ntmps28, SV]
 refine .sR fun e h=>?_
 simp only [seval,EMK]
 refine mU e (.seqK (.bind fun y1 hy1=>.region fun e h=>?_)) h
 simp only [seval,EMK]
 refine SpecS.by (stringslite_IndexByte_spec hy1) (by simp only [seval,FMK]) ?_
 simp only [seval,EMK]
 refine mU e (.ret fun e h=>?_) h
 cases h
 simp only [seval,FMK,Tryz.results28]
def lx_Tokens (a0 : (List UInt8)) : Option ((List LexerToken) × Int × Int) := if (decide ((a0.length : Int) > 65536)) = true then some ([], 0, 3) else bindX (loopX (fun (v1 : (List LexerToken) × Int) => bindO (if (decide (v1.2 < (a0.length : Int))) = true then bindO (gt a0 v1.2) fun (c1 : UInt8) => some ((c1.toNat : Int) != 35) else some false) fun (v2 : Bool) => if v2 = true then bindO (gt a0 v1.2) fun (c2 : UInt8) => bindX (if ((c2.toNat : Int) == 32) = true then some (.ret (.go (v1.1, IntKind.i64.wrap (v1.2 + 1)))) else bindO (lx_letter (c2.toNat : Int)) fun (y1 : Bool) => if y1 = true then bindO (bindO (loopX (fun (v3 : Int) => bindO (if (decide (v3 < (a0.length : Int))) = true then bindO (gt a0 v3) fun (c3 : UInt8) => bindO (lx_inName (c3.toNat : Int)) fun (y2 : Bool) => some y2 else some false) fun (v4 : Bool) => if v4 = true then some (.go (IntKind.i64.wrap (v3 + 1))) else some (.ret v3)) fuel v1.2) fun (v5 : Int) => some v5) fun (v6 : Int) => if (decide ((IntKind.i64.wrap (v6 - v1.2)) > 24)) = true then some (.ret (.ret (.ret ([], v1.2, 3)))) else some (.go (v6, 1)) else bindO (bindO (lx_digit (c2.toNat : Int)) fun (y3 : Bool) => if y3 = true then some true else if ((c2.toNat : Int) == 45) = true then bindO (lx_peek a0 (IntKind.i64.wrap (v1.2 + 1))) fun (y4 : Int) => bindO (lx_digit y4) fun (y5 : Bool) => some y5 else some false) fun (v7 : Bool) => if v7 = true then bindO (lx_number a0 v1.2) fun (y6 : Int) => bindO (cutL a0 v1.2 y6) fun (s1 : (List UInt8)) => bindO (dc_Parse s1) fun (y7 : ApiRat × Int) => if (y7.2 != 0) = true then some (.ret (.ret (.ret ([], v1.2, 2)))) else bindO (lx_peek a0 y6) fun (y8 : Int) => bindO (bindO (lx_letter y8) fun (y9 : Bool) => if y9 = true then some true else if (y8 == 95) = true then some true else some (y8 == 46)) fun (v8 : Bool) => if v8 = true then some (.ret (.ret (.ret ([], y6, 2)))) else some (.go (y6, 2)) else bindO (strings_IndexByte [61, 44, 59, 58, 40, 41] (c2.toNat : Int)) fun (y10 : Int) => if (decide (y10 ≥ 0)) = true then some (.go (IntKind.i64.wrap (v1.2 + 1), 3)) else some (.ret (.ret (.ret ([], v1.2, 2))))) fun (v9 : Int × Int) => bindO (cutL a0 v1.2 v9.1) fun (s2 : (List UInt8)) => guardO (okLen (v1.1.length + 1)) ( some (.go (v1.1 ++ [LexerToken.mk v9.2 v1.2 s2], v9.1))) else some (.ret (.go v1.1))) fuel ([], 0)) fun (v10 : (List LexerToken)) => some (v10, 0, 0)
theorem lx_Tokens_spec {a0 : (List UInt8)} {y : (List LexerToken) × Int × Int} (h : lx_Tokens a0 = some y) : Spec gP 7 [.d (.str a0)] (.tuple [.d (.list (List.map encLexerToken y.1)), .d (.int .i64 y.2.1), .d (.int .i64 y.2.2)]) := by
 refine spec_mir Tryz.func7 rfl (by kernel_rfl) (by kernel_rfl) (fun y : (List LexerToken) × Int × Int => .tuple [.d (.list (List.map encLexerToken y.1)), .d (.int .i64 y.2.1), .d (.int .i64 y.2.2)]) ?_ h
 unfold lx_Tokens
 simp only [List.replicate, List.length, nS, nA, Tryz.ntmps7, SV]
 refine .sR fun e h=>?_
 simp only [seval,EMK]
 refine mU e (.seqK (.sR fun e h=>?_)) h
 simp only [seval,EMK,und_9]
 refine mU e (.cond rfl (fun hb2=>?_) (fun hb2=>?_)) h
 refine .sR fun e h=>?_
 simp only [seval,EMK]
 refine mU e (.ret fun e h=>?_) h
 cases h
 simp only [seval,FMK,Tryz.results7]
 refine .skip (Mir.toK (.sR fun e h=>?_))
 simp only [seval,EMK]
 refine mU e (.seqK (.sR fun e h=>?_)) h
 simp only [seval,EMK]
 refine mU e (.gh [.slot 5 44] rfl (Mir.join (fun v10 : (List LexerToken)=>([U,U,U,U,U,.own 0 (List.map encLexerToken v10)] ++ us 100)) (fun v10=>⟨[],[(44,v10.length)]⟩) (fun _=>rfl) ?_ ?_)) h
 refine .block (Mir.loop (fun v1 : (List LexerToken) × Int=>([.d (.str a0),U,U,U,U,.own 0 (List.map encLexerToken v1.1),.d (.int .i64 v1.2)] ++ us 99)) (fun v1=>⟨[],[(44,v1.1.length)]⟩) (fun _=>rfl) (by simp only [seval,FMK]) (by simp only [seval,FMK]) fun v1=>.seqK (.seqK (Mir.joinO (fun v2 : Bool=>([.d (.str a0),U,U,U,U,.own 0 (List.map encLexerToken v1.1),.d (.int .i64 v1.2),U,U,U,U,U,U,U,U,U,U,U,U,U,U,U,U,U,U,.d (.bool v2)] ++ us 80)) (fun v2=>⟨[],[(44,v1.1.length)]⟩) (fun _=>rfl) ?_ ?_)))
 refine .ite (fun h1=>?_) (fun h1=>?_)
 refine .bind fun c1 q1=>?_
 replace q1 := gt_ok q1
 refine .region fun e h=>?_
 simp only [seval,EMK,und_9,q1,h1]
 cases h
 simp only [seval,FMK,h1]
 refine .region fun e h=>?_
 simp only [seval,EMK,und_9,h1]
 cases h
 simp only [seval,FMK,h1]
 intro v2
 refine Mir.toK (.cond rfl (fun h2=>?_) (fun h2=>?_))
 refine .skip (Mir.toK (.block (.seqK (.bind fun c2 q2=>?_))))
 replace q2 := gt_ok q2
 refine .region fun e h=>?_
 simp only [seval,EMK,und_9,q2]
 refine mU e (.seqK (Mir.join (fun v9 : Int × Int=>([.d (.str a0),U,U,U,U,.own 0 (List.map encLexerToken v1.1),.d (.int .i64 v1.2),U,.d (.int .i64 v9.1),.d (.int .i64 v9.2)] ++ us 96)) (fun v9=>⟨[],[(44,v1.1.length)]⟩) (fun _=>rfl) ?_ ?_)) h
 refine .block (.sR fun e h=>?_)
 simp only [seval,EMK]
 refine mU e (.cond rfl (fun h3=>?_) (fun h3=>?_)) h
 refine .sR fun e h=>?_
 simp only [seval,EMK]
 refine mU e (.exit fun e h=>?_) h
 cases h
 simp only [seval,FMK,Tryz.results7]
 refine .seqK (.bind fun y1 h4=>.region fun e h=>?_)
 simp only [seval,EMK]
 refine SpecS.by (lx_letter_spec h4) (by simp only [seval,FMK]) ?_
 simp only [seval,EMK]
 refine mU e (.cond rfl (fun h5=>?_) (fun h5=>?_)) h
 refine .seqK (.bind fun v6 h6=>.region fun e h=>?_)
 simp only [seval,EMK]
 refine SpecS.inl Tryz.func22 rfl (by kernel_rfl) (by kernel_rfl) (fun v6 : Int=>.d (.int .i64 v6)) (fun v6=>⟨[],[(44,v1.1.length)]⟩) h6 rfl ?_ ?_
 simp only [List.replicate,List.length,nS,nA,Tryz.ntmps22,SV]
 refine .sR fun e h=>?_
 simp only [seval,EMK]
 refine mU e (.seqK (Mir.joinO (fun v5 : Int=>([U,.d (.int .i64 v5)] ++ us 19)) (fun v5=>⟨[],[(44,v1.1.length)]⟩) (fun _=>rfl) ?_ ?_)) h
 refine .block (Mir.loop (fun v3 : Int=>([.d (.str a0),.d (.int .i64 v3),.fn 23 []] ++ us 18)) (fun v3=>⟨[],[(44,v1.1.length)]⟩) (fun _=>rfl) (by simp only [seval,FMK]) (by simp only [seval,FMK]) fun v3=>.seqK (.seqK (Mir.joinO (fun v4 : Bool=>[.d (.str a0),.d (.int .i64 v3),.fn 23 [],U,U,U,U,U,U,U,U,U,U,U,U,U,U,.d (.bool v4),U,U,U]) (fun v4=>⟨[],[(44,v1.1.length)]⟩) (fun _=>rfl) ?_ ?_)))
 refine .ite (fun h7=>?_) (fun h7=>?_)
 refine .bind fun c3 q3=>?_
 replace q3 := gt_ok q3
 refine .bind fun y2 h8=>.region fun e h=>?_
 simp only [seval,EMK,und_9,q3,h7]
 refine SpecS.by (lx_inName_spec h8) (by simp only [seval,FMK,h7]) ?_
 simp only [seval,EMK,h7]
 cases h
 simp only [seval,FMK,h7]
 refine .region fun e h=>?_
 simp only [seval,EMK,und_9,h7]
 cases h
 simp only [seval,FMK,h7]
 intro v4
 refine Mir.toK (.cond rfl (fun h9=>?_) (fun h9=>?_))
 refine .skip (Mir.toK (.block (.region fun e h=>?_)))
 simp only [seval,EMK]
 cases h
 simp only [seval,FMK,Tryz.results22]
 refine .exit fun e h=>?_
 cases h
 simp only [seval,FMK,Tryz.results22]
 intro v5
 refine Mir.toK (.sR fun e h=>?_)
 simp only [seval,EMK]
 refine mU e (.ret fun e h=>?_) h
 cases h
 simp only [seval,FMK,Tryz.results22]
 simp only [seval,EMK]
 refine mU e (.sR fun e h=>?_) h
 simp only [seval,EMK]
 refine mU e (.cond rfl (fun h10=>?_) (fun h10=>?_)) h
 refine .sR fun e h=>?_
 simp only [seval,EMK]
 refine mU e (.ret fun e h=>?_) h
 cases h
 simp only [seval,FMK,Tryz.results7]
 refine .skip fun e h=>?_
 cases h
 simp only [seval,FMK,Tryz.results7]
 refine .seqK (Mir.joinO (fun v7 : Bool=>([.d (.str a0),U,U,U,U,.own 0 (List.map encLexerToken v1.1),.d (.int .i64 v1.2),.d (.int .u8 (c2.toNat : Int)),.d (.int .i64 (IntKind.i64.wrap (v1.2 + 1))),U,U,U,U,U,U,U,U,U,U,U,U,U,U,U,U,U,U,U,U,U,U,U,U,U,U,U,U,U,U,U,U,U,U,U,U,U,U,U,.d (.bool v7)] ++ us 57)) (fun v7=>⟨[],[(44,v1.1.length)]⟩) (fun _=>rfl) ?_ ?_)
 refine .bind fun y3 h11=>.ite (fun h12=>?_) (fun h12=>?_)
 refine .region fun e h=>?_
 simp only [seval,EMK,h12]
 refine SpecS.by (lx_digit_spec h11) (by simp only [seval,FMK,h12]) ?_
 simp only [seval,EMK,h12]
 cases h
 simp only [seval,FMK,h12]
 refine .ite (fun h13=>?_) (fun h13=>?_)
 refine .bind fun y4 h14=>.bind fun y5 h15=>.region fun e h=>?_
 simp only [seval,EMK,h12,h13]
 refine SpecS.by (lx_digit_spec h11) (by simp only [seval,FMK,h12,h13]) ?_
 simp only [seval,EMK,h12,h13]
 refine SpecS.by (lx_peek_spec h14) (by simp only [seval,FMK,h12,h13]) ?_
 simp only [seval,EMK,h12,h13]
 refine SpecS.by (lx_digit_spec h15) (by simp only [seval,FMK,h12,h13]) ?_
 simp only [seval,EMK,h12,h13]
 cases h
 simp only [seval,FMK,h12,h13]
 refine .region fun e h=>?_
 simp only [seval,EMK,h12,h13]
 refine SpecS.by (lx_digit_spec h11) (by simp only [seval,FMK,h12,h13]) ?_
 simp only [seval,EMK,h12,h13]
 cases h
 simp only [seval,FMK,h12,h13]
 intro v7
 refine Mir.toK (.cond rfl (fun h16=>?_) (fun h16=>?_))
 refine .seqK (.bind fun y6 h17=>.region fun e h=>?_)
 simp only [seval,EMK]
 refine SpecS.by (lx_number_spec h17) (by simp only [seval,FMK]) ?_
 simp only [seval,EMK]
 refine mU e (.seqK (.seqK (.bind fun s1 q4=>?_))) h
 replace q4 := cutL_ok q4
 refine .bind fun y7 h18=>.region fun e h=>?_
 simp only [seval,EMK,und_9,q4,Nat.le_refl,and_true,true_and,dm,tm]
 refine SpecS.by (dc_Parse_spec h18) (by simp only [seval,FMK]) ?_
 simp only [seval,EMK,zero_53,sz_53]
 refine mU e (.sR fun e h=>?_) h
 simp only [seval,EMK]
 refine mU e (.cond rfl (fun h19=>?_) (fun h19=>?_)) h
 refine .sR fun e h=>?_
 simp only [seval,EMK]
 refine mU e (.ret fun e h=>?_) h
 cases h
 simp only [seval,FMK,Tryz.results7]
 refine .skip (Mir.toK (.seqK (.bind fun y8 h20=>.region fun e h=>?_)))
 simp only [seval,EMK]
 refine SpecS.by (lx_peek_spec h20) (by simp only [seval,FMK]) ?_
 simp only [seval,EMK]
 refine mU e (.seqK (Mir.joinO (fun v8 : Bool=>([.d (.str a0),U,U,U,U,.own 0 (List.map encLexerToken v1.1),.d (.int .i64 v1.2),U,.d (.int .i64 y6),.d (.int .i64 2),U,U,U,U,U,U,U,U,U,U,U,U,U,U,U,U,U,U,U,U,U,U,U,U,U,U,U,U,U,U,U,U,U,U,U,U,U,U,U,U,U,U,U,U,U,U,U,U,U,U,U,U,U,U,U,U,U,U,U,U,U,U,U,U,U,U,U,U,U,U,U,U,U,U,U,U,U,U,.d (.bool v8)] ++ us 17)) (fun v8=>⟨[[.d (.bool y7.1.Num.Neg),.d (.list (List.map (eInt .u32) y7.1.Num.Limbs)),.d (.bool y7.1.Den.Neg),.d (.list (List.map (eInt .u32) y7.1.Den.Limbs))]],[(44,v1.1.length)]⟩) (fun _=>rfl) ?_ ?_)) h
 refine .bind fun y9 h21=>.ite (fun h22=>?_) (fun h22=>?_)
 refine .region fun e h=>?_
 simp only [seval,EMK,h22]
 refine SpecS.by (lx_letter_spec h21) (by simp only [seval,FMK,h22]) ?_
 simp only [seval,EMK,h22]
 cases h
 simp only [seval,FMK,h22]
 refine .ite (fun h23=>?_) (fun h23=>?_)
 refine .region fun e h=>?_
 simp only [seval,EMK,h22,h23]
 refine SpecS.by (lx_letter_spec h21) (by simp only [seval,FMK,h22,h23]) ?_
 simp only [seval,EMK,h22,h23]
 cases h
 simp only [seval,FMK,h22,h23]
 refine .region fun e h=>?_
 simp only [seval,EMK,h22,h23]
 refine SpecS.by (lx_letter_spec h21) (by simp only [seval,FMK,h22,h23]) ?_
 simp only [seval,EMK,h22,h23]
 cases h
 simp only [seval,FMK,h22,h23]
 intro v8
 refine Mir.toK (.cond rfl (fun h24=>?_) (fun h24=>?_))
 refine .sR fun e h=>?_
 simp only [seval,EMK]
 refine mU e (.ret fun e h=>?_) h
 cases h
 simp only [seval,FMK,Tryz.results7]
 refine .skip fun e h=>?_
 cases h
 simp only [seval,FMK,Tryz.results7]
 refine .seqK (.bind fun y10 h25=>.region fun e h=>?_)
 simp only [seval,EMK]
 refine SpecS.by (strings_IndexByte_spec h25) (by simp only [seval,FMK]) ?_
 simp only [seval,EMK]
 refine mU e (.cond rfl (fun h26=>?_) (fun h26=>?_)) h
 refine .region fun e h=>?_
 simp only [seval,EMK]
 cases h
 simp only [seval,FMK,Tryz.results7]
 refine .sR fun e h=>?_
 simp only [seval,EMK]
 refine mU e (.ret fun e h=>?_) h
 cases h
 simp only [seval,FMK,Tryz.results7]
 intro v9
 refine Mir.toK (.seqK (.bind fun s2 q5=>?_))
 replace q5 := cutL_ok q5
 refine .guard fun q6=>.region fun e h=>?_
 simp only [seval,EMK,und_9,q5,Nat.le_refl,and_true,true_and,dm,tm,zero_44,pl_44,und_23,sz_44,(oL 3),app_23,al_LexerToken,q6]
 refine mU e (.region fun e h=>?_) h
 simp only [seval,EMK]
 cases h
 simp only [seval,FMK,Tryz.results7]
 refine .exit fun e h=>?_
 cases h
 simp only [seval,FMK,Tryz.results7]
 intro v10
 refine Mir.toK (.sR fun e h=>?_)
 simp only [seval,EMK]
 refine mU e (.ret fun e h=>?_) h
 cases h
 simp only [seval,FMK,Tryz.results7]
def lx_Length (a0 : LexerToken) : Option (ApiRat × Bool) := if (a0.Kind != 2) = true then some (ApiRat.mk (ApiInt.mk false []) (ApiInt.mk false []), false) else bindO (dc_Parse a0.Text) fun (y1 : ApiRat × Int) => if (y1.2 != 0) = true then some (ApiRat.mk (ApiInt.mk false []) (ApiInt.mk false []), false) else bindO (ra_FromInt64 1000) fun (y2 : ApiRat) => bindO (ra_Mul y1.1 y2) fun (y3 : ApiRat) => some (y3, true)
theorem lx_Length_spec {a0 : LexerToken} {y : ApiRat × Bool} (h : lx_Length a0 = some y) : Spec gP 15 [.agg [.d (.int .i64 a0.Kind), .d (.int .i64 a0.Pos), .d (.str a0.Text)]] (.tuple [.agg [.d (.bool y.1.Num.Neg), .d (.list (List.map (eInt .u32) y.1.Num.Limbs)), .d (.bool y.1.Den.Neg), .d (.list (List.map (eInt .u32) y.1.Den.Limbs))], .d (.bool y.2)]) := by
 refine spec_mir Tryz.func15 rfl (by kernel_rfl) (by kernel_rfl) (fun y : ApiRat × Bool => .tuple [.agg [.d (.bool y.1.Num.Neg), .d (.list (List.map (eInt .u32) y.1.Num.Limbs)), .d (.bool y.1.Den.Neg), .d (.list (List.map (eInt .u32) y.1.Den.Limbs))], .d (.bool y.2)]) ?_ h
 unfold lx_Length
 simp only [List.replicate, List.length, nS, nA, Tryz.ntmps15, SV]
 refine .sR fun e h=>?_
 simp only [seval,EMK,zero_53]
 refine mU e (.seqK (.sR fun e h=>?_)) h
 simp only [seval,EMK,fld_44_0,sz_3,ag_3]
 refine mU e (.cond rfl (fun hb2=>?_) (fun hb2=>?_)) h
 refine .sR fun e h=>?_
 simp only [seval,EMK,zero_53,pl_53,sz_53]
 refine mU e (.ret fun e h=>?_) h
 cases h
 simp only [seval,FMK,Tryz.results15,ag_53,sz_53]
 refine .skip (Mir.toK (.seqK (.bind fun y1 hy3=>.region fun e h=>?_)))
 simp only [seval,EMK,fld_44_2,sz_9,ag_9]
 refine SpecS.by (dc_Parse_spec hy3) (by simp only [seval,FMK]) ?_
 simp only [seval,EMK,zero_53,sz_53]
 refine mU e (.seqK (.sR fun e h=>?_)) h
 simp only [seval,EMK]
 refine mU e (.cond rfl (fun hb5=>?_) (fun hb5=>?_)) h
 refine .sR fun e h=>?_
 simp only [seval,EMK,zero_53,pl_53,sz_53]
 refine mU e (.ret fun e h=>?_) h
 cases h
 simp only [seval,FMK,Tryz.results15,ag_53,sz_53]
 refine .skip (Mir.toK (.seqK (.bind fun y2 hy6=>.bind fun y3 hy7=>.regionD [] (by kernel_rfl) fun e h=>?_)))
 simp only [seval,EMK,SB,ag_53,sz_53]
 refine Spec.by (ra_FromInt64_spec hy6) (by simp only [seval,FMK]) ?_
 simp only [seval,EMK,SB]
 refine Spec.by (ra_Mul_spec hy7) (by simp only [seval,FMK]) ?_
 simp only [seval,EMK,SB,sz_53]
 refine mU e (.ret fun e h=>?_) h
 cases h
 simp only [seval,FMK,Tryz.results15,ag_53,sz_53]
def lx_Shape (a0 : (List LexerToken)) : Option (List UInt8) := bindO (guardO (okIdx a0) ( rangeX (fun (i1 : Nat) (e1 : LexerToken) (v1 : (List UInt8)) => bindO (if (e1.Kind == 1) = true then guardO (okLen (v1.length + 1)) ( some (v1 ++ [110])) else if (e1.Kind == 2) = true then guardO (okLen (v1.length + 1)) ( some (v1 ++ [100])) else if ((e1.Kind == 3) && ((e1.Text.length : Int) == 1)) = true then guardO (okLen (v1.length + e1.Text.length)) ( some (v1 ++ e1.Text)) else guardO (okLen (v1.length + 1)) ( some (v1 ++ [63]))) fun (v2 : (List UInt8)) => some (.go v2)) (fun (v1 : (List UInt8)) => some v1) a0 0 [])) fun (v3 : (List UInt8)) => some v3
theorem lx_Shape_spec {a0 : (List LexerToken)} {y : (List UInt8)} (h : lx_Shape a0 = some y) : Spec gP 18 [.d (.list (List.map encLexerToken a0))] (.d (.str y)) := by
 refine spec_mir Tryz.func18 rfl (by kernel_rfl) (by kernel_rfl) (fun y : (List UInt8) => .d (.str y)) ?_ h
 unfold lx_Shape
 simp only [List.replicate, List.length, nS, nA, Tryz.ntmps18, SV]
 refine .sR fun e h=>?_
 simp only [seval,EMK]
 refine mU e (.seqK (.regionW fun e h=>regW.alt 0 rfl ?_)) h
 simp only [seval,EMK,w_none,w_eq]
 refine alt_allocB (e := 5) (zv := .agg #[.pointer none,.slice none 0 0]) rfl (by kernel_rfl) rfl (regW.of ?_)
 simp only [seval,EMK,w_none,w_eq]
 refine mU e (.seqK (.sR fun e h=>?_)) h
 simp only [seval,EMK,und_23]
 refine mU e (Mir.joinO (fun v3 : (List UInt8)=>([U,U,U,.ptr 0 0] ++ us 34)) (fun v3=>⟨[[.adr 0,.own 0 (List.map byteE v3)]],[(5,v3.length)]⟩) (fun _=>rfl) ?_ ?_) h
 refine .block (.guard fun q1=>Mir.range (fun (i1 : Nat) (v1 : (List UInt8))=>([U,U,U,.ptr 0 0,U,U,.d (.list (List.map encLexerToken a0)),.d (.int .i64 (a0.length : Int)),.d (.int .i64 (i1 : Int))] ++ us 29)) (fun i1 v1=>⟨[[.adr 0,.own 0 (List.map byteE v1)]],[(5,v1.length)]⟩) q1 (fun _ _=>rfl) (by simp only [seval,FMK,zNI]) (by simp only [seval,FMK,zNI]) ?_ ?_)
 intro i1 e1 v1 q2
 refine .sR fun e h=>?_
 simp only [seval,EMK,q2]
 refine mU e (.seqK (.condT rfl (.skip (Mir.toK (.seqK (Mir.joinO (fun v2 : (List UInt8)=>([U,U,U,.ptr 0 0,U,U,.d (.list (List.map encLexerToken a0)),.d (.int .i64 (a0.length : Int)),.d (.int .i64 (i1 : Int))] ++ us 29)) (fun v2=>⟨[[.adr 0,.own 0 (List.map byteE v2)]],[(5,v2.length)]⟩) (fun _=>rfl) ?_ ?_)))))) h
 refine .block (.sR fun e h=>?_)
 simp only [seval,EMK,und_23,sz_44,q2,Int.toNat_natCast,ag_44,zero_44]
 refine mU e (.block (.sR fun e h=>?_)) h
 simp only [seval,EMK,fld_44_0,sz_3,ag_3]
 refine mU e (.cond rfl (fun h1=>?_) (fun h1=>?_)) h
 refine .guard fun q3=>.region fun e h=>?_
 simp only [seval,EMK]
 refine specS_wbN (b := 110) (n := (v1 ++ [110]).length) rfl rfl (lns_at (by simp only [List.length_map,List.length_append,List.length_nil,List.length_cons,List.map_nil,List.map_cons,xOS,xON] <;> omega)) (ok2 q3 (by simp only [List.length_map,List.length_append,List.length_nil,List.length_cons,List.map_nil,List.map_cons,xOS,xON] <;> omega) rfl) (by simp only [List.length_map,List.length_append,List.length_nil,List.length_cons,List.map_nil,List.map_cons,xOS,xON] <;> omega) ?_
 simp only [seval,EMK]
 cases h
 simp only [seval,FMK,Tryz.results18]
 refine .sR fun e h=>?_
 simp only [seval,EMK,fld_44_0,sz_3,ag_3]
 refine mU e (.cond rfl (fun h2=>?_) (fun h2=>?_)) h
 refine .guard fun q4=>.region fun e h=>?_
 simp only [seval,EMK]
 refine specS_wbN (b := 100) (n := (v1 ++ [100]).length) rfl rfl (lns_at (by simp only [List.length_map,List.length_append,List.length_nil,List.length_cons,List.map_nil,List.map_cons,xOS,xON] <;> omega)) (ok2 q4 (by simp only [List.length_map,List.length_append,List.length_nil,List.length_cons,List.map_nil,List.map_cons,xOS,xON] <;> omega) rfl) (by simp only [List.length_map,List.length_append,List.length_nil,List.length_cons,List.map_nil,List.map_cons,xOS,xON] <;> omega) ?_
 simp only [seval,EMK]
 cases h
 simp only [seval,FMK,Tryz.results18]
 refine .seqK (.joinV ([U,U,U,.ptr 0 0,U,.ptr 1 0,.d (.list (List.map encLexerToken a0)),.d (.int .i64 (a0.length : Int)),.d (.int .i64 (i1 : Int)),U,U,U,U,U,U,U,U,U,U,U,U,U,U,.d (.bool ((e1.Kind == 3) && ((e1.Text.length : Int) == 1)))] ++ us 14) ⟨[[.adr 0,.own 0 (List.map byteE v1)],[.d (.int .i64 e1.Kind),.d (.int .i64 e1.Pos),.d (.str e1.Text)]],[(5,v1.length)]⟩ rfl ?_ ?_)
 refine SWs.region ?_
 rcases Bool.eq_false_or_eq_true (e1.Kind == 3) with h3 | h3
 simp only [seval,EMK,SL,PB,fld_44_0,sz_3,ag_3,fld_44_2,sz_9,ag_9,und_9,h3]
 simp only [seval,EMK,SL,PB,fld_44_0,sz_3,ag_3,h3]
 refine Mir.toK (.cond rfl (fun h4=>?_) (fun h4=>?_))
 refine .guard fun q5=>.region fun e h=>?_
 simp only [seval,EMK,fld_44_2,sz_9,ag_9]
 refine specS_wsN (n := (v1 ++ e1.Text).length) rfl (lns_at (by simp only [List.length_map,List.length_append,List.length_nil,List.length_cons,List.map_nil,List.map_cons,xOS,xON] <;> omega)) (ok2 q5 (by simp only [List.length_map,List.length_append,List.length_nil,List.length_cons,List.map_nil,List.map_cons,xOS,xON] <;> omega) rfl) (by simp only [List.length_map,List.length_append,List.length_nil,List.length_cons,List.map_nil,List.map_cons,xOS,xON] <;> omega) ?_
 simp only [seval,EMK]
 cases h
 simp only [seval,FMK,Tryz.results18]
 refine .guard fun q6=>.region fun e h=>?_
 simp only [seval,EMK]
 refine specS_wbN (b := 63) (n := (v1 ++ [63]).length) rfl rfl (lns_at (by simp only [List.length_map,List.length_append,List.length_nil,List.length_cons,List.map_nil,List.map_cons,xOS,xON] <;> omega)) (ok2 q6 (by simp only [List.length_map,List.length_append,List.length_nil,List.length_cons,List.map_nil,List.map_cons,xOS,xON] <;> omega) rfl) (by simp only [List.length_map,List.length_append,List.length_nil,List.length_cons,List.map_nil,List.map_cons,xOS,xON] <;> omega) ?_
 simp only [seval,EMK]
 cases h
 simp only [seval,FMK,Tryz.results18]
 intro v2
 refine Mir.toK (.region fun e h=>?_)
 simp only [seval,EMK]
 cases h
 simp only [seval,FMK,Tryz.results18,q2]
 intro v1 q7
 refine .sR fun e h=>?_
 simp only [seval,EMK,q7]
 refine mU e (.seqK (.condF rfl (.exit fun e h=>?_))) h
 cases h
 simp only [seval,FMK,Tryz.results18]
 intro v3
 refine Mir.toK (.sR fun e h=>?_)
 simp only [seval,EMK]
 refine specS_st rfl (lns_at (by simp only [List.length_map,List.length_append,List.length_nil,List.length_cons,List.map_nil,List.map_cons,xOS,xON] <;> omega)) ?_
 simp only [seval,EMK]
 refine mU e (.ret fun e h=>?_) h
 cases h
 simp only [seval,FMK,Tryz.results18]
def l21_awake  : Option Bool := bindO (lx_Tokens [104, 111, 108, 101, 45, 49, 32, 61, 32, 45, 50, 46, 53, 48, 44, 120, 32, 35, 32, 102, 97, 114]) fun (y1 : (List LexerToken) × Int × Int) => bindO (lx_Tokens [50, 46, 53, 109, 109]) fun (y2 : (List LexerToken) × Int × Int) => bindO (lx_Tokens [97, 32, 46, 32, 98]) fun (y3 : (List LexerToken) × Int × Int) => bindO (lx_Length (LexerToken.mk 2 0 [50, 46, 53])) fun (y4 : ApiRat × Bool) => bindO (if (y1.2.2 == 0) = true then if (y1.2.1 == 0) = true then bindO (lx_Shape y1.1) fun (y5 : (List UInt8)) => if (y5 == [110, 61, 100, 44, 110]) = true then if ((y1.1.length : Int) == 5) = true then bindO (gt y1.1 2) fun (e1 : LexerToken) => if ((e1.Kind == 2) && ((e1.Pos == 9) && (e1.Text == [45, 50, 46, 53, 48]))) = true then if (y2.2.2 == 2) = true then if (y2.2.1 == 3) = true then if (y3.2.2 == 2) = true then if (y3.2.1 == 2) = true then if y4.2 = true then bindO (r02_FromInt64 2500) fun (y6 : ApiRat) => bindO (r02_Same y4.1 y6) fun (y7 : Bool) => some y7 else some false else some false else some false else some false else some false else some false else some false else some false else some false else some false) fun (v1 : Bool) => some v1
theorem l21_awake_spec  {y : Bool} (h : l21_awake = some y) : Spec gP 6 [] (.d (.bool y)) := by
 refine spec_mir Tryz.func6 rfl (by kernel_rfl) (by kernel_rfl) (fun y : Bool => .d (.bool y)) ?_ h
 unfold l21_awake
 simp only [List.replicate, List.length, nS, nA, Tryz.ntmps6, SV]
 refine .sR fun e h=>?_
 simp only [seval,EMK]
 refine mU e (.seqK (.bind fun y1 hy1=>.region fun e h=>?_)) h
 simp only [seval,EMK]
 refine SpecS.by (lx_Tokens_spec hy1) (by simp only [seval,FMK]) ?_
 simp only [seval,EMK]
 refine mU e (.seqK (.bind fun y2 hy2=>.region fun e h=>?_)) h
 simp only [seval,EMK]
 refine SpecS.by (lx_Tokens_spec hy2) (by simp only [seval,FMK]) ?_
 simp only [seval,EMK]
 refine mU e (.seqK (.bind fun y3 hy3=>.region fun e h=>?_)) h
 simp only [seval,EMK]
 refine SpecS.by (lx_Tokens_spec hy3) (by simp only [seval,FMK]) ?_
 simp only [seval,EMK]
 refine mU e (.seqK (.bind fun y4 hy4=>.region fun e h=>?_)) h
 simp only [seval,EMK,zero_44,pl_44]
 refine SpecS.by (lx_Length_spec hy4) (by simp only [seval,FMK]) ?_
 simp only [seval,EMK,zero_53,sz_53]
 refine mU e (.seqK (Mir.joinO (fun v1 : Bool=>([.d (.bool v1)] ++ us 78)) (fun v1=>⟨[[.d (.bool y4.1.Num.Neg),.d (.list (List.map (eInt .u32) y4.1.Num.Limbs)),.d (.bool y4.1.Den.Neg),.d (.list (List.map (eInt .u32) y4.1.Den.Limbs))]],[]⟩) (fun _=>rfl) ?_ ?_)) h
 refine .ite (fun hb5=>?_) (fun hb5=>?_)
 refine .ite (fun hb6=>?_) (fun hb6=>?_)
 refine .bind fun y5 hy7=>.ite (fun hb8=>?_) (fun hb8=>?_)
 refine .ite (fun hb9=>?_) (fun hb9=>?_)
 refine .bind fun e1 q10=>?_
 replace q10 := gt_ok q10
 simp only [Int.reduceToNat,Int.reduceLT,Nat.sub_zero,dp0] at q10
 refine .ite (fun hb11=>?_) (fun hb11=>?_)
 refine .ite (fun hb12=>?_) (fun hb12=>?_)
 refine .ite (fun hb13=>?_) (fun hb13=>?_)
 refine .ite (fun hb14=>?_) (fun hb14=>?_)
 refine .ite (fun hb15=>?_) (fun hb15=>?_)
 refine .ite (fun hb16=>?_) (fun hb16=>?_)
 refine .bind fun y6 hy17=>.bind fun y7 hy18=>.regionD [] (by kernel_rfl) fun e h=>?_
 simp only [seval,EMK,SB,hb5,hb6,hb8,hb9,hb11,hb12,hb13,hb14,hb15,hb16]
 refine Spec.by (lx_Shape_spec hy7) (by simp only [seval,FMK,hb5,hb6,hb8,hb9,hb11,hb12,hb13,hb14,hb15,hb16]) ?_
 simp only [seval,EMK,SB,und_23,sz_44,q10,ag_44,zero_44,pl_44,gE_44,ag_53,sz_53,hb5,hb6,hb8,hb9,hb11,hb12,hb13,hb14,hb15,hb16]
 refine Spec.by (r02_FromInt64_spec hy17) (by simp only [seval,FMK,hb5,hb6,hb8,hb9,hb11,hb12,hb13,hb14,hb15,hb16]) ?_
 simp only [seval,EMK,SB,hb5,hb6,hb8,hb9,hb11,hb12,hb13,hb14,hb15,hb16]
 refine Spec.by (r02_Same_spec hy18) (by simp only [seval,FMK,hb5,hb6,hb8,hb9,hb11,hb12,hb13,hb14,hb15,hb16]) ?_
 simp only [seval,EMK,SB,hb5,hb6,hb8,hb9,hb11,hb12,hb13,hb14,hb15,hb16]
 cases h
 simp only [seval,FMK,hb5,hb6,hb8,hb9,hb11,hb12,hb13,hb14,hb15,hb16]
 refine .regionD [] (by kernel_rfl) fun e h=>?_
 simp only [seval,EMK,SB,hb5,hb6,hb8,hb9,hb11,hb12,hb13,hb14,hb15,hb16]
 refine Spec.by (lx_Shape_spec hy7) (by simp only [seval,FMK,hb5,hb6,hb8,hb9,hb11,hb12,hb13,hb14,hb15,hb16]) ?_
 simp only [seval,EMK,SB,und_23,sz_44,q10,ag_44,zero_44,pl_44,gE_44,hb5,hb6,hb8,hb9,hb11,hb12,hb13,hb14,hb15,hb16]
 cases h
 simp only [seval,FMK,hb5,hb6,hb8,hb9,hb11,hb12,hb13,hb14,hb15,hb16]
 refine .regionD [] (by kernel_rfl) fun e h=>?_
 simp only [seval,EMK,SB,hb5,hb6,hb8,hb9,hb11,hb12,hb13,hb14,hb15]
 refine Spec.by (lx_Shape_spec hy7) (by simp only [seval,FMK,hb5,hb6,hb8,hb9,hb11,hb12,hb13,hb14,hb15]) ?_
 simp only [seval,EMK,SB,und_23,sz_44,q10,ag_44,zero_44,pl_44,gE_44,hb5,hb6,hb8,hb9,hb11,hb12,hb13,hb14,hb15]
 cases h
 simp only [seval,FMK,hb5,hb6,hb8,hb9,hb11,hb12,hb13,hb14,hb15]
 refine .regionD [] (by kernel_rfl) fun e h=>?_
 simp only [seval,EMK,SB,hb5,hb6,hb8,hb9,hb11,hb12,hb13,hb14]
 refine Spec.by (lx_Shape_spec hy7) (by simp only [seval,FMK,hb5,hb6,hb8,hb9,hb11,hb12,hb13,hb14]) ?_
 simp only [seval,EMK,SB,und_23,sz_44,q10,ag_44,zero_44,pl_44,gE_44,hb5,hb6,hb8,hb9,hb11,hb12,hb13,hb14]
 cases h
 simp only [seval,FMK,hb5,hb6,hb8,hb9,hb11,hb12,hb13,hb14]
 refine .regionD [] (by kernel_rfl) fun e h=>?_
 simp only [seval,EMK,SB,hb5,hb6,hb8,hb9,hb11,hb12,hb13]
 refine Spec.by (lx_Shape_spec hy7) (by simp only [seval,FMK,hb5,hb6,hb8,hb9,hb11,hb12,hb13]) ?_
 simp only [seval,EMK,SB,und_23,sz_44,q10,ag_44,zero_44,pl_44,gE_44,hb5,hb6,hb8,hb9,hb11,hb12,hb13]
 cases h
 simp only [seval,FMK,hb5,hb6,hb8,hb9,hb11,hb12,hb13]
 refine .regionD [] (by kernel_rfl) fun e h=>?_
 simp only [seval,EMK,SB,hb5,hb6,hb8,hb9,hb11,hb12]
 refine Spec.by (lx_Shape_spec hy7) (by simp only [seval,FMK,hb5,hb6,hb8,hb9,hb11,hb12]) ?_
 simp only [seval,EMK,SB,und_23,sz_44,q10,ag_44,zero_44,pl_44,gE_44,hb5,hb6,hb8,hb9,hb11,hb12]
 cases h
 simp only [seval,FMK,hb5,hb6,hb8,hb9,hb11,hb12]
 refine .regionD [] (by kernel_rfl) fun e h=>?_
 simp only [seval,EMK,SB,hb5,hb6,hb8,hb9,hb11]
 refine Spec.by (lx_Shape_spec hy7) (by simp only [seval,FMK,hb5,hb6,hb8,hb9,hb11]) ?_
 simp only [seval,EMK,SB,und_23,sz_44,q10,ag_44,zero_44,pl_44,gE_44,hb5,hb6,hb8,hb9,hb11]
 cases h
 simp only [seval,FMK,hb5,hb6,hb8,hb9,hb11]
 refine .regionD [] (by kernel_rfl) fun e h=>?_
 simp only [seval,EMK,SB,hb5,hb6,hb8,hb9]
 refine Spec.by (lx_Shape_spec hy7) (by simp only [seval,FMK,hb5,hb6,hb8,hb9]) ?_
 simp only [seval,EMK,SB,und_23,hb5,hb6,hb8,hb9]
 cases h
 simp only [seval,FMK,hb5,hb6,hb8,hb9]
 refine .regionD [] (by kernel_rfl) fun e h=>?_
 simp only [seval,EMK,SB,hb5,hb6,hb8]
 refine Spec.by (lx_Shape_spec hy7) (by simp only [seval,FMK,hb5,hb6,hb8]) ?_
 simp only [seval,EMK,SB,hb5,hb6,hb8]
 cases h
 simp only [seval,FMK,hb5,hb6,hb8]
 refine .regionD [] (by kernel_rfl) fun e h=>?_
 simp only [seval,EMK,SB,hb5,hb6]
 cases h
 simp only [seval,FMK,hb5,hb6]
 refine .regionD [] (by kernel_rfl) fun e h=>?_
 simp only [seval,EMK,SB,hb5]
 cases h
 simp only [seval,FMK,hb5]
 intro v1
 refine Mir.toK (.ret fun e h=>?_)
 cases h
 simp only [seval,FMK,Tryz.results6]
def lx_Integer (a0 : LexerToken) : Option (Int × Bool) := bindO (if (a0.Kind != 2) = true then some true else bindO (strings_Contains a0.Text [46]) fun (y1 : Bool) => some y1) fun (v1 : Bool) => if v1 = true then some (0, false) else bindO (dc_Parse a0.Text) fun (y2 : ApiRat × Int) => if (y2.2 != 0) = true then some (0, false) else bindO (strconv_ParseIntE a0.Text 10 64) fun (y3 : Int × Bool) => if (!y3.2) = true then some (0, false) else some (y3.1, true)
theorem lx_Integer_spec {a0 : LexerToken} {y : Int × Bool} (h : lx_Integer a0 = some y) : Spec gP 13 [.agg [.d (.int .i64 a0.Kind), .d (.int .i64 a0.Pos), .d (.str a0.Text)]] (.tuple [.d (.int .i64 y.1), .d (.bool y.2)]) := by
 refine spec_mir Tryz.func13 rfl (by kernel_rfl) (by kernel_rfl) (fun y : Int × Bool => .tuple [.d (.int .i64 y.1), .d (.bool y.2)]) ?_ h
 unfold lx_Integer
 simp only [List.replicate, List.length, nS, nA, Tryz.ntmps13, SV]
 refine .sR fun e h=>?_
 simp only [seval,EMK]
 refine mU e (.seqK (.seqK (Mir.joinO (fun v1 : Bool=>([U,.ptr 0 0,U,U,U,U,U,U,U,U,U,U,U,U,U,.d (.bool v1)] ++ us 17)) (fun v1=>⟨[[.d (.int .i64 a0.Kind),.d (.int .i64 a0.Pos),.d (.str a0.Text)]],[]⟩) (fun _=>rfl) ?_ ?_))) h
 refine .ite (fun hb1=>?_) (fun hb1=>?_)
 refine .region fun e h=>?_
 simp only [seval,EMK,fld_44_0,sz_3,ag_3,hb1]
 cases h
 simp only [seval,FMK,hb1]
 refine .bind fun y1 hy2=>.region fun e h=>?_
 simp only [seval,EMK,fld_44_0,sz_3,ag_3,fld_44_2,sz_9,ag_9,hb1]
 refine SpecS.by (strings_Contains_spec hy2) (by simp only [seval,FMK,hb1]) ?_
 simp only [seval,EMK,hb1]
 cases h
 simp only [seval,FMK,hb1]
 intro v1
 refine Mir.toK (.cond rfl (fun hb4=>?_) (fun hb4=>?_))
 refine .sR fun e h=>?_
 simp only [seval,EMK]
 refine mU e (.ret fun e h=>?_) h
 cases h
 simp only [seval,FMK,Tryz.results13]
 refine .skip (Mir.toK (.seqK (.seqK (.bind fun y2 hy5=>.region fun e h=>?_))))
 simp only [seval,EMK,fld_44_2,sz_9,ag_9]
 refine SpecS.by (dc_Parse_spec hy5) (by simp only [seval,FMK]) ?_
 simp only [seval,EMK,zero_53,sz_53]
 refine mU e (.sR fun e h=>?_) h
 simp only [seval,EMK]
 refine mU e (.cond rfl (fun hb7=>?_) (fun hb7=>?_)) h
 refine .sR fun e h=>?_
 simp only [seval,EMK]
 refine mU e (.ret fun e h=>?_) h
 cases h
 simp only [seval,FMK,Tryz.results13]
 refine .skip (Mir.toK (.seqK (.bind fun y3 hy8=>.region fun e h=>?_)))
 simp only [seval,EMK,fld_44_2,sz_9,ag_9]
 refine SpecE.by (strconv_ParseIntE_spec hy8) rfl (fun t1 p1=>?_)
 simp only [seval,EMK]
 refine mU e (.seqK (.sR fun e h=>?_)) h
 simp only [seval,EMK,bx_ne,(nr (by kernel_rfl) : ifaceT Tryz.prog 74 = true)]
 refine mU e (.cond rfl (fun hb10=>?_) (fun hb10=>?_)) h
 refine .sR fun e h=>?_
 simp only [seval,EMK]
 refine mU e (.ret fun e h=>?_) h
 cases h
 simp only [seval,FMK,Tryz.results13]
 refine .skip (Mir.toK (.sR fun e h=>?_))
 simp only [seval,EMK]
 refine mU e (.ret fun e h=>?_) h
 cases h
 simp only [seval,FMK,Tryz.results13]
def r21_Integer (a0 : R21Token) : Option (Int × Bool) := bindO (r01_Parse a0.Text) fun (y1 : ApiInt × Int) => if ((a0.Kind != 2) || (y1.2 != 0)) = true then some (0, false) else bindO (r01_Int64 y1.1) fun (y2 : Int × Bool) => some (y2.1, y2.2)
theorem r21_Integer_spec {a0 : R21Token} {y : Int × Bool} (h : r21_Integer a0 = some y) : Spec gP 14 [.agg [.d (.int .i64 a0.Kind), .d (.int .i64 a0.Pos), .d (.str a0.Text)]] (.tuple [.d (.int .i64 y.1), .d (.bool y.2)]) := by
 refine spec_mir Tryz.func14 rfl (by kernel_rfl) (by kernel_rfl) (fun y : Int × Bool => .tuple [.d (.int .i64 y.1), .d (.bool y.2)]) ?_ h
 unfold r21_Integer
 simp only [List.replicate, List.length, nS, nA, Tryz.ntmps14, SV]
 refine .sR fun e h=>?_
 simp only [seval,EMK]
 refine mU e (.seqK (.bind fun y1 hy1=>.region fun e h=>?_)) h
 simp only [seval,EMK,fld_45_2,sz_9,ag_9]
 refine SpecS.by (r01_Parse_spec hy1) (by simp only [seval,FMK]) ?_
 simp only [seval,EMK,zero_51,sz_51]
 refine mU e (.seqK (.seqK (.joinV ([U,U,U,U,.ptr 1 0,U,U,U,U,U,U,U,U,U,U,U,U,U,.d (.bool ((a0.Kind != 2) || (y1.2 != 0)))] ++ us 4) ⟨[[.d (.int .i64 a0.Kind),.d (.int .i64 a0.Pos),.d (.str a0.Text)],[.d (.bool y1.1.Neg),.d (.list (List.map (eInt .u32) y1.1.Limbs))]],[]⟩ rfl ?_ ?_))) h
 refine SWs.region ?_
 rcases Bool.eq_false_or_eq_true (a0.Kind != 2) with hb2 | hb2
 simp only [seval,EMK,SL,PB,fld_45_0,sz_3,ag_3,hb2]
 simp only [seval,EMK,SL,PB,fld_45_0,sz_3,ag_3,hb2]
 refine Mir.toK (.cond rfl (fun hb4=>?_) (fun hb4=>?_))
 refine .sR fun e h=>?_
 simp only [seval,EMK]
 refine mU e (.ret fun e h=>?_) h
 cases h
 simp only [seval,FMK,Tryz.results14]
 refine .skip (Mir.toK (.seqK (.bind fun y2 hy5=>.region fun e h=>?_)))
 simp only [seval,EMK,ag_51,sz_51]
 refine SpecS.by (r01_Int64_spec hy5) (by simp only [seval,FMK]) ?_
 simp only [seval,EMK]
 refine mU e (.ret fun e h=>?_) h
 cases h
 simp only [seval,FMK,Tryz.results14]
def r21_Length (a0 : R21Token) : Option (ApiRat × Bool) := bindO (r06_Parse a0.Text) fun (y1 : ApiRat × Int) => if ((a0.Kind != 2) || (y1.2 != 0)) = true then some (ApiRat.mk (ApiInt.mk false []) (ApiInt.mk false []), false) else bindO (r02_FromInt64 1000) fun (y2 : ApiRat) => bindO (r02_Mul y1.1 y2) fun (y3 : ApiRat) => some (y3, true)
theorem r21_Length_spec {a0 : R21Token} {y : ApiRat × Bool} (h : r21_Length a0 = some y) : Spec gP 16 [.agg [.d (.int .i64 a0.Kind), .d (.int .i64 a0.Pos), .d (.str a0.Text)]] (.tuple [.agg [.d (.bool y.1.Num.Neg), .d (.list (List.map (eInt .u32) y.1.Num.Limbs)), .d (.bool y.1.Den.Neg), .d (.list (List.map (eInt .u32) y.1.Den.Limbs))], .d (.bool y.2)]) := by
 refine spec_mir Tryz.func16 rfl (by kernel_rfl) (by kernel_rfl) (fun y : ApiRat × Bool => .tuple [.agg [.d (.bool y.1.Num.Neg), .d (.list (List.map (eInt .u32) y.1.Num.Limbs)), .d (.bool y.1.Den.Neg), .d (.list (List.map (eInt .u32) y.1.Den.Limbs))], .d (.bool y.2)]) ?_ h
 unfold r21_Length
 simp only [List.replicate, List.length, nS, nA, Tryz.ntmps16, SV]
 refine .sR fun e h=>?_
 simp only [seval,EMK,zero_53]
 refine mU e (.seqK (.bind fun y1 hy1=>.region fun e h=>?_)) h
 simp only [seval,EMK,fld_45_2,sz_9,ag_9]
 refine SpecS.by (r06_Parse_spec hy1) (by simp only [seval,FMK]) ?_
 simp only [seval,EMK,zero_53,sz_53]
 refine mU e (.seqK (.seqK (.joinV ([U,U,.ptr 1 0,U,.ptr 2 0,U,U,U,U,U,U,U,U,U,U,U,U,U,.d (.bool ((a0.Kind != 2) || (y1.2 != 0)))] ++ us 4) ⟨[[.d (.int .i64 a0.Kind),.d (.int .i64 a0.Pos),.d (.str a0.Text)],[.d (.bool false),.nil,.d (.bool false),.nil],[.d (.bool y1.1.Num.Neg),.d (.list (List.map (eInt .u32) y1.1.Num.Limbs)),.d (.bool y1.1.Den.Neg),.d (.list (List.map (eInt .u32) y1.1.Den.Limbs))]],[]⟩ rfl ?_ ?_))) h
 refine SWs.region ?_
 rcases Bool.eq_false_or_eq_true (a0.Kind != 2) with hb2 | hb2
 simp only [seval,EMK,SL,PB,fld_45_0,sz_3,ag_3,hb2]
 simp only [seval,EMK,SL,PB,fld_45_0,sz_3,ag_3,hb2]
 refine Mir.toK (.cond rfl (fun hb4=>?_) (fun hb4=>?_))
 refine .sR fun e h=>?_
 simp only [seval,EMK,zero_53,pl_53,sz_53]
 refine mU e (.ret fun e h=>?_) h
 cases h
 simp only [seval,FMK,Tryz.results16,ag_53,sz_53]
 refine .skip (Mir.toK (.seqK (.bind fun y2 hy5=>.bind fun y3 hy6=>.regionD [] (by kernel_rfl) fun e h=>?_)))
 simp only [seval,EMK,SB,ag_53,sz_53]
 refine Spec.by (r02_FromInt64_spec hy5) (by simp only [seval,FMK]) ?_
 simp only [seval,EMK,SB]
 refine Spec.by (r02_Mul_spec hy6) (by simp only [seval,FMK]) ?_
 simp only [seval,EMK,SB,sz_53]
 refine mU e (.ret fun e h=>?_) h
 cases h
 simp only [seval,FMK,Tryz.results16,ag_53,sz_53]
def r21_Shape (a0 : (List R21Token)) : Option (List UInt8) := bindO (guardO (okIdx a0) ( rangeX (fun (i1 : Nat) (e1 : R21Token) (v1 : (List UInt8)) => bindO (if (e1.Kind == 1) = true then some [110] else if (e1.Kind == 2) = true then some [100] else if ((e1.Kind == 3) && ((e1.Text.length : Int) == 1)) = true then some e1.Text else some [63]) fun (v2 : (List UInt8)) => guardO (okStr v1 v2) ( some (.go (v1 ++ v2)))) (fun (v1 : (List UInt8)) => some v1) a0 0 [])) fun (v3 : (List UInt8)) => some v3
theorem r21_Shape_spec {a0 : (List R21Token)} {y : (List UInt8)} (h : r21_Shape a0 = some y) : Spec gP 19 [.d (.list (List.map encR21Token a0))] (.d (.str y)) := by
 refine spec_mir Tryz.func19 rfl (by kernel_rfl) (by kernel_rfl) (fun y : (List UInt8) => .d (.str y)) ?_ h
 unfold r21_Shape
 simp only [List.replicate, List.length, nS, nA, Tryz.ntmps19, SV]
 refine .sR fun e h=>?_
 simp only [seval,EMK]
 refine mU e (.sR fun e h=>?_) h
 simp only [seval,EMK]
 refine mU e (.seqK (.sR fun e h=>?_)) h
 simp only [seval,EMK]
 refine mU e (Mir.joinO (fun v3 : (List UInt8)=>([U,U,U,.d (.str v3)] ++ us 47)) (fun v3=>⟨[],[]⟩) (fun _=>rfl) ?_ ?_) h
 refine .block (.guard fun q1=>Mir.range (fun (i1 : Nat) (v1 : (List UInt8))=>([.d (.list (List.map encR21Token a0)),U,U,.d (.str v1),.d (.int .i64 (i1 : Int))] ++ us 46)) (fun i1 v1=>⟨[],[]⟩) q1 (fun _ _=>rfl) (by simp only [seval,FMK,zNI]) (by simp only [seval,FMK,zNI]) ?_ ?_)
 intro i1 e1 v1 q2
 refine .seqK (.sR fun e h=>?_)
 simp only [seval,EMK,und_27,q2]
 refine mU e (.condT rfl (.skip (Mir.toK (.seqK (.block (.sR fun e h=>?_)))))) h
 simp only [seval,EMK]
 refine mU e (.seqK (Mir.joinO (fun v2 : (List UInt8)=>([.d (.list (List.map encR21Token a0)),U,U,.d (.str v1),.d (.int .i64 (i1 : Int)),.d (.str v2)] ++ us 45)) (fun v2=>⟨[],[]⟩) (fun _=>rfl) ?_ ?_)) h
 refine .block (.sR fun e h=>?_)
 simp only [seval,EMK,und_27,sz_45,q2,Int.toNat_natCast,fld_45_0,sz_3,ag_3]
 refine mU e (.cond rfl (fun h1=>?_) (fun h1=>?_)) h
 refine .region fun e h=>?_
 simp only [seval,EMK]
 cases h
 simp only [seval,FMK,Tryz.results19]
 refine .sR fun e h=>?_
 simp only [seval,EMK,und_27,sz_45,q2,Int.toNat_natCast,fld_45_0,sz_3,ag_3]
 refine mU e (.cond rfl (fun h2=>?_) (fun h2=>?_)) h
 refine .region fun e h=>?_
 simp only [seval,EMK]
 cases h
 simp only [seval,FMK,Tryz.results19]
 refine .seqK (.joinV ([.d (.list (List.map encR21Token a0)),U,U,.d (.str v1),.d (.int .i64 (i1 : Int)),.d (.str [63]),U,U,U,U,U,U,U,U,U,U,U,U,U,U,U,U,U,U,U,U,.d (.bool ((e1.Kind == 3) && ((e1.Text.length : Int) == 1)))] ++ us 24) ⟨[],[]⟩ rfl ?_ ?_)
 refine SWs.region ?_
 rcases Bool.eq_false_or_eq_true (e1.Kind == 3) with h3 | h3
 simp only [seval,EMK,SL,PB,und_27,sz_45,q2,Int.toNat_natCast,fld_45_0,sz_3,ag_3,fld_45_2,sz_9,ag_9,und_9,h3]
 simp only [seval,EMK,SL,PB,und_27,sz_45,q2,Int.toNat_natCast,fld_45_0,sz_3,ag_3,h3]
 refine Mir.toK (.cond rfl (fun h4=>?_) (fun h4=>?_))
 refine .region fun e h=>?_
 simp only [seval,EMK,und_27,sz_45,q2,Int.toNat_natCast,fld_45_2,sz_9,ag_9]
 cases h
 simp only [seval,FMK,Tryz.results19]
 refine .skip fun e h=>?_
 cases h
 simp only [seval,FMK,Tryz.results19]
 intro v2
 refine Mir.toK (.guard fun q3=>?_)
 replace q3 := okStr_ok q3
 refine .region fun e h=>?_
 simp only [seval,EMK,q3]
 refine mU e (.region fun e h=>?_) h
 simp only [seval,EMK]
 cases h
 simp only [seval,FMK,Tryz.results19,q2]
 intro v1 q4
 refine .seqK (.sR fun e h=>?_)
 simp only [seval,EMK,und_27,q4]
 refine mU e (.condF rfl (.exit fun e h=>?_)) h
 cases h
 simp only [seval,FMK,Tryz.results19]
 intro v3
 refine Mir.toK (.sR fun e h=>?_)
 simp only [seval,EMK]
 refine mU e (.ret fun e h=>?_) h
 cases h
 simp only [seval,FMK,Tryz.results19]
end Go.Proofs.YtpdjgamdnjfmkaaGreatDoor
