import Derived.Test.YtplhejpjnfjopaaGreatDoorSy2
import Derived.Laws.StructEq
import Derived.ChangeKeysEq
open List renaming map_cons → zA,map_nil → zB
namespace Go.Proofs.YtplhejpjnfjopaaGreatDoor
open Go.RowKit
set_option linter.unusedSimpArgs false
@[simp] theorem und_2:Tryz.prog.underlying 2=some (.int .i64):=nr (by kernel_rfl)
@[simp] theorem sz_2:sizeT Tryz.prog 2=some 1:=nr (by kernel_rfl)
@[simp] theorem ag_2:aggT Tryz.prog 2=some false:=nr (by kernel_rfl)
@[simp] theorem kH:zeroV Tryz.prog 2=some (.d (.int .i64 0)):=nr (by kernel_rfl)
@[simp] theorem und_3:Tryz.prog.underlying 3=some (.int .i64):=nr (by kernel_rfl)
@[simp] theorem sz_3:sizeT Tryz.prog 3=some 1:=nr (by kernel_rfl)
@[simp] theorem ag_3:aggT Tryz.prog 3=some false:=nr (by kernel_rfl)
@[simp] theorem gR:zeroV Tryz.prog 3=some (.d (.int .i64 0)):=nr (by kernel_rfl)
@[simp] theorem und_4:Tryz.prog.underlying 4=some (.bool):=nr (by kernel_rfl)
@[simp] theorem sz_4:sizeT Tryz.prog 4=some 1:=nr (by kernel_rfl)
@[simp] theorem ag_4:aggT Tryz.prog 4=some false:=nr (by kernel_rfl)
@[simp] theorem zero_4:zeroV Tryz.prog 4=some (.d (.bool false)):=nr (by kernel_rfl)
@[simp] theorem und_5:Tryz.prog.underlying 5=some (.int .u8):=nr (by kernel_rfl)
@[simp] theorem sz_5:sizeT Tryz.prog 5=some 1:=nr (by kernel_rfl)
@[simp] theorem ag_5:aggT Tryz.prog 5=some false:=nr (by kernel_rfl)
@[simp] theorem zero_5:zeroV Tryz.prog 5=some (.d (.int .u8 0)):=nr (by kernel_rfl)
@[simp] theorem und_9:Tryz.prog.underlying 9=some (.string):=nr (by kernel_rfl)
@[simp] theorem sz_9:sizeT Tryz.prog 9=some 1:=nr (by kernel_rfl)
@[simp] theorem ag_9:aggT Tryz.prog 9=some false:=nr (by kernel_rfl)
@[simp] theorem zero_9:zeroV Tryz.prog 9=some (.d (.str [])):=nr (by kernel_rfl)
@[simp] theorem und_21:Tryz.prog.underlying 21=some (.int .i32):=nr (by kernel_rfl)
@[simp] theorem und_22:Tryz.prog.underlying 22=some (.slice 106):=nr (by kernel_rfl)
@[simp] theorem sz_24:sizeT Tryz.prog 24=some 3:=nr (by kernel_rfl)
@[simp] theorem ag_24:aggT Tryz.prog 24=some true:=nr (by kernel_rfl)
@[simp] theorem bl:zeroV Tryz.prog 24=some (.agg [.d (.int .i64 0),.d (.int .i64 0),.d (.int .i64 0)]):=nr (by kernel_rfl)
@[simp] theorem bG:aN Tryz.prog 24 0=some (0,2):=nr (by kernel_rfl)
@[simp] theorem bM:aN Tryz.prog 24 1=some (1,2):=nr (by kernel_rfl)
@[simp] theorem cv:aN Tryz.prog 24 2=some (2,2):=nr (by kernel_rfl)
@[simp] theorem pl_24:cw Tryz.prog 24=some (.struct [(0,1),(1,1),(2,1)]):=nr (by kernel_rfl)
@[simp] theorem sz_33:sizeT Tryz.prog 33=some 4:=nr (by kernel_rfl)
@[simp] theorem ag_33:aggT Tryz.prog 33=some true:=nr (by kernel_rfl)
@[simp] theorem zero_33:zeroV Tryz.prog 33=some (.agg [.d (.int .i64 0),.d (.bool false),.d (.int .i64 0),.d (.int .i64 0)]):=nr (by kernel_rfl)
@[simp] theorem je:aN Tryz.prog 33 0=some (0,2):=nr (by kernel_rfl)
@[simp] theorem fld_33_1:aN Tryz.prog 33 1=some (1,4):=nr (by kernel_rfl)
@[simp] theorem kv:aN Tryz.prog 33 2=some (2,2):=nr (by kernel_rfl)
@[simp] theorem fld_33_3:aN Tryz.prog 33 3=some (3,3):=nr (by kernel_rfl)
@[simp] theorem pl_33:cw Tryz.prog 33=some (.struct [(0,1),(1,1),(2,1),(3,1)]):=nr (by kernel_rfl)
@[simp] theorem und_35:Tryz.prog.underlying 35=some (.array 6 24):=nr (by kernel_rfl)
@[simp] theorem sz_35:sizeT Tryz.prog 35=some 18:=nr (by kernel_rfl)
@[simp] theorem fM:Tryz.prog.underlying 36=some (.slice 68):=nr (by kernel_rfl)
@[simp] theorem sz_36:sizeT Tryz.prog 36=some 1:=nr (by kernel_rfl)
@[simp] theorem ag_36:aggT Tryz.prog 36=some false:=nr (by kernel_rfl)
@[simp] theorem app_36:appT Tryz.prog 36=some (68,2):=nr (by kernel_rfl)
@[simp] theorem sz_38:sizeT Tryz.prog 38=some 19:=nr (by kernel_rfl)
@[simp] theorem ag_38:aggT Tryz.prog 38=some true:=nr (by kernel_rfl)
@[simp] theorem zero_38:zeroV Tryz.prog 38=some (.agg [.d (.int .i64 0),.d (.int .i64 0),.d (.int .i64 0),.d (.int .i64 0),.d (.int .i64 0),.d (.int .i64 0),.d (.int .i64 0),.d (.int .i64 0),.d (.int .i64 0),.d (.int .i64 0),.d (.int .i64 0),.d (.int .i64 0),.d (.int .i64 0),.d (.int .i64 0),.d (.int .i64 0),.d (.int .i64 0),.d (.int .i64 0),.d (.int .i64 0),.nil]):=nr (by kernel_rfl)
@[simp] theorem g7:aN Tryz.prog 38 0=some (0,35):=nr (by kernel_rfl)
@[simp] theorem dN:aN Tryz.prog 38 1=some (18,36):=nr (by kernel_rfl)
@[simp] theorem pl_38:cw Tryz.prog 38=some (.struct [(0,18),(18,1)]):=nr (by kernel_rfl)
@[simp] theorem cW:Tryz.prog.underlying 40=some (.slice 47):=nr (by kernel_rfl)
@[simp] theorem app_40:appT Tryz.prog 40=some (47,9):=nr (by kernel_rfl)
@[simp] theorem sz_42:sizeT Tryz.prog 42=some 2:=nr (by kernel_rfl)
@[simp] theorem ag_42:aggT Tryz.prog 42=some true:=nr (by kernel_rfl)
@[simp] theorem cq:zeroV Tryz.prog 42=some (.agg [.d (.int .i64 0),.d (.int .i64 0)]):=nr (by kernel_rfl)
@[simp] theorem pl_42:cw Tryz.prog 42=some (.struct [(0,1),(1,1)]):=nr (by kernel_rfl)
@[simp] theorem sz_47:sizeT Tryz.prog 47=some 9:=nr (by kernel_rfl)
@[simp] theorem ag_47:aggT Tryz.prog 47=some true:=nr (by kernel_rfl)
@[simp] theorem zero_47:zeroV Tryz.prog 47=some (.agg [.d (.int .i64 0),.d (.int .i64 0),.d (.int .i64 0),.d (.int .i64 0),.d (.int .i64 0),.d (.int .i64 0),.d (.int .i64 0),.d (.int .i64 0),.d (.int .i64 0)]):=nr (by kernel_rfl)
@[simp] theorem fld_47_0:aN Tryz.prog 47 0=some (0,24):=nr (by kernel_rfl)
@[simp] theorem fld_47_1:aN Tryz.prog 47 1=some (3,24):=nr (by kernel_rfl)
@[simp] theorem fld_47_2:aN Tryz.prog 47 2=some (6,2):=nr (by kernel_rfl)
@[simp] theorem fld_47_3:aN Tryz.prog 47 3=some (7,3):=nr (by kernel_rfl)
@[simp] theorem fld_47_4:aN Tryz.prog 47 4=some (8,3):=nr (by kernel_rfl)
@[simp] theorem pl_47:cw Tryz.prog 47=some (.struct [(0,3),(3,3),(6,1),(7,1),(8,1)]):=nr (by kernel_rfl)
@[simp] theorem aE:Tryz.prog.underlying 50=some (.slice 58):=nr (by kernel_rfl)
@[simp] theorem sz_50:sizeT Tryz.prog 50=some 1:=nr (by kernel_rfl)
@[simp] theorem ag_50:aggT Tryz.prog 50=some false:=nr (by kernel_rfl)
@[simp] theorem iB:zeroV Tryz.prog 50=some (.nil):=nr (by kernel_rfl)
@[simp] theorem bh:appT Tryz.prog 50=some (58,3):=nr (by kernel_rfl)
@[simp] theorem br:Tryz.prog.underlying 56=some (.slice 101):=nr (by kernel_rfl)
@[simp] theorem sz_56:sizeT Tryz.prog 56=some 1:=nr (by kernel_rfl)
@[simp] theorem ag_56:aggT Tryz.prog 56=some false:=nr (by kernel_rfl)
@[simp] theorem app_56:appT Tryz.prog 56=some (101,2):=nr (by kernel_rfl)
@[simp] theorem sz_58:sizeT Tryz.prog 58=some 3:=nr (by kernel_rfl)
@[simp] theorem ag_58:aggT Tryz.prog 58=some true:=nr (by kernel_rfl)
@[simp] theorem aC:zeroV Tryz.prog 58=some (.agg [.d (.bool false),.nil,.d (.str [])]):=nr (by kernel_rfl)
@[simp] theorem jd:aN Tryz.prog 58 0=some (0,4):=nr (by kernel_rfl)
@[simp] theorem bL:aN Tryz.prog 58 1=some (1,56):=nr (by kernel_rfl)
@[simp] theorem gZ:aN Tryz.prog 58 2=some (2,9):=nr (by kernel_rfl)
@[simp] theorem pl_58:cw Tryz.prog 58=some (.struct [(0,1),(1,1),(2,1)]):=nr (by kernel_rfl)
@[simp] theorem cn:Tryz.prog.underlying 64=some (.slice 2):=nr (by kernel_rfl)
@[simp] theorem sz_64:sizeT Tryz.prog 64=some 1:=nr (by kernel_rfl)
@[simp] theorem ag_64:aggT Tryz.prog 64=some false:=nr (by kernel_rfl)
@[simp] theorem app_64:appT Tryz.prog 64=some (2,1):=nr (by kernel_rfl)
@[simp] theorem sz_68:sizeT Tryz.prog 68=some 2:=nr (by kernel_rfl)
@[simp] theorem ag_68:aggT Tryz.prog 68=some true:=nr (by kernel_rfl)
@[simp] theorem ia:zeroV Tryz.prog 68=some (.agg [.d (.int .i64 0),.d (.int .i64 0)]):=nr (by kernel_rfl)
@[simp] theorem ku:aN Tryz.prog 68 0=some (0,2):=nr (by kernel_rfl)
@[simp] theorem fld_68_1:aN Tryz.prog 68 1=some (1,2):=nr (by kernel_rfl)
@[simp] theorem pl_68:cw Tryz.prog 68=some (.struct [(0,1),(1,1)]):=nr (by kernel_rfl)
@[simp] theorem fi:Tryz.prog.underlying 69=some (.slice 131):=nr (by kernel_rfl)
@[simp] theorem sz_69:sizeT Tryz.prog 69=some 1:=nr (by kernel_rfl)
@[simp] theorem ag_69:aggT Tryz.prog 69=some false:=nr (by kernel_rfl)
@[simp] theorem app_69:appT Tryz.prog 69=some (131,2):=nr (by kernel_rfl)
@[simp] theorem sz_71:sizeT Tryz.prog 71=some 2:=nr (by kernel_rfl)
@[simp] theorem ag_71:aggT Tryz.prog 71=some true:=nr (by kernel_rfl)
@[simp] theorem fE:zeroV Tryz.prog 71=some (.agg [.nil,.nil]):=nr (by kernel_rfl)
@[simp] theorem de:aN Tryz.prog 71 0=some (0,50):=nr (by kernel_rfl)
@[simp] theorem fY:aN Tryz.prog 71 1=some (1,69):=nr (by kernel_rfl)
@[simp] theorem pl_71:cw Tryz.prog 71=some (.struct [(0,1),(1,1)]):=nr (by kernel_rfl)
@[simp] theorem und_80:Tryz.prog.underlying 80=some (.int .i16):=nr (by kernel_rfl)
@[simp] theorem sz_80:sizeT Tryz.prog 80=some 1:=nr (by kernel_rfl)
@[simp] theorem ag_80:aggT Tryz.prog 80=some false:=nr (by kernel_rfl)
@[simp] theorem und_81:Tryz.prog.underlying 81=some (.int .u16):=nr (by kernel_rfl)
@[simp] theorem sz_81:sizeT Tryz.prog 81=some 1:=nr (by kernel_rfl)
@[simp] theorem ag_81:aggT Tryz.prog 81=some false:=nr (by kernel_rfl)
@[simp] theorem fld_83_0:aN Tryz.prog 83 0=some (0,5):=nr (by kernel_rfl)
@[simp] theorem fld_83_1:aN Tryz.prog 83 1=some (1,5):=nr (by kernel_rfl)
@[simp] theorem fld_83_2:aN Tryz.prog 83 2=some (2,80):=nr (by kernel_rfl)
@[simp] theorem fld_83_3:aN Tryz.prog 83 3=some (3,80):=nr (by kernel_rfl)
@[simp] theorem fld_83_4:aN Tryz.prog 83 4=some (4,81):=nr (by kernel_rfl)
@[simp] theorem fld_83_5:aN Tryz.prog 83 5=some (5,5):=nr (by kernel_rfl)
@[simp] theorem fld_83_6:aN Tryz.prog 83 6=some (6,4):=nr (by kernel_rfl)
@[simp] theorem ie:Tryz.prog.underlying 84=some (.slice 91):=nr (by kernel_rfl)
@[simp] theorem sz_86:sizeT Tryz.prog 86=some 7:=nr (by kernel_rfl)
@[simp] theorem ag_86:aggT Tryz.prog 86=some true:=nr (by kernel_rfl)
@[simp] theorem bH:zeroV Tryz.prog 86=some (.agg [.d (.int .i64 0),.d (.int .i64 0),.d (.int .i64 0),.d (.int .i64 0),.d (.int .i64 0),.d (.int .i64 0),.d (.bool false)]):=nr (by kernel_rfl)
@[simp] theorem dc:aN Tryz.prog 86 0=some (0,2):=nr (by kernel_rfl)
@[simp] theorem bF:aN Tryz.prog 86 1=some (1,2):=nr (by kernel_rfl)
@[simp] theorem bS:aN Tryz.prog 86 2=some (2,2):=nr (by kernel_rfl)
@[simp] theorem jc:aN Tryz.prog 86 3=some (3,2):=nr (by kernel_rfl)
@[simp] theorem d5:aN Tryz.prog 86 4=some (4,2):=nr (by kernel_rfl)
@[simp] theorem cu:aN Tryz.prog 86 5=some (5,2):=nr (by kernel_rfl)
@[simp] theorem fld_86_6:aN Tryz.prog 86 6=some (6,4):=nr (by kernel_rfl)
@[simp] theorem pl_86:cw Tryz.prog 86=some (.struct [(0,1),(1,1),(2,1),(3,1),(4,1),(5,1),(6,1)]):=nr (by kernel_rfl)
@[simp] theorem sz_91:sizeT Tryz.prog 91=some 2:=nr (by kernel_rfl)
@[simp] theorem ag_91:aggT Tryz.prog 91=some true:=nr (by kernel_rfl)
@[simp] theorem zero_91:zeroV Tryz.prog 91=some (.agg [.d (.int .i64 0),.d (.int .i64 0)]):=nr (by kernel_rfl)
@[simp] theorem bE:aN Tryz.prog 91 0=some (0,2):=nr (by kernel_rfl)
@[simp] theorem ca:aN Tryz.prog 91 1=some (1,2):=nr (by kernel_rfl)
@[simp] theorem pl_91:cw Tryz.prog 91=some (.struct [(0,1),(1,1)]):=nr (by kernel_rfl)
@[simp] theorem sz_95:sizeT Tryz.prog 95=some 7:=nr (by kernel_rfl)
@[simp] theorem ag_95:aggT Tryz.prog 95=some true:=nr (by kernel_rfl)
@[simp] theorem fD:zeroV Tryz.prog 95=some (.agg [.d (.int .i64 0),.d (.int .i64 0),.d (.int .i64 0),.d (.int .i64 0),.d (.int .i64 0),.d (.int .i64 0),.d (.int .i64 0)]):=nr (by kernel_rfl)
@[simp] theorem db:aN Tryz.prog 95 0=some (0,3):=nr (by kernel_rfl)
@[simp] theorem b9:aN Tryz.prog 95 1=some (1,24):=nr (by kernel_rfl)
@[simp] theorem dM:aN Tryz.prog 95 2=some (4,91):=nr (by kernel_rfl)
@[simp] theorem fX:aN Tryz.prog 95 3=some (6,2):=nr (by kernel_rfl)
@[simp] theorem pl_95:cw Tryz.prog 95=some (.struct [(0,1),(1,3),(4,2),(6,1)]):=nr (by kernel_rfl)
@[simp] theorem gS:Tryz.prog.underlying 97=some (.slice 95):=nr (by kernel_rfl)
@[simp] theorem sz_97:sizeT Tryz.prog 97=some 1:=nr (by kernel_rfl)
@[simp] theorem ag_97:aggT Tryz.prog 97=some false:=nr (by kernel_rfl)
@[simp] theorem zero_97:zeroV Tryz.prog 97=some (.nil):=nr (by kernel_rfl)
@[simp] theorem app_97:appT Tryz.prog 97=some (95,7):=nr (by kernel_rfl)
@[simp] theorem bP:sizeT Tryz.prog 101=some 2:=nr (by kernel_rfl)
@[simp] theorem ju:aggT Tryz.prog 101=some true:=nr (by kernel_rfl)
@[simp] theorem bk:zeroV Tryz.prog 101=some (.agg [.d (.int .u8 0),.d (.int .i64 0)]):=nr (by kernel_rfl)
@[simp] theorem cr:aN Tryz.prog 101 0=some (0,5):=nr (by kernel_rfl)
@[simp] theorem bu:aN Tryz.prog 101 1=some (1,2):=nr (by kernel_rfl)
@[simp] theorem jO:cw Tryz.prog 101=some (.struct [(0,1),(1,1)]):=nr (by kernel_rfl)
@[simp] theorem sz_106:sizeT Tryz.prog 106=some 2:=nr (by kernel_rfl)
@[simp] theorem ag_106:aggT Tryz.prog 106=some true:=nr (by kernel_rfl)
@[simp] theorem zero_106:zeroV Tryz.prog 106=some (.agg [.d (.int .i64 0),.nil]):=nr (by kernel_rfl)
@[simp] theorem fld_106_0:aN Tryz.prog 106 0=some (0,3):=nr (by kernel_rfl)
@[simp] theorem fld_106_1:aN Tryz.prog 106 1=some (1,97):=nr (by kernel_rfl)
@[simp] theorem pl_106:cw Tryz.prog 106=some (.struct [(0,1),(1,1)]):=nr (by kernel_rfl)
@[simp] theorem gq:Tryz.prog.underlying 110=some (.slice 24):=nr (by kernel_rfl)
@[simp] theorem app_110:appT Tryz.prog 110=some (24,3):=nr (by kernel_rfl)
@[simp] theorem und_123:Tryz.prog.underlying 123=some (.slice 5):=nr (by kernel_rfl)
@[simp] theorem sz_123:sizeT Tryz.prog 123=some 1:=nr (by kernel_rfl)
@[simp] theorem ag_123:aggT Tryz.prog 123=some false:=nr (by kernel_rfl)
@[simp] theorem app_123:appT Tryz.prog 123=some (5,1):=nr (by kernel_rfl)
@[simp] theorem fF:Tryz.prog.underlying 126=some (.map 5 3):=nr (by kernel_rfl)
@[simp] theorem kM:sizeT Tryz.prog 131=some 2:=nr (by kernel_rfl)
@[simp] theorem ag_131:aggT Tryz.prog 131=some true:=nr (by kernel_rfl)
@[simp] theorem iC:zeroV Tryz.prog 131=some (.agg [.d (.int .i64 0),.nil]):=nr (by kernel_rfl)
@[simp] theorem ix:aN Tryz.prog 131 0=some (0,2):=nr (by kernel_rfl)
@[simp] theorem fld_131_1:aN Tryz.prog 131 1=some (1,50):=nr (by kernel_rfl)
@[simp] theorem pl_131:cw Tryz.prog 131=some (.struct [(0,1),(1,1)]):=nr (by kernel_rfl)
@[simp] theorem fld_134_1:aN Tryz.prog 134 1=some (1,123):=nr (by kernel_rfl)
@[simp] theorem aS:sizeT Tryz.prog 143=some 8:=nr (by kernel_rfl)
@[simp] theorem bp:aggT Tryz.prog 143=some true:=nr (by kernel_rfl)
@[simp] theorem bR:zeroV Tryz.prog 143=some (.agg [.d (.int .i64 0),.d (.int .i64 0),.d (.int .i64 0),.d (.int .i64 0),.d (.int .i64 0),.d (.int .i64 0),.d (.int .i64 0),.d (.int .i64 0)]):=nr (by kernel_rfl)
@[simp] theorem cc:aN Tryz.prog 143 0=some (0,2):=nr (by kernel_rfl)
@[simp] theorem fld_143_1:aN Tryz.prog 143 1=some (1,2):=nr (by kernel_rfl)
@[simp] theorem fld_143_2:aN Tryz.prog 143 2=some (2,2):=nr (by kernel_rfl)
@[simp] theorem fld_143_3:aN Tryz.prog 143 3=some (3,2):=nr (by kernel_rfl)
@[simp] theorem fld_143_4:aN Tryz.prog 143 4=some (4,2):=nr (by kernel_rfl)
@[simp] theorem iw:aN Tryz.prog 143 5=some (5,2):=nr (by kernel_rfl)
@[simp] theorem fld_143_6:aN Tryz.prog 143 6=some (6,2):=nr (by kernel_rfl)
@[simp] theorem fld_143_7:aN Tryz.prog 143 7=some (7,2):=nr (by kernel_rfl)
@[simp] theorem kU:cw Tryz.prog 143=some (.struct [(0,1),(1,1),(2,1),(3,1),(4,1),(5,1),(6,1),(7,1)]):=nr (by kernel_rfl)
@[simp] theorem und_153:Tryz.prog.underlying 153=some (.array 5 2):=nr (by kernel_rfl)
@[simp] theorem und_181:Tryz.prog.underlying 181=some (.slice 9):=nr (by kernel_rfl)
@[simp] theorem app_181:appT Tryz.prog 181=some (9,1):=nr (by kernel_rfl)
@[simp] theorem und_189:Tryz.prog.underlying 189=some (.slice 193):=nr (by kernel_rfl)
@[simp] theorem app_189:appT Tryz.prog 189=some (193,4):=nr (by kernel_rfl)
@[simp] theorem sz_193:sizeT Tryz.prog 193=some 4:=nr (by kernel_rfl)
@[simp] theorem ag_193:aggT Tryz.prog 193=some true:=nr (by kernel_rfl)
@[simp] theorem zero_193:zeroV Tryz.prog 193=some (.agg [.d (.int .i64 0),.d (.int .i64 0),.d (.int .i64 0),.d (.int .i64 0)]):=nr (by kernel_rfl)
@[simp] theorem fld_193_0:aN Tryz.prog 193 0=some (0,24):=nr (by kernel_rfl)
@[simp] theorem fld_193_1:aN Tryz.prog 193 1=some (3,2):=nr (by kernel_rfl)
@[simp] theorem pl_193:cw Tryz.prog 193=some (.struct [(0,3),(3,1)]):=nr (by kernel_rfl)
@[simp] theorem und_196:Tryz.prog.underlying 196=some (.int .u64):=nr (by kernel_rfl)
@[simp] theorem sz_220:sizeT Tryz.prog 220=some 5:=nr (by kernel_rfl)
@[simp] theorem zero_220:zeroV Tryz.prog 220=some (.agg [.d (.str []),.d (.int .i64 0),.d (.bool false),.nil,.d (.str [])]):=nr (by kernel_rfl)
@[simp] theorem bw:aN Tryz.prog 220 0=some (0,9):=nr (by kernel_rfl)
@[simp] theorem bo:aN Tryz.prog 220 1=some (1,3):=nr (by kernel_rfl)
@[simp] theorem jU:aN Tryz.prog 220 2=some (2,58):=nr (by kernel_rfl)
@[simp] theorem pl_220:cw Tryz.prog 220=some (.struct [(0,1),(1,1),(2,3)]):=nr (by kernel_rfl)
@[simp] theorem jB:Tryz.prog.underlying 229=some (.map 2 50):=nr (by kernel_rfl)
@[simp] theorem kL:sizeT Tryz.prog 229=some 1:=nr (by kernel_rfl)
@[simp] theorem ag_229:aggT Tryz.prog 229=some false:=nr (by kernel_rfl)
@[simp] theorem und_230:Tryz.prog.underlying 230=some (.map 2 3):=nr (by kernel_rfl)
@[simp] theorem sz_230:sizeT Tryz.prog 230=some 1:=nr (by kernel_rfl)
@[simp] theorem ag_230:aggT Tryz.prog 230=some false:=nr (by kernel_rfl)
@[simp] theorem und_231:Tryz.prog.underlying 231=some (.map 2 2):=nr (by kernel_rfl)
@[simp] theorem sz_231:sizeT Tryz.prog 231=some 1:=nr (by kernel_rfl)
@[simp] theorem ag_231:aggT Tryz.prog 231=some false:=nr (by kernel_rfl)
@[simp] theorem zero_233:zeroV Tryz.prog 233=some (.agg [.d (.other (.map none)),.d (.other (.map none)),.d (.other (.map none)),.d (.other (.map none)),.d (.other (.map none))]):=nr (by kernel_rfl)
@[simp] theorem iv:aN Tryz.prog 233 0=some (0,229):=nr (by kernel_rfl)
@[simp] theorem fld_233_1:aN Tryz.prog 233 1=some (1,230):=nr (by kernel_rfl)
@[simp] theorem fld_233_2:aN Tryz.prog 233 2=some (2,230):=nr (by kernel_rfl)
@[simp] theorem fld_233_3:aN Tryz.prog 233 3=some (3,231):=nr (by kernel_rfl)
@[simp] theorem fld_233_4:aN Tryz.prog 233 4=some (4,229):=nr (by kernel_rfl)
@[simp] theorem pl_233:cw Tryz.prog 233=some (.struct [(0,1),(1,1),(2,1),(3,1),(4,1)]):=nr (by kernel_rfl)
@[simp] theorem und_240:Tryz.prog.underlying 240=some (.map 5 4):=nr (by kernel_rfl)
@[simp] theorem und_241:Tryz.prog.underlying 241=some (.map 3 4):=nr (by kernel_rfl)
@[simp] theorem lb:Tryz.prog.underlying 258=some (.slice 50):=nr (by kernel_rfl)
@[simp] theorem app_258:appT Tryz.prog 258=some (50,1):=nr (by kernel_rfl)
@[simp] theorem jl:sizeT Tryz.prog 267=some 1:=nr (by kernel_rfl)
@[simp] theorem j9:aggT Tryz.prog 267=some false:=nr (by kernel_rfl)
@[simp] theorem zero_267:zeroV Tryz.prog 267=some (.d (.other (.pointer none))):=nr (by kernel_rfl)
@[simp] theorem und_268:Tryz.prog.underlying 268=some (.slice 267):=nr (by kernel_rfl)
@[simp] theorem sz_269:sizeT Tryz.prog 269=some 2:=nr (by kernel_rfl)
@[simp] theorem ag_269:aggT Tryz.prog 269=some true:=nr (by kernel_rfl)
@[simp] theorem zero_269:zeroV Tryz.prog 269=some (.agg [.d (.int .u8 0),.d (.other (.pointer none))]):=nr (by kernel_rfl)
@[simp] theorem fld_269_0:aN Tryz.prog 269 0=some (0,5):=nr (by kernel_rfl)
@[simp] theorem iu:aN Tryz.prog 269 1=some (1,267):=nr (by kernel_rfl)
@[simp] theorem pl_269:cw Tryz.prog 269=some (.struct [(0,1),(1,1)]):=nr (by kernel_rfl)
@[simp] theorem und_270:Tryz.prog.underlying 270=some (.slice 269):=nr (by kernel_rfl)
@[simp] theorem und_278:Tryz.prog.underlying 278=some (.int .u64):=nr (by kernel_rfl)
theorem eq_24:EqOk Tryz.prog 24 [.int .i64,.int .i64,.int .i64]:=by
 refine⟨by kernel_rfl,λxs ys hx hy w=>?_⟩
 obtain⟨xa0,ra0,ea0,ka0,hx0⟩:=aH hx
 obtain⟨a0,rfl⟩:=aP ka0
 obtain⟨xa1,ra1,ea1,ka1,hx1⟩:=aH hx0
 obtain⟨a1,rfl⟩:=aP ka1
 obtain⟨xa2,ra2,ea2,ka2,hx2⟩:=aH hx1
 obtain⟨a2,rfl⟩:=aP ka2
 have za:=dh hx2
 subst za
 subst ea2
 subst ea1
 subst ea0
 obtain⟨xb0,rb0,eb0,kb0,hy0⟩:=aH hy
 obtain⟨b0,rfl⟩:=aP kb0
 obtain⟨xb1,rb1,eb1,kb1,hy1⟩:=aH hy0
 obtain⟨b1,rfl⟩:=aP kb1
 obtain⟨xb2,rb2,eb2,kb2,hy2⟩:=aH hy1
 obtain⟨b2,rfl⟩:=aP kb2
 have zb:=dh hy2
 subst zb
 subst eb2
 subst eb1
 subst eb0
 have hS:Tryz.prog.underlying 24=some (.struct (Tryz.prog.fieldsOf 24)):=by kernel_rfl
 simp only[Op.equal,Op.maxDepth]
 rw[show (10000:Nat)=9999+1 from rfl,run_equalIn_agg w 9999 24 _ _ hS (by kernel_rfl)]
 simp only[Program.fieldsOf,Tryz.underlying24,zA,zB,D.val]
 go_simp
 simp only[eqAll,eqD]
 refine Decidable.byCases (p:=a0=b0) (λh0=>?_) (λh0=>by simp[h0])
 refine Decidable.byCases (p:=a1=b1) (λh1=>?_) (λh1=>by simp[h0,h1])
 refine Decidable.byCases (p:=a2=b2) (λh2=>?_) (λh2=>by simp[h0,h1,h2])
 simp[h0,h1,h2]
theorem eq_42:EqOk Tryz.prog 42 [.int .i64,.int .i64]:=by
 refine⟨by kernel_rfl,λxs ys hx hy w=>?_⟩
 obtain⟨xa0,ra0,ea0,ka0,hx0⟩:=aH hx
 obtain⟨a0,rfl⟩:=aP ka0
 obtain⟨xa1,ra1,ea1,ka1,hx1⟩:=aH hx0
 obtain⟨a1,rfl⟩:=aP ka1
 have za:=dh hx1
 subst za
 subst ea1
 subst ea0
 obtain⟨xb0,rb0,eb0,kb0,hy0⟩:=aH hy
 obtain⟨b0,rfl⟩:=aP kb0
 obtain⟨xb1,rb1,eb1,kb1,hy1⟩:=aH hy0
 obtain⟨b1,rfl⟩:=aP kb1
 have zb:=dh hy1
 subst zb
 subst eb1
 subst eb0
 have hS:Tryz.prog.underlying 42=some (.struct (Tryz.prog.fieldsOf 42)):=by kernel_rfl
 simp only[Op.equal,Op.maxDepth]
 rw[show (10000:Nat)=9999+1 from rfl,run_equalIn_agg w 9999 42 _ _ hS (by kernel_rfl)]
 simp only[Program.fieldsOf,Tryz.underlying42,zA,zB,D.val]
 go_simp
 simp only[eqAll,eqD]
 refine Decidable.byCases (p:=a0=b0) (λh0=>?_) (λh0=>by simp[h0])
 refine Decidable.byCases (p:=a1=b1) (λh1=>?_) (λh1=>by simp[h0,h1])
 simp[h0,h1]
theorem eq_47:EqOk Tryz.prog 47 [.int .i64,.int .i64,.int .i64,.int .i64,.int .i64,.int .i64,.int .i64,.int .i64,.int .i64]:=by
 refine⟨by kernel_rfl,λxs ys hx hy w=>?_⟩
 obtain⟨xa0,ra0,ea0,ka0,hx0⟩:=aH hx
 obtain⟨a0,rfl⟩:=aP ka0
 obtain⟨xa1,ra1,ea1,ka1,hx1⟩:=aH hx0
 obtain⟨a1,rfl⟩:=aP ka1
 obtain⟨xa2,ra2,ea2,ka2,hx2⟩:=aH hx1
 obtain⟨a2,rfl⟩:=aP ka2
 obtain⟨xa3,ra3,ea3,ka3,hx3⟩:=aH hx2
 obtain⟨a3,rfl⟩:=aP ka3
 obtain⟨xa4,ra4,ea4,ka4,hx4⟩:=aH hx3
 obtain⟨a4,rfl⟩:=aP ka4
 obtain⟨xa5,ra5,ea5,ka5,hx5⟩:=aH hx4
 obtain⟨a5,rfl⟩:=aP ka5
 obtain⟨xa6,ra6,ea6,ka6,hx6⟩:=aH hx5
 obtain⟨a6,rfl⟩:=aP ka6
 obtain⟨xa7,ra7,ea7,ka7,hx7⟩:=aH hx6
 obtain⟨a7,rfl⟩:=aP ka7
 obtain⟨xa8,ra8,ea8,ka8,hx8⟩:=aH hx7
 obtain⟨a8,rfl⟩:=aP ka8
 have za:=dh hx8
 subst za
 subst ea8
 subst ea7
 subst ea6
 subst ea5
 subst ea4
 subst ea3
 subst ea2
 subst ea1
 subst ea0
 obtain⟨xb0,rb0,eb0,kb0,hy0⟩:=aH hy
 obtain⟨b0,rfl⟩:=aP kb0
 obtain⟨xb1,rb1,eb1,kb1,hy1⟩:=aH hy0
 obtain⟨b1,rfl⟩:=aP kb1
 obtain⟨xb2,rb2,eb2,kb2,hy2⟩:=aH hy1
 obtain⟨b2,rfl⟩:=aP kb2
 obtain⟨xb3,rb3,eb3,kb3,hy3⟩:=aH hy2
 obtain⟨b3,rfl⟩:=aP kb3
 obtain⟨xb4,rb4,eb4,kb4,hy4⟩:=aH hy3
 obtain⟨b4,rfl⟩:=aP kb4
 obtain⟨xb5,rb5,eb5,kb5,hy5⟩:=aH hy4
 obtain⟨b5,rfl⟩:=aP kb5
 obtain⟨xb6,rb6,eb6,kb6,hy6⟩:=aH hy5
 obtain⟨b6,rfl⟩:=aP kb6
 obtain⟨xb7,rb7,eb7,kb7,hy7⟩:=aH hy6
 obtain⟨b7,rfl⟩:=aP kb7
 obtain⟨xb8,rb8,eb8,kb8,hy8⟩:=aH hy7
 obtain⟨b8,rfl⟩:=aP kb8
 have zb:=dh hy8
 subst zb
 subst eb8
 subst eb7
 subst eb6
 subst eb5
 subst eb4
 subst eb3
 subst eb2
 subst eb1
 subst eb0
 have hS:Tryz.prog.underlying 47=some (.struct (Tryz.prog.fieldsOf 47)):=by kernel_rfl
 simp only[Op.equal,Op.maxDepth]
 rw[show (10000:Nat)=9999+1 from rfl,run_equalIn_agg w 9999 47 _ _ hS (by kernel_rfl)]
 simp only[Program.fieldsOf,Tryz.underlying47,zA,zB,D.val]
 go_simp
 simp only[eqAll,eqD]
 refine Decidable.byCases (p:=a0=b0) (λh0=>?_) (λh0=>by simp[h0])
 refine Decidable.byCases (p:=a1=b1) (λh1=>?_) (λh1=>by simp[h0,h1])
 refine Decidable.byCases (p:=a2=b2) (λh2=>?_) (λh2=>by simp[h0,h1,h2])
 refine Decidable.byCases (p:=a3=b3) (λh3=>?_) (λh3=>by simp[h0,h1,h2,h3])
 refine Decidable.byCases (p:=a4=b4) (λh4=>?_) (λh4=>by simp[h0,h1,h2,h3,h4])
 refine Decidable.byCases (p:=a5=b5) (λh5=>?_) (λh5=>by simp[h0,h1,h2,h3,h4,h5])
 refine Decidable.byCases (p:=a6=b6) (λh6=>?_) (λh6=>by simp[h0,h1,h2,h3,h4,h5,h6])
 refine Decidable.byCases (p:=a7=b7) (λh7=>?_) (λh7=>by simp[h0,h1,h2,h3,h4,h5,h6,h7])
 refine Decidable.byCases (p:=a8=b8) (λh8=>?_) (λh8=>by simp[h0,h1,h2,h3,h4,h5,h6,h7,h8])
 simp[h0,h1,h2,h3,h4,h5,h6,h7,h8]
theorem eq_86:EqOk Tryz.prog 86 [.int .i64,.int .i64,.int .i64,.int .i64,.int .i64,.int .i64,.bool]:=by
 refine⟨by kernel_rfl,λxs ys hx hy w=>?_⟩
 obtain⟨xa0,ra0,ea0,ka0,hx0⟩:=aH hx
 obtain⟨a0,rfl⟩:=aP ka0
 obtain⟨xa1,ra1,ea1,ka1,hx1⟩:=aH hx0
 obtain⟨a1,rfl⟩:=aP ka1
 obtain⟨xa2,ra2,ea2,ka2,hx2⟩:=aH hx1
 obtain⟨a2,rfl⟩:=aP ka2
 obtain⟨xa3,ra3,ea3,ka3,hx3⟩:=aH hx2
 obtain⟨a3,rfl⟩:=aP ka3
 obtain⟨xa4,ra4,ea4,ka4,hx4⟩:=aH hx3
 obtain⟨a4,rfl⟩:=aP ka4
 obtain⟨xa5,ra5,ea5,ka5,hx5⟩:=aH hx4
 obtain⟨a5,rfl⟩:=aP ka5
 obtain⟨xa6,ra6,ea6,ka6,hx6⟩:=aH hx5
 obtain⟨a6,rfl⟩:=kind_bool ka6
 have za:=dh hx6
 subst za
 subst ea6
 subst ea5
 subst ea4
 subst ea3
 subst ea2
 subst ea1
 subst ea0
 obtain⟨xb0,rb0,eb0,kb0,hy0⟩:=aH hy
 obtain⟨b0,rfl⟩:=aP kb0
 obtain⟨xb1,rb1,eb1,kb1,hy1⟩:=aH hy0
 obtain⟨b1,rfl⟩:=aP kb1
 obtain⟨xb2,rb2,eb2,kb2,hy2⟩:=aH hy1
 obtain⟨b2,rfl⟩:=aP kb2
 obtain⟨xb3,rb3,eb3,kb3,hy3⟩:=aH hy2
 obtain⟨b3,rfl⟩:=aP kb3
 obtain⟨xb4,rb4,eb4,kb4,hy4⟩:=aH hy3
 obtain⟨b4,rfl⟩:=aP kb4
 obtain⟨xb5,rb5,eb5,kb5,hy5⟩:=aH hy4
 obtain⟨b5,rfl⟩:=aP kb5
 obtain⟨xb6,rb6,eb6,kb6,hy6⟩:=aH hy5
 obtain⟨b6,rfl⟩:=kind_bool kb6
 have zb:=dh hy6
 subst zb
 subst eb6
 subst eb5
 subst eb4
 subst eb3
 subst eb2
 subst eb1
 subst eb0
 have hS:Tryz.prog.underlying 86=some (.struct (Tryz.prog.fieldsOf 86)):=by kernel_rfl
 simp only[Op.equal,Op.maxDepth]
 rw[show (10000:Nat)=9999+1 from rfl,run_equalIn_agg w 9999 86 _ _ hS (by kernel_rfl)]
 simp only[Program.fieldsOf,Tryz.underlying86,zA,zB,D.val]
 go_simp
 simp only[eqAll,eqD]
 refine Decidable.byCases (p:=a0=b0) (λh0=>?_) (λh0=>by simp[h0])
 refine Decidable.byCases (p:=a1=b1) (λh1=>?_) (λh1=>by simp[h0,h1])
 refine Decidable.byCases (p:=a2=b2) (λh2=>?_) (λh2=>by simp[h0,h1,h2])
 refine Decidable.byCases (p:=a3=b3) (λh3=>?_) (λh3=>by simp[h0,h1,h2,h3])
 refine Decidable.byCases (p:=a4=b4) (λh4=>?_) (λh4=>by simp[h0,h1,h2,h3,h4])
 refine Decidable.byCases (p:=a5=b5) (λh5=>?_) (λh5=>by simp[h0,h1,h2,h3,h4,h5])
 refine Decidable.byCases (p:=a6=b6) (λh6=>?_) (λh6=>by simp[h0,h1,h2,h3,h4,h5,h6])
 simp[h0,h1,h2,h3,h4,h5,h6]
theorem eq_101:EqOk Tryz.prog 101 [.int .u8,.int .i64]:=by
 refine⟨by kernel_rfl,λxs ys hx hy w=>?_⟩
 obtain⟨xa0,ra0,ea0,ka0,hx0⟩:=aH hx
 obtain⟨a0,rfl⟩:=aP ka0
 obtain⟨xa1,ra1,ea1,ka1,hx1⟩:=aH hx0
 obtain⟨a1,rfl⟩:=aP ka1
 have za:=dh hx1
 subst za
 subst ea1
 subst ea0
 obtain⟨xb0,rb0,eb0,kb0,hy0⟩:=aH hy
 obtain⟨b0,rfl⟩:=aP kb0
 obtain⟨xb1,rb1,eb1,kb1,hy1⟩:=aH hy0
 obtain⟨b1,rfl⟩:=aP kb1
 have zb:=dh hy1
 subst zb
 subst eb1
 subst eb0
 have hS:Tryz.prog.underlying 101=some (.struct (Tryz.prog.fieldsOf 101)):=by kernel_rfl
 simp only[Op.equal,Op.maxDepth]
 rw[show (10000:Nat)=9999+1 from rfl,run_equalIn_agg w 9999 101 _ _ hS (by kernel_rfl)]
 simp only[Program.fieldsOf,Tryz.underlying101,zA,zB,D.val]
 go_simp
 simp only[eqAll,eqD]
 refine Decidable.byCases (p:=a0=b0) (λh0=>?_) (λh0=>by simp[h0])
 refine Decidable.byCases (p:=a1=b1) (λh1=>?_) (λh1=>by simp[h0,h1])
 simp[h0,h1]
theorem eq_143:EqOk Tryz.prog 143 [.int .i64,.int .i64,.int .i64,.int .i64,.int .i64,.int .i64,.int .i64,.int .i64]:=by
 refine⟨by kernel_rfl,λxs ys hx hy w=>?_⟩
 obtain⟨xa0,ra0,ea0,ka0,hx0⟩:=aH hx
 obtain⟨a0,rfl⟩:=aP ka0
 obtain⟨xa1,ra1,ea1,ka1,hx1⟩:=aH hx0
 obtain⟨a1,rfl⟩:=aP ka1
 obtain⟨xa2,ra2,ea2,ka2,hx2⟩:=aH hx1
 obtain⟨a2,rfl⟩:=aP ka2
 obtain⟨xa3,ra3,ea3,ka3,hx3⟩:=aH hx2
 obtain⟨a3,rfl⟩:=aP ka3
 obtain⟨xa4,ra4,ea4,ka4,hx4⟩:=aH hx3
 obtain⟨a4,rfl⟩:=aP ka4
 obtain⟨xa5,ra5,ea5,ka5,hx5⟩:=aH hx4
 obtain⟨a5,rfl⟩:=aP ka5
 obtain⟨xa6,ra6,ea6,ka6,hx6⟩:=aH hx5
 obtain⟨a6,rfl⟩:=aP ka6
 obtain⟨xa7,ra7,ea7,ka7,hx7⟩:=aH hx6
 obtain⟨a7,rfl⟩:=aP ka7
 have za:=dh hx7
 subst za
 subst ea7
 subst ea6
 subst ea5
 subst ea4
 subst ea3
 subst ea2
 subst ea1
 subst ea0
 obtain⟨xb0,rb0,eb0,kb0,hy0⟩:=aH hy
 obtain⟨b0,rfl⟩:=aP kb0
 obtain⟨xb1,rb1,eb1,kb1,hy1⟩:=aH hy0
 obtain⟨b1,rfl⟩:=aP kb1
 obtain⟨xb2,rb2,eb2,kb2,hy2⟩:=aH hy1
 obtain⟨b2,rfl⟩:=aP kb2
 obtain⟨xb3,rb3,eb3,kb3,hy3⟩:=aH hy2
 obtain⟨b3,rfl⟩:=aP kb3
 obtain⟨xb4,rb4,eb4,kb4,hy4⟩:=aH hy3
 obtain⟨b4,rfl⟩:=aP kb4
 obtain⟨xb5,rb5,eb5,kb5,hy5⟩:=aH hy4
 obtain⟨b5,rfl⟩:=aP kb5
 obtain⟨xb6,rb6,eb6,kb6,hy6⟩:=aH hy5
 obtain⟨b6,rfl⟩:=aP kb6
 obtain⟨xb7,rb7,eb7,kb7,hy7⟩:=aH hy6
 obtain⟨b7,rfl⟩:=aP kb7
 have zb:=dh hy7
 subst zb
 subst eb7
 subst eb6
 subst eb5
 subst eb4
 subst eb3
 subst eb2
 subst eb1
 subst eb0
 have hS:Tryz.prog.underlying 143=some (.struct (Tryz.prog.fieldsOf 143)):=by kernel_rfl
 simp only[Op.equal,Op.maxDepth]
 rw[show (10000:Nat)=9999+1 from rfl,run_equalIn_agg w 9999 143 _ _ hS (by kernel_rfl)]
 simp only[Program.fieldsOf,Tryz.underlying143,zA,zB,D.val]
 go_simp
 simp only[eqAll,eqD]
 refine Decidable.byCases (p:=a0=b0) (λh0=>?_) (λh0=>by simp[h0])
 refine Decidable.byCases (p:=a1=b1) (λh1=>?_) (λh1=>by simp[h0,h1])
 refine Decidable.byCases (p:=a2=b2) (λh2=>?_) (λh2=>by simp[h0,h1,h2])
 refine Decidable.byCases (p:=a3=b3) (λh3=>?_) (λh3=>by simp[h0,h1,h2,h3])
 refine Decidable.byCases (p:=a4=b4) (λh4=>?_) (λh4=>by simp[h0,h1,h2,h3,h4])
 refine Decidable.byCases (p:=a5=b5) (λh5=>?_) (λh5=>by simp[h0,h1,h2,h3,h4,h5])
 refine Decidable.byCases (p:=a6=b6) (λh6=>?_) (λh6=>by simp[h0,h1,h2,h3,h4,h5,h6])
 refine Decidable.byCases (p:=a7=b7) (λh7=>?_) (λh7=>by simp[h0,h1,h2,h3,h4,h5,h6,h7])
 simp[h0,h1,h2,h3,h4,h5,h6,h7]
def eqTab:TypeId→Option (List SK)
 | 24=>some [.int .i64,.int .i64,.int .i64]
 | 42=>some [.int .i64,.int .i64]
 | 47=>some [.int .i64,.int .i64,.int .i64,.int .i64,.int .i64,.int .i64,.int .i64,.int .i64,.int .i64]
 | 86=>some [.int .i64,.int .i64,.int .i64,.int .i64,.int .i64,.int .i64,.bool]
 | 101=>some [.int .u8,.int .i64]
 | 143=>some [.int .i64,.int .i64,.int .i64,.int .i64,.int .i64,.int .i64,.int .i64,.int .i64]
 | _=>none
theorem eqTab_ok:∀t ks,eqTab t=some ks→EqOk Tryz.prog t ks:=by
 intro t ks h
 unfold eqTab at h
 split at h
 ·injection h with h;subst h;exact eq_24
 ·injection h with h;subst h;exact eq_42
 ·injection h with h;subst h;exact eq_47
 ·injection h with h;subst h;exact eq_86
 ·injection h with h;subst h;exact eq_101
 ·injection h with h;subst h;exact eq_143
 ·cases h
def gP:Pg Tryz.prog:=⟨by kernel_rfl,eqTab,eqTab_ok⟩
@[simp] theorem gE_24:gP.E 24=some [.int .i64,.int .i64,.int .i64]:=nr rfl
@[simp] theorem gE_42:gP.E 42=some [.int .i64,.int .i64]:=nr rfl
@[simp] theorem gE_47:gP.E 47=some [.int .i64,.int .i64,.int .i64,.int .i64,.int .i64,.int .i64,.int .i64,.int .i64,.int .i64]:=nr rfl
@[simp] theorem gE_86:gP.E 86=some [.int .i64,.int .i64,.int .i64,.int .i64,.int .i64,.int .i64,.bool]:=nr rfl
@[simp] theorem gE_101:gP.E 101=some [.int .u8,.int .i64]:=nr rfl
end Go.Proofs.YtplhejpjnfjopaaGreatDoor
