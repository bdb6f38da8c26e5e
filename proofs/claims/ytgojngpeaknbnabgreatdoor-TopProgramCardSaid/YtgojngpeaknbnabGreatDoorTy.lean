import Derived.Test.YtgojngpeaknbnabGreatDoorS3
import Derived.Laws.StructEq
import Derived.ChangeKeysEq
open List renaming map_cons → zA,map_nil → zB
namespace Go.Proofs.YtgojngpeaknbnabGreatDoor
open Go.RowKit
set_option linter.unusedSimpArgs false
@[simp] theorem und_2:Tryz.prog.underlying 2=some (.int .i64):=nr (by kernel_rfl)
@[simp] theorem sz_2:sizeT Tryz.prog 2=some 1:=nr (by kernel_rfl)
@[simp] theorem ag_2:aggT Tryz.prog 2=some false:=nr (by kernel_rfl)
@[simp] theorem zero_2:zeroV Tryz.prog 2=some (.d (.int .i64 0)):=nr (by kernel_rfl)
@[simp] theorem und_3:Tryz.prog.underlying 3=some (.int .i64):=nr (by kernel_rfl)
@[simp] theorem sz_3:sizeT Tryz.prog 3=some 1:=nr (by kernel_rfl)
@[simp] theorem ag_3:aggT Tryz.prog 3=some false:=nr (by kernel_rfl)
@[simp] theorem fP:zeroV Tryz.prog 3=some (.d (.int .i64 0)):=nr (by kernel_rfl)
@[simp] theorem und_4:Tryz.prog.underlying 4=some (.bool):=nr (by kernel_rfl)
@[simp] theorem sz_4:sizeT Tryz.prog 4=some 1:=nr (by kernel_rfl)
@[simp] theorem ag_4:aggT Tryz.prog 4=some false:=nr (by kernel_rfl)
@[simp] theorem zero_4:zeroV Tryz.prog 4=some (.d (.bool false)):=nr (by kernel_rfl)
@[simp] theorem und_5:Tryz.prog.underlying 5=some (.int .u8):=nr (by kernel_rfl)
@[simp] theorem sz_5:sizeT Tryz.prog 5=some 1:=nr (by kernel_rfl)
@[simp] theorem ag_5:aggT Tryz.prog 5=some false:=nr (by kernel_rfl)
@[simp] theorem zero_5:zeroV Tryz.prog 5=some (.d (.int .u8 0)):=nr (by kernel_rfl)
@[simp] theorem und_9:Tryz.prog.underlying 9=some (.string):=nr (by kernel_rfl)
@[simp] theorem sz_9:sizeT Tryz.prog 9=some 1:=nr (by kernel_rfl)
@[simp] theorem ag_9:aggT Tryz.prog 9=some false:=nr (by kernel_rfl)
@[simp] theorem zero_9:zeroV Tryz.prog 9=some (.d (.str [])):=nr (by kernel_rfl)
@[simp] theorem und_21:Tryz.prog.underlying 21=some (.int .i32):=nr (by kernel_rfl)
@[simp] theorem und_22:Tryz.prog.underlying 22=some (.slice 49):=nr (by kernel_rfl)
@[simp] theorem sz_22:sizeT Tryz.prog 22=some 1:=nr (by kernel_rfl)
@[simp] theorem ag_22:aggT Tryz.prog 22=some false:=nr (by kernel_rfl)
@[simp] theorem sz_24:sizeT Tryz.prog 24=some 3:=nr (by kernel_rfl)
@[simp] theorem ag_24:aggT Tryz.prog 24=some true:=nr (by kernel_rfl)
@[simp] theorem zero_24:zeroV Tryz.prog 24=some (.agg [.d (.int .i64 0),.d (.int .i64 0),.d (.int .i64 0)]):=nr (by kernel_rfl)
@[simp] theorem fld_24_0:aO Tryz.prog 24 0=some (0,2):=nr (by kernel_rfl)
@[simp] theorem fld_24_1:aO Tryz.prog 24 1=some (1,2):=nr (by kernel_rfl)
@[simp] theorem fld_24_2:aO Tryz.prog 24 2=some (2,2):=nr (by kernel_rfl)
@[simp] theorem pl_24:cd Tryz.prog 24=some (.struct [(0,1),(1,1),(2,1)]):=nr (by kernel_rfl)
@[simp] theorem sz_26:sizeT Tryz.prog 26=some 7:=nr (by kernel_rfl)
@[simp] theorem ag_26:aggT Tryz.prog 26=some true:=nr (by kernel_rfl)
@[simp] theorem fld_26_0:aO Tryz.prog 26 0=some (0,22):=nr (by kernel_rfl)
@[simp] theorem fld_26_1:aO Tryz.prog 26 1=some (1,24):=nr (by kernel_rfl)
@[simp] theorem fld_26_2:aO Tryz.prog 26 2=some (4,24):=nr (by kernel_rfl)
@[simp] theorem sz_33:sizeT Tryz.prog 33=some 4:=nr (by kernel_rfl)
@[simp] theorem ag_33:aggT Tryz.prog 33=some true:=nr (by kernel_rfl)
@[simp] theorem zero_33:zeroV Tryz.prog 33=some (.agg [.d (.int .i64 0),.d (.bool false),.d (.int .i64 0),.d (.int .i64 0)]):=nr (by kernel_rfl)
@[simp] theorem fld_33_0:aO Tryz.prog 33 0=some (0,2):=nr (by kernel_rfl)
@[simp] theorem fld_33_1:aO Tryz.prog 33 1=some (1,4):=nr (by kernel_rfl)
@[simp] theorem fld_33_2:aO Tryz.prog 33 2=some (2,2):=nr (by kernel_rfl)
@[simp] theorem fld_33_3:aO Tryz.prog 33 3=some (3,3):=nr (by kernel_rfl)
@[simp] theorem pl_33:cd Tryz.prog 33=some (.struct [(0,1),(1,1),(2,1),(3,1)]):=nr (by kernel_rfl)
@[simp] theorem und_35:Tryz.prog.underlying 35=some (.array 6 24):=nr (by kernel_rfl)
@[simp] theorem sz_35:sizeT Tryz.prog 35=some 18:=nr (by kernel_rfl)
@[simp] theorem und_36:Tryz.prog.underlying 36=some (.slice 71):=nr (by kernel_rfl)
@[simp] theorem sz_36:sizeT Tryz.prog 36=some 1:=nr (by kernel_rfl)
@[simp] theorem ag_36:aggT Tryz.prog 36=some false:=nr (by kernel_rfl)
@[simp] theorem app_36:appT Tryz.prog 36=some (71,2):=nr (by kernel_rfl)
@[simp] theorem sz_38:sizeT Tryz.prog 38=some 19:=nr (by kernel_rfl)
@[simp] theorem ag_38:aggT Tryz.prog 38=some true:=nr (by kernel_rfl)
@[simp] theorem zero_38:zeroV Tryz.prog 38=some (.agg [.d (.int .i64 0),.d (.int .i64 0),.d (.int .i64 0),.d (.int .i64 0),.d (.int .i64 0),.d (.int .i64 0),.d (.int .i64 0),.d (.int .i64 0),.d (.int .i64 0),.d (.int .i64 0),.d (.int .i64 0),.d (.int .i64 0),.d (.int .i64 0),.d (.int .i64 0),.d (.int .i64 0),.d (.int .i64 0),.d (.int .i64 0),.d (.int .i64 0),.nil]):=nr (by kernel_rfl)
@[simp] theorem fld_38_0:aO Tryz.prog 38 0=some (0,35):=nr (by kernel_rfl)
@[simp] theorem fld_38_1:aO Tryz.prog 38 1=some (18,36):=nr (by kernel_rfl)
@[simp] theorem und_42:Tryz.prog.underlying 42=some (.slice 53):=nr (by kernel_rfl)
@[simp] theorem sz_42:sizeT Tryz.prog 42=some 1:=nr (by kernel_rfl)
@[simp] theorem ag_42:aggT Tryz.prog 42=some false:=nr (by kernel_rfl)
@[simp] theorem zero_42:zeroV Tryz.prog 42=some (.nil):=nr (by kernel_rfl)
@[simp] theorem app_42:appT Tryz.prog 42=some (53,9):=nr (by kernel_rfl)
@[simp] theorem sz_44:sizeT Tryz.prog 44=some 2:=nr (by kernel_rfl)
@[simp] theorem ag_44:aggT Tryz.prog 44=some true:=nr (by kernel_rfl)
@[simp] theorem zero_44:zeroV Tryz.prog 44=some (.agg [.d (.int .i64 0),.d (.int .i64 0)]):=nr (by kernel_rfl)
@[simp] theorem pl_44:cd Tryz.prog 44=some (.struct [(0,1),(1,1)]):=nr (by kernel_rfl)
@[simp] theorem und_47:Tryz.prog.underlying 47=some (.slice 60):=nr (by kernel_rfl)
@[simp] theorem sz_47:sizeT Tryz.prog 47=some 1:=nr (by kernel_rfl)
@[simp] theorem ag_47:aggT Tryz.prog 47=some false:=nr (by kernel_rfl)
@[simp] theorem sz_49:sizeT Tryz.prog 49=some 2:=nr (by kernel_rfl)
@[simp] theorem ag_49:aggT Tryz.prog 49=some true:=nr (by kernel_rfl)
@[simp] theorem zero_49:zeroV Tryz.prog 49=some (.agg [.d (.int .i64 0),.nil]):=nr (by kernel_rfl)
@[simp] theorem fld_49_0:aO Tryz.prog 49 0=some (0,3):=nr (by kernel_rfl)
@[simp] theorem fld_49_1:aO Tryz.prog 49 1=some (1,47):=nr (by kernel_rfl)
@[simp] theorem pl_49:cd Tryz.prog 49=some (.struct [(0,1),(1,1)]):=nr (by kernel_rfl)
@[simp] theorem sz_53:sizeT Tryz.prog 53=some 9:=nr (by kernel_rfl)
@[simp] theorem ag_53:aggT Tryz.prog 53=some true:=nr (by kernel_rfl)
@[simp] theorem zero_53:zeroV Tryz.prog 53=some (.agg [.d (.int .i64 0),.d (.int .i64 0),.d (.int .i64 0),.d (.int .i64 0),.d (.int .i64 0),.d (.int .i64 0),.d (.int .i64 0),.d (.int .i64 0),.d (.int .i64 0)]):=nr (by kernel_rfl)
@[simp] theorem fld_53_0:aO Tryz.prog 53 0=some (0,24):=nr (by kernel_rfl)
@[simp] theorem fld_53_1:aO Tryz.prog 53 1=some (3,24):=nr (by kernel_rfl)
@[simp] theorem fld_53_2:aO Tryz.prog 53 2=some (6,2):=nr (by kernel_rfl)
@[simp] theorem fld_53_3:aO Tryz.prog 53 3=some (7,3):=nr (by kernel_rfl)
@[simp] theorem fld_53_4:aO Tryz.prog 53 4=some (8,3):=nr (by kernel_rfl)
@[simp] theorem pl_53:cd Tryz.prog 53=some (.struct [(0,3),(3,3),(6,1),(7,1),(8,1)]):=nr (by kernel_rfl)
@[simp] theorem sz_58:sizeT Tryz.prog 58=some 2:=nr (by kernel_rfl)
@[simp] theorem ag_58:aggT Tryz.prog 58=some true:=nr (by kernel_rfl)
@[simp] theorem zero_58:zeroV Tryz.prog 58=some (.agg [.d (.int .i64 0),.d (.int .i64 0)]):=nr (by kernel_rfl)
@[simp] theorem fld_58_0:aO Tryz.prog 58 0=some (0,2):=nr (by kernel_rfl)
@[simp] theorem fld_58_1:aO Tryz.prog 58 1=some (1,2):=nr (by kernel_rfl)
@[simp] theorem pl_58:cd Tryz.prog 58=some (.struct [(0,1),(1,1)]):=nr (by kernel_rfl)
@[simp] theorem sz_60:sizeT Tryz.prog 60=some 7:=nr (by kernel_rfl)
@[simp] theorem ag_60:aggT Tryz.prog 60=some true:=nr (by kernel_rfl)
@[simp] theorem zero_60:zeroV Tryz.prog 60=some (.agg [.d (.int .i64 0),.d (.int .i64 0),.d (.int .i64 0),.d (.int .i64 0),.d (.int .i64 0),.d (.int .i64 0),.d (.int .i64 0)]):=nr (by kernel_rfl)
@[simp] theorem fld_60_0:aO Tryz.prog 60 0=some (0,3):=nr (by kernel_rfl)
@[simp] theorem fld_60_1:aO Tryz.prog 60 1=some (1,24):=nr (by kernel_rfl)
@[simp] theorem fld_60_2:aO Tryz.prog 60 2=some (4,58):=nr (by kernel_rfl)
@[simp] theorem fld_60_3:aO Tryz.prog 60 3=some (6,2):=nr (by kernel_rfl)
@[simp] theorem pl_60:cd Tryz.prog 60=some (.struct [(0,1),(1,3),(4,2),(6,1)]):=nr (by kernel_rfl)
@[simp] theorem und_61:Tryz.prog.underlying 61=some (.slice 24):=nr (by kernel_rfl)
@[simp] theorem app_61:appT Tryz.prog 61=some (24,3):=nr (by kernel_rfl)
@[simp] theorem und_64:Tryz.prog.underlying 64=some (.slice 2):=nr (by kernel_rfl)
@[simp] theorem sz_64:sizeT Tryz.prog 64=some 1:=nr (by kernel_rfl)
@[simp] theorem ag_64:aggT Tryz.prog 64=some false:=nr (by kernel_rfl)
@[simp] theorem app_64:appT Tryz.prog 64=some (2,1):=nr (by kernel_rfl)
@[simp] theorem und_65:Tryz.prog.underlying 65=some (.slice 104):=nr (by kernel_rfl)
@[simp] theorem sz_65:sizeT Tryz.prog 65=some 1:=nr (by kernel_rfl)
@[simp] theorem ag_65:aggT Tryz.prog 65=some false:=nr (by kernel_rfl)
@[simp] theorem ku:zeroV Tryz.prog 65=some (.nil):=nr (by kernel_rfl)
@[simp] theorem app_65:appT Tryz.prog 65=some (104,3):=nr (by kernel_rfl)
@[simp] theorem und_69:Tryz.prog.underlying 69=some (.slice 3):=nr (by kernel_rfl)
@[simp] theorem sz_71:sizeT Tryz.prog 71=some 2:=nr (by kernel_rfl)
@[simp] theorem ag_71:aggT Tryz.prog 71=some true:=nr (by kernel_rfl)
@[simp] theorem zero_71:zeroV Tryz.prog 71=some (.agg [.d (.int .i64 0),.d (.int .i64 0)]):=nr (by kernel_rfl)
@[simp] theorem fld_71_0:aO Tryz.prog 71 0=some (0,2):=nr (by kernel_rfl)
@[simp] theorem fld_71_1:aO Tryz.prog 71 1=some (1,2):=nr (by kernel_rfl)
@[simp] theorem pl_71:cd Tryz.prog 71=some (.struct [(0,1),(1,1)]):=nr (by kernel_rfl)
@[simp] theorem und_77:Tryz.prog.underlying 77=some (.slice 131):=nr (by kernel_rfl)
@[simp] theorem sz_77:sizeT Tryz.prog 77=some 1:=nr (by kernel_rfl)
@[simp] theorem ag_77:aggT Tryz.prog 77=some false:=nr (by kernel_rfl)
@[simp] theorem app_77:appT Tryz.prog 77=some (131,2):=nr (by kernel_rfl)
@[simp] theorem sz_79:sizeT Tryz.prog 79=some 2:=nr (by kernel_rfl)
@[simp] theorem ag_79:aggT Tryz.prog 79=some true:=nr (by kernel_rfl)
@[simp] theorem zero_79:zeroV Tryz.prog 79=some (.agg [.nil,.nil]):=nr (by kernel_rfl)
@[simp] theorem fld_79_0:aO Tryz.prog 79 0=some (0,65):=nr (by kernel_rfl)
@[simp] theorem fld_79_1:aO Tryz.prog 79 1=some (1,77):=nr (by kernel_rfl)
@[simp] theorem pl_79:cd Tryz.prog 79=some (.struct [(0,1),(1,1)]):=nr (by kernel_rfl)
@[simp] theorem sz_93:sizeT Tryz.prog 93=some 8:=nr (by kernel_rfl)
@[simp] theorem ag_93:aggT Tryz.prog 93=some true:=nr (by kernel_rfl)
@[simp] theorem zero_93:zeroV Tryz.prog 93=some (.agg [.d (.int .i64 0),.d (.int .i64 0),.d (.int .i64 0),.d (.int .i64 0),.d (.int .i64 0),.d (.int .i64 0),.d (.int .i64 0),.d (.int .i64 0)]):=nr (by kernel_rfl)
@[simp] theorem fld_93_0:aO Tryz.prog 93 0=some (0,2):=nr (by kernel_rfl)
@[simp] theorem fld_93_1:aO Tryz.prog 93 1=some (1,2):=nr (by kernel_rfl)
@[simp] theorem fld_93_2:aO Tryz.prog 93 2=some (2,2):=nr (by kernel_rfl)
@[simp] theorem fld_93_3:aO Tryz.prog 93 3=some (3,2):=nr (by kernel_rfl)
@[simp] theorem fld_93_4:aO Tryz.prog 93 4=some (4,2):=nr (by kernel_rfl)
@[simp] theorem fld_93_5:aO Tryz.prog 93 5=some (5,2):=nr (by kernel_rfl)
@[simp] theorem fld_93_6:aO Tryz.prog 93 6=some (6,2):=nr (by kernel_rfl)
@[simp] theorem fld_93_7:aO Tryz.prog 93 7=some (7,2):=nr (by kernel_rfl)
@[simp] theorem pl_93:cd Tryz.prog 93=some (.struct [(0,1),(1,1),(2,1),(3,1),(4,1),(5,1),(6,1),(7,1)]):=nr (by kernel_rfl)
@[simp] theorem und_99:Tryz.prog.underlying 99=some (.slice 5):=nr (by kernel_rfl)
@[simp] theorem sz_99:sizeT Tryz.prog 99=some 1:=nr (by kernel_rfl)
@[simp] theorem ag_99:aggT Tryz.prog 99=some false:=nr (by kernel_rfl)
@[simp] theorem app_99:appT Tryz.prog 99=some (5,1):=nr (by kernel_rfl)
@[simp] theorem fld_101_1:aO Tryz.prog 101 1=some (1,99):=nr (by kernel_rfl)
@[simp] theorem jf:Tryz.prog.underlying 102=some (.slice 139):=nr (by kernel_rfl)
@[simp] theorem sz_102:sizeT Tryz.prog 102=some 1:=nr (by kernel_rfl)
@[simp] theorem ag_102:aggT Tryz.prog 102=some false:=nr (by kernel_rfl)
@[simp] theorem gQ:appT Tryz.prog 102=some (139,2):=nr (by kernel_rfl)
@[simp] theorem sz_104:sizeT Tryz.prog 104=some 3:=nr (by kernel_rfl)
@[simp] theorem ag_104:aggT Tryz.prog 104=some true:=nr (by kernel_rfl)
@[simp] theorem zero_104:zeroV Tryz.prog 104=some (.agg [.d (.bool false),.nil,.d (.str [])]):=nr (by kernel_rfl)
@[simp] theorem fld_104_0:aO Tryz.prog 104 0=some (0,4):=nr (by kernel_rfl)
@[simp] theorem fld_104_1:aO Tryz.prog 104 1=some (1,102):=nr (by kernel_rfl)
@[simp] theorem fld_104_2:aO Tryz.prog 104 2=some (2,9):=nr (by kernel_rfl)
@[simp] theorem pl_104:cd Tryz.prog 104=some (.struct [(0,1),(1,1),(2,1)]):=nr (by kernel_rfl)
@[simp] theorem sz_131:sizeT Tryz.prog 131=some 2:=nr (by kernel_rfl)
@[simp] theorem ag_131:aggT Tryz.prog 131=some true:=nr (by kernel_rfl)
@[simp] theorem zero_131:zeroV Tryz.prog 131=some (.agg [.d (.int .i64 0),.nil]):=nr (by kernel_rfl)
@[simp] theorem fld_131_0:aO Tryz.prog 131 0=some (0,2):=nr (by kernel_rfl)
@[simp] theorem fld_131_1:aO Tryz.prog 131 1=some (1,65):=nr (by kernel_rfl)
@[simp] theorem pl_131:cd Tryz.prog 131=some (.struct [(0,1),(1,1)]):=nr (by kernel_rfl)
@[simp] theorem sz_139:sizeT Tryz.prog 139=some 2:=nr (by kernel_rfl)
@[simp] theorem ag_139:aggT Tryz.prog 139=some true:=nr (by kernel_rfl)
@[simp] theorem zero_139:zeroV Tryz.prog 139=some (.agg [.d (.int .u8 0),.d (.int .i64 0)]):=nr (by kernel_rfl)
@[simp] theorem fld_139_0:aO Tryz.prog 139 0=some (0,5):=nr (by kernel_rfl)
@[simp] theorem fld_139_1:aO Tryz.prog 139 1=some (1,2):=nr (by kernel_rfl)
@[simp] theorem pl_139:cd Tryz.prog 139=some (.struct [(0,1),(1,1)]):=nr (by kernel_rfl)
@[simp] theorem sz_141:sizeT Tryz.prog 141=some 7:=nr (by kernel_rfl)
@[simp] theorem ag_141:aggT Tryz.prog 141=some true:=nr (by kernel_rfl)
@[simp] theorem zero_141:zeroV Tryz.prog 141=some (.agg [.d (.int .i64 0),.d (.int .i64 0),.d (.int .i64 0),.d (.int .i64 0),.d (.int .i64 0),.d (.int .i64 0),.d (.bool false)]):=nr (by kernel_rfl)
@[simp] theorem pl_141:cd Tryz.prog 141=some (.struct [(0,1),(1,1),(2,1),(3,1),(4,1),(5,1),(6,1)]):=nr (by kernel_rfl)
@[simp] theorem und_169:Tryz.prog.underlying 169=some (.slice 9):=nr (by kernel_rfl)
@[simp] theorem app_169:appT Tryz.prog 169=some (9,1):=nr (by kernel_rfl)
@[simp] theorem sz_181:sizeT Tryz.prog 181=some 5:=nr (by kernel_rfl)
@[simp] theorem zero_181:zeroV Tryz.prog 181=some (.agg [.d (.str []),.d (.int .i64 0),.d (.bool false),.nil,.d (.str [])]):=nr (by kernel_rfl)
@[simp] theorem fld_181_0:aO Tryz.prog 181 0=some (0,9):=nr (by kernel_rfl)
@[simp] theorem fld_181_1:aO Tryz.prog 181 1=some (1,3):=nr (by kernel_rfl)
@[simp] theorem fld_181_2:aO Tryz.prog 181 2=some (2,104):=nr (by kernel_rfl)
@[simp] theorem pl_181:cd Tryz.prog 181=some (.struct [(0,1),(1,1),(2,3)]):=nr (by kernel_rfl)
@[simp] theorem je:Tryz.prog.underlying 193=some (.map 2 65):=nr (by kernel_rfl)
@[simp] theorem sz_193:sizeT Tryz.prog 193=some 1:=nr (by kernel_rfl)
@[simp] theorem ag_193:aggT Tryz.prog 193=some false:=nr (by kernel_rfl)
@[simp] theorem und_194:Tryz.prog.underlying 194=some (.map 2 3):=nr (by kernel_rfl)
@[simp] theorem sz_194:sizeT Tryz.prog 194=some 1:=nr (by kernel_rfl)
@[simp] theorem ag_194:aggT Tryz.prog 194=some false:=nr (by kernel_rfl)
@[simp] theorem und_195:Tryz.prog.underlying 195=some (.map 2 2):=nr (by kernel_rfl)
@[simp] theorem sz_195:sizeT Tryz.prog 195=some 1:=nr (by kernel_rfl)
@[simp] theorem ag_195:aggT Tryz.prog 195=some false:=nr (by kernel_rfl)
@[simp] theorem zero_197:zeroV Tryz.prog 197=some (.agg [.d (.other (.map none)),.d (.other (.map none)),.d (.other (.map none)),.d (.other (.map none)),.d (.other (.map none))]):=nr (by kernel_rfl)
@[simp] theorem fld_197_0:aO Tryz.prog 197 0=some (0,193):=nr (by kernel_rfl)
@[simp] theorem fld_197_1:aO Tryz.prog 197 1=some (1,194):=nr (by kernel_rfl)
@[simp] theorem fld_197_2:aO Tryz.prog 197 2=some (2,194):=nr (by kernel_rfl)
@[simp] theorem fld_197_3:aO Tryz.prog 197 3=some (3,195):=nr (by kernel_rfl)
@[simp] theorem fld_197_4:aO Tryz.prog 197 4=some (4,193):=nr (by kernel_rfl)
@[simp] theorem pl_197:cd Tryz.prog 197=some (.struct [(0,1),(1,1),(2,1),(3,1),(4,1)]):=nr (by kernel_rfl)
@[simp] theorem und_200:Tryz.prog.underlying 200=some (.slice 204):=nr (by kernel_rfl)
@[simp] theorem app_200:appT Tryz.prog 200=some (204,4):=nr (by kernel_rfl)
@[simp] theorem sz_204:sizeT Tryz.prog 204=some 4:=nr (by kernel_rfl)
@[simp] theorem ag_204:aggT Tryz.prog 204=some true:=nr (by kernel_rfl)
@[simp] theorem zero_204:zeroV Tryz.prog 204=some (.agg [.d (.int .i64 0),.d (.int .i64 0),.d (.int .i64 0),.d (.int .i64 0)]):=nr (by kernel_rfl)
@[simp] theorem fld_204_0:aO Tryz.prog 204 0=some (0,24):=nr (by kernel_rfl)
@[simp] theorem fld_204_1:aO Tryz.prog 204 1=some (3,2):=nr (by kernel_rfl)
@[simp] theorem pl_204:cd Tryz.prog 204=some (.struct [(0,3),(3,1)]):=nr (by kernel_rfl)
@[simp] theorem und_206:Tryz.prog.underlying 206=some (.int .u64):=nr (by kernel_rfl)
@[simp] theorem und_214:Tryz.prog.underlying 214=some (.array 5 2):=nr (by kernel_rfl)
@[simp] theorem und_231:Tryz.prog.underlying 231=some (.slice 65):=nr (by kernel_rfl)
@[simp] theorem app_231:appT Tryz.prog 231=some (65,1):=nr (by kernel_rfl)
@[simp] theorem fg:Tryz.prog.underlying 233=some (.map 5 3):=nr (by kernel_rfl)
@[simp] theorem und_234:Tryz.prog.underlying 234=some (.map 5 4):=nr (by kernel_rfl)
@[simp] theorem und_235:Tryz.prog.underlying 235=some (.map 3 4):=nr (by kernel_rfl)
@[simp] theorem sz_240:sizeT Tryz.prog 240=some 1:=nr (by kernel_rfl)
@[simp] theorem ag_240:aggT Tryz.prog 240=some false:=nr (by kernel_rfl)
@[simp] theorem zero_240:zeroV Tryz.prog 240=some (.d (.other (.pointer none))):=nr (by kernel_rfl)
@[simp] theorem und_241:Tryz.prog.underlying 241=some (.slice 240):=nr (by kernel_rfl)
@[simp] theorem und_250:Tryz.prog.underlying 250=some (.int .u64):=nr (by kernel_rfl)
@[simp] theorem sz_254:sizeT Tryz.prog 254=some 2:=nr (by kernel_rfl)
@[simp] theorem ag_254:aggT Tryz.prog 254=some true:=nr (by kernel_rfl)
@[simp] theorem zero_254:zeroV Tryz.prog 254=some (.agg [.d (.int .u8 0),.d (.other (.pointer none))]):=nr (by kernel_rfl)
@[simp] theorem fld_254_0:aO Tryz.prog 254 0=some (0,5):=nr (by kernel_rfl)
@[simp] theorem fld_254_1:aO Tryz.prog 254 1=some (1,240):=nr (by kernel_rfl)
@[simp] theorem pl_254:cd Tryz.prog 254=some (.struct [(0,1),(1,1)]):=nr (by kernel_rfl)
@[simp] theorem und_255:Tryz.prog.underlying 255=some (.slice 254):=nr (by kernel_rfl)
theorem eq_24:EqOk Tryz.prog 24 [.int .i64,.int .i64,.int .i64]:=by
 refine⟨by kernel_rfl,λxs ys hx hy w=>?_⟩
 obtain⟨xa0,ra0,ea0,ka0,hx0⟩:=aE hx
 obtain⟨a0,rfl⟩:=aU ka0
 obtain⟨xa1,ra1,ea1,ka1,hx1⟩:=aE hx0
 obtain⟨a1,rfl⟩:=aU ka1
 obtain⟨xa2,ra2,ea2,ka2,hx2⟩:=aE hx1
 obtain⟨a2,rfl⟩:=aU ka2
 have za:=dD hx2
 subst za
 subst ea2
 subst ea1
 subst ea0
 obtain⟨xb0,rb0,eb0,kb0,hy0⟩:=aE hy
 obtain⟨b0,rfl⟩:=aU kb0
 obtain⟨xb1,rb1,eb1,kb1,hy1⟩:=aE hy0
 obtain⟨b1,rfl⟩:=aU kb1
 obtain⟨xb2,rb2,eb2,kb2,hy2⟩:=aE hy1
 obtain⟨b2,rfl⟩:=aU kb2
 have zb:=dD hy2
 subst zb
 subst eb2
 subst eb1
 subst eb0
 have hS:Tryz.prog.underlying 24=some (.struct (Tryz.prog.fieldsOf 24)):=by kernel_rfl
 simp only[Op.equal,Op.maxDepth]
 rw[show (10000:Nat)=9999+1 from rfl,run_equalIn_agg w 9999 24 _ _ hS (by kernel_rfl)]
 simp only[Program.fieldsOf,Tryz.underlying24,zA,zB,D.val]
 go_simp
 simp only[eqAll,eqD]
 refine Decidable.byCases (p:=a0=b0) (λh0=>?_) (λh0=>by simp[h0])
 refine Decidable.byCases (p:=a1=b1) (λh1=>?_) (λh1=>by simp[h0,h1])
 refine Decidable.byCases (p:=a2=b2) (λh2=>?_) (λh2=>by simp[h0,h1,h2])
 simp[h0,h1,h2]
theorem eq_44:EqOk Tryz.prog 44 [.int .i64,.int .i64]:=by
 refine⟨by kernel_rfl,λxs ys hx hy w=>?_⟩
 obtain⟨xa0,ra0,ea0,ka0,hx0⟩:=aE hx
 obtain⟨a0,rfl⟩:=aU ka0
 obtain⟨xa1,ra1,ea1,ka1,hx1⟩:=aE hx0
 obtain⟨a1,rfl⟩:=aU ka1
 have za:=dD hx1
 subst za
 subst ea1
 subst ea0
 obtain⟨xb0,rb0,eb0,kb0,hy0⟩:=aE hy
 obtain⟨b0,rfl⟩:=aU kb0
 obtain⟨xb1,rb1,eb1,kb1,hy1⟩:=aE hy0
 obtain⟨b1,rfl⟩:=aU kb1
 have zb:=dD hy1
 subst zb
 subst eb1
 subst eb0
 have hS:Tryz.prog.underlying 44=some (.struct (Tryz.prog.fieldsOf 44)):=by kernel_rfl
 simp only[Op.equal,Op.maxDepth]
 rw[show (10000:Nat)=9999+1 from rfl,run_equalIn_agg w 9999 44 _ _ hS (by kernel_rfl)]
 simp only[Program.fieldsOf,Tryz.underlying44,zA,zB,D.val]
 go_simp
 simp only[eqAll,eqD]
 refine Decidable.byCases (p:=a0=b0) (λh0=>?_) (λh0=>by simp[h0])
 refine Decidable.byCases (p:=a1=b1) (λh1=>?_) (λh1=>by simp[h0,h1])
 simp[h0,h1]
theorem eq_53:EqOk Tryz.prog 53 [.int .i64,.int .i64,.int .i64,.int .i64,.int .i64,.int .i64,.int .i64,.int .i64,.int .i64]:=by
 refine⟨by kernel_rfl,λxs ys hx hy w=>?_⟩
 obtain⟨xa0,ra0,ea0,ka0,hx0⟩:=aE hx
 obtain⟨a0,rfl⟩:=aU ka0
 obtain⟨xa1,ra1,ea1,ka1,hx1⟩:=aE hx0
 obtain⟨a1,rfl⟩:=aU ka1
 obtain⟨xa2,ra2,ea2,ka2,hx2⟩:=aE hx1
 obtain⟨a2,rfl⟩:=aU ka2
 obtain⟨xa3,ra3,ea3,ka3,hx3⟩:=aE hx2
 obtain⟨a3,rfl⟩:=aU ka3
 obtain⟨xa4,ra4,ea4,ka4,hx4⟩:=aE hx3
 obtain⟨a4,rfl⟩:=aU ka4
 obtain⟨xa5,ra5,ea5,ka5,hx5⟩:=aE hx4
 obtain⟨a5,rfl⟩:=aU ka5
 obtain⟨xa6,ra6,ea6,ka6,hx6⟩:=aE hx5
 obtain⟨a6,rfl⟩:=aU ka6
 obtain⟨xa7,ra7,ea7,ka7,hx7⟩:=aE hx6
 obtain⟨a7,rfl⟩:=aU ka7
 obtain⟨xa8,ra8,ea8,ka8,hx8⟩:=aE hx7
 obtain⟨a8,rfl⟩:=aU ka8
 have za:=dD hx8
 subst za
 subst ea8
 subst ea7
 subst ea6
 subst ea5
 subst ea4
 subst ea3
 subst ea2
 subst ea1
 subst ea0
 obtain⟨xb0,rb0,eb0,kb0,hy0⟩:=aE hy
 obtain⟨b0,rfl⟩:=aU kb0
 obtain⟨xb1,rb1,eb1,kb1,hy1⟩:=aE hy0
 obtain⟨b1,rfl⟩:=aU kb1
 obtain⟨xb2,rb2,eb2,kb2,hy2⟩:=aE hy1
 obtain⟨b2,rfl⟩:=aU kb2
 obtain⟨xb3,rb3,eb3,kb3,hy3⟩:=aE hy2
 obtain⟨b3,rfl⟩:=aU kb3
 obtain⟨xb4,rb4,eb4,kb4,hy4⟩:=aE hy3
 obtain⟨b4,rfl⟩:=aU kb4
 obtain⟨xb5,rb5,eb5,kb5,hy5⟩:=aE hy4
 obtain⟨b5,rfl⟩:=aU kb5
 obtain⟨xb6,rb6,eb6,kb6,hy6⟩:=aE hy5
 obtain⟨b6,rfl⟩:=aU kb6
 obtain⟨xb7,rb7,eb7,kb7,hy7⟩:=aE hy6
 obtain⟨b7,rfl⟩:=aU kb7
 obtain⟨xb8,rb8,eb8,kb8,hy8⟩:=aE hy7
 obtain⟨b8,rfl⟩:=aU kb8
 have zb:=dD hy8
 subst zb
 subst eb8
 subst eb7
 subst eb6
 subst eb5
 subst eb4
 subst eb3
 subst eb2
 subst eb1
 subst eb0
 have hS:Tryz.prog.underlying 53=some (.struct (Tryz.prog.fieldsOf 53)):=by kernel_rfl
 simp only[Op.equal,Op.maxDepth]
 rw[show (10000:Nat)=9999+1 from rfl,run_equalIn_agg w 9999 53 _ _ hS (by kernel_rfl)]
 simp only[Program.fieldsOf,Tryz.underlying53,zA,zB,D.val]
 go_simp
 simp only[eqAll,eqD]
 refine Decidable.byCases (p:=a0=b0) (λh0=>?_) (λh0=>by simp[h0])
 refine Decidable.byCases (p:=a1=b1) (λh1=>?_) (λh1=>by simp[h0,h1])
 refine Decidable.byCases (p:=a2=b2) (λh2=>?_) (λh2=>by simp[h0,h1,h2])
 refine Decidable.byCases (p:=a3=b3) (λh3=>?_) (λh3=>by simp[h0,h1,h2,h3])
 refine Decidable.byCases (p:=a4=b4) (λh4=>?_) (λh4=>by simp[h0,h1,h2,h3,h4])
 refine Decidable.byCases (p:=a5=b5) (λh5=>?_) (λh5=>by simp[h0,h1,h2,h3,h4,h5])
 refine Decidable.byCases (p:=a6=b6) (λh6=>?_) (λh6=>by simp[h0,h1,h2,h3,h4,h5,h6])
 refine Decidable.byCases (p:=a7=b7) (λh7=>?_) (λh7=>by simp[h0,h1,h2,h3,h4,h5,h6,h7])
 refine Decidable.byCases (p:=a8=b8) (λh8=>?_) (λh8=>by simp[h0,h1,h2,h3,h4,h5,h6,h7,h8])
 simp[h0,h1,h2,h3,h4,h5,h6,h7,h8]
theorem eq_93:EqOk Tryz.prog 93 [.int .i64,.int .i64,.int .i64,.int .i64,.int .i64,.int .i64,.int .i64,.int .i64]:=by
 refine⟨by kernel_rfl,λxs ys hx hy w=>?_⟩
 obtain⟨xa0,ra0,ea0,ka0,hx0⟩:=aE hx
 obtain⟨a0,rfl⟩:=aU ka0
 obtain⟨xa1,ra1,ea1,ka1,hx1⟩:=aE hx0
 obtain⟨a1,rfl⟩:=aU ka1
 obtain⟨xa2,ra2,ea2,ka2,hx2⟩:=aE hx1
 obtain⟨a2,rfl⟩:=aU ka2
 obtain⟨xa3,ra3,ea3,ka3,hx3⟩:=aE hx2
 obtain⟨a3,rfl⟩:=aU ka3
 obtain⟨xa4,ra4,ea4,ka4,hx4⟩:=aE hx3
 obtain⟨a4,rfl⟩:=aU ka4
 obtain⟨xa5,ra5,ea5,ka5,hx5⟩:=aE hx4
 obtain⟨a5,rfl⟩:=aU ka5
 obtain⟨xa6,ra6,ea6,ka6,hx6⟩:=aE hx5
 obtain⟨a6,rfl⟩:=aU ka6
 obtain⟨xa7,ra7,ea7,ka7,hx7⟩:=aE hx6
 obtain⟨a7,rfl⟩:=aU ka7
 have za:=dD hx7
 subst za
 subst ea7
 subst ea6
 subst ea5
 subst ea4
 subst ea3
 subst ea2
 subst ea1
 subst ea0
 obtain⟨xb0,rb0,eb0,kb0,hy0⟩:=aE hy
 obtain⟨b0,rfl⟩:=aU kb0
 obtain⟨xb1,rb1,eb1,kb1,hy1⟩:=aE hy0
 obtain⟨b1,rfl⟩:=aU kb1
 obtain⟨xb2,rb2,eb2,kb2,hy2⟩:=aE hy1
 obtain⟨b2,rfl⟩:=aU kb2
 obtain⟨xb3,rb3,eb3,kb3,hy3⟩:=aE hy2
 obtain⟨b3,rfl⟩:=aU kb3
 obtain⟨xb4,rb4,eb4,kb4,hy4⟩:=aE hy3
 obtain⟨b4,rfl⟩:=aU kb4
 obtain⟨xb5,rb5,eb5,kb5,hy5⟩:=aE hy4
 obtain⟨b5,rfl⟩:=aU kb5
 obtain⟨xb6,rb6,eb6,kb6,hy6⟩:=aE hy5
 obtain⟨b6,rfl⟩:=aU kb6
 obtain⟨xb7,rb7,eb7,kb7,hy7⟩:=aE hy6
 obtain⟨b7,rfl⟩:=aU kb7
 have zb:=dD hy7
 subst zb
 subst eb7
 subst eb6
 subst eb5
 subst eb4
 subst eb3
 subst eb2
 subst eb1
 subst eb0
 have hS:Tryz.prog.underlying 93=some (.struct (Tryz.prog.fieldsOf 93)):=by kernel_rfl
 simp only[Op.equal,Op.maxDepth]
 rw[show (10000:Nat)=9999+1 from rfl,run_equalIn_agg w 9999 93 _ _ hS (by kernel_rfl)]
 simp only[Program.fieldsOf,Tryz.underlying93,zA,zB,D.val]
 go_simp
 simp only[eqAll,eqD]
 refine Decidable.byCases (p:=a0=b0) (λh0=>?_) (λh0=>by simp[h0])
 refine Decidable.byCases (p:=a1=b1) (λh1=>?_) (λh1=>by simp[h0,h1])
 refine Decidable.byCases (p:=a2=b2) (λh2=>?_) (λh2=>by simp[h0,h1,h2])
 refine Decidable.byCases (p:=a3=b3) (λh3=>?_) (λh3=>by simp[h0,h1,h2,h3])
 refine Decidable.byCases (p:=a4=b4) (λh4=>?_) (λh4=>by simp[h0,h1,h2,h3,h4])
 refine Decidable.byCases (p:=a5=b5) (λh5=>?_) (λh5=>by simp[h0,h1,h2,h3,h4,h5])
 refine Decidable.byCases (p:=a6=b6) (λh6=>?_) (λh6=>by simp[h0,h1,h2,h3,h4,h5,h6])
 refine Decidable.byCases (p:=a7=b7) (λh7=>?_) (λh7=>by simp[h0,h1,h2,h3,h4,h5,h6,h7])
 simp[h0,h1,h2,h3,h4,h5,h6,h7]
theorem eq_139:EqOk Tryz.prog 139 [.int .u8,.int .i64]:=by
 refine⟨by kernel_rfl,λxs ys hx hy w=>?_⟩
 obtain⟨xa0,ra0,ea0,ka0,hx0⟩:=aE hx
 obtain⟨a0,rfl⟩:=aU ka0
 obtain⟨xa1,ra1,ea1,ka1,hx1⟩:=aE hx0
 obtain⟨a1,rfl⟩:=aU ka1
 have za:=dD hx1
 subst za
 subst ea1
 subst ea0
 obtain⟨xb0,rb0,eb0,kb0,hy0⟩:=aE hy
 obtain⟨b0,rfl⟩:=aU kb0
 obtain⟨xb1,rb1,eb1,kb1,hy1⟩:=aE hy0
 obtain⟨b1,rfl⟩:=aU kb1
 have zb:=dD hy1
 subst zb
 subst eb1
 subst eb0
 have hS:Tryz.prog.underlying 139=some (.struct (Tryz.prog.fieldsOf 139)):=by kernel_rfl
 simp only[Op.equal,Op.maxDepth]
 rw[show (10000:Nat)=9999+1 from rfl,run_equalIn_agg w 9999 139 _ _ hS (by kernel_rfl)]
 simp only[Program.fieldsOf,Tryz.underlying139,zA,zB,D.val]
 go_simp
 simp only[eqAll,eqD]
 refine Decidable.byCases (p:=a0=b0) (λh0=>?_) (λh0=>by simp[h0])
 refine Decidable.byCases (p:=a1=b1) (λh1=>?_) (λh1=>by simp[h0,h1])
 simp[h0,h1]
def eqTab:TypeId→Option (List SK)
 | 24=>some [.int .i64,.int .i64,.int .i64]
 | 44=>some [.int .i64,.int .i64]
 | 53=>some [.int .i64,.int .i64,.int .i64,.int .i64,.int .i64,.int .i64,.int .i64,.int .i64,.int .i64]
 | 93=>some [.int .i64,.int .i64,.int .i64,.int .i64,.int .i64,.int .i64,.int .i64,.int .i64]
 | 139=>some [.int .u8,.int .i64]
 | _=>none
theorem eqTab_ok:∀t ks,eqTab t=some ks→EqOk Tryz.prog t ks:=by
 intro t ks h
 unfold eqTab at h
 split at h
 ·injection h with h;subst h;exact eq_24
 ·injection h with h;subst h;exact eq_44
 ·injection h with h;subst h;exact eq_53
 ·injection h with h;subst h;exact eq_93
 ·injection h with h;subst h;exact eq_139
 ·cases h
def gP:Pg Tryz.prog:=⟨by kernel_rfl,eqTab,eqTab_ok⟩
@[simp] theorem gE_24:gP.E 24=some [.int .i64,.int .i64,.int .i64]:=nr rfl
@[simp] theorem gE_44:gP.E 44=some [.int .i64,.int .i64]:=nr rfl
@[simp] theorem gE_53:gP.E 53=some [.int .i64,.int .i64,.int .i64,.int .i64,.int .i64,.int .i64,.int .i64,.int .i64,.int .i64]:=nr rfl
@[simp] theorem gE_93:gP.E 93=some [.int .i64,.int .i64,.int .i64,.int .i64,.int .i64,.int .i64,.int .i64,.int .i64]:=nr rfl
@[simp] theorem gE_139:gP.E 139=some [.int .u8,.int .i64]:=nr rfl
end Go.Proofs.YtgojngpeaknbnabGreatDoor
