import Derived.Test.YtgojngpeaknbnaaGreatDoorS3
import Derived.Laws.StructEq
import Derived.ChangeKeysEq
open List renaming map_cons → zA,map_nil → zB
namespace Go.Proofs.YtgojngpeaknbnaaGreatDoor
open Go.RowKit
set_option linter.unusedSimpArgs false
@[simp] theorem und_2:Tryz.prog.underlying 2=some (.int .i64):=nr (by kernel_rfl)
@[simp] theorem sz_2:sizeT Tryz.prog 2=some 1:=nr (by kernel_rfl)
@[simp] theorem ag_2:aggT Tryz.prog 2=some false:=nr (by kernel_rfl)
@[simp] theorem zero_2:zeroV Tryz.prog 2=some (.d (.int .i64 0)):=nr (by kernel_rfl)
@[simp] theorem und_3:Tryz.prog.underlying 3=some (.int .i64):=nr (by kernel_rfl)
@[simp] theorem sz_3:sizeT Tryz.prog 3=some 1:=nr (by kernel_rfl)
@[simp] theorem ag_3:aggT Tryz.prog 3=some false:=nr (by kernel_rfl)
@[simp] theorem fP:zeroV Tryz.prog 3=some (.d (.int .i64 0)):=nr (by kernel_rfl)
@[simp] theorem und_4:Tryz.prog.underlying 4=some (.bool):=nr (by kernel_rfl)
@[simp] theorem sz_4:sizeT Tryz.prog 4=some 1:=nr (by kernel_rfl)
@[simp] theorem ag_4:aggT Tryz.prog 4=some false:=nr (by kernel_rfl)
@[simp] theorem zero_4:zeroV Tryz.prog 4=some (.d (.bool false)):=nr (by kernel_rfl)
@[simp] theorem und_5:Tryz.prog.underlying 5=some (.int .u8):=nr (by kernel_rfl)
@[simp] theorem sz_5:sizeT Tryz.prog 5=some 1:=nr (by kernel_rfl)
@[simp] theorem ag_5:aggT Tryz.prog 5=some false:=nr (by kernel_rfl)
@[simp] theorem zero_5:zeroV Tryz.prog 5=some (.d (.int .u8 0)):=nr (by kernel_rfl)
@[simp] theorem und_9:Tryz.prog.underlying 9=some (.string):=nr (by kernel_rfl)
@[simp] theorem sz_9:sizeT Tryz.prog 9=some 1:=nr (by kernel_rfl)
@[simp] theorem ag_9:aggT Tryz.prog 9=some false:=nr (by kernel_rfl)
@[simp] theorem zero_9:zeroV Tryz.prog 9=some (.d (.str [])):=nr (by kernel_rfl)
@[simp] theorem und_21:Tryz.prog.underlying 21=some (.int .i32):=nr (by kernel_rfl)
@[simp] theorem und_22:Tryz.prog.underlying 22=some (.slice 56):=nr (by kernel_rfl)
@[simp] theorem sz_22:sizeT Tryz.prog 22=some 1:=nr (by kernel_rfl)
@[simp] theorem ag_22:aggT Tryz.prog 22=some false:=nr (by kernel_rfl)
@[simp] theorem sz_24:sizeT Tryz.prog 24=some 3:=nr (by kernel_rfl)
@[simp] theorem ag_24:aggT Tryz.prog 24=some true:=nr (by kernel_rfl)
@[simp] theorem zero_24:zeroV Tryz.prog 24=some (.agg [.d (.int .i64 0),.d (.int .i64 0),.d (.int .i64 0)]):=nr (by kernel_rfl)
@[simp] theorem fld_24_0:aP Tryz.prog 24 0=some (0,2):=nr (by kernel_rfl)
@[simp] theorem fld_24_1:aP Tryz.prog 24 1=some (1,2):=nr (by kernel_rfl)
@[simp] theorem fld_24_2:aP Tryz.prog 24 2=some (2,2):=nr (by kernel_rfl)
@[simp] theorem pl_24:ca Tryz.prog 24=some (.struct [(0,1),(1,1),(2,1)]):=nr (by kernel_rfl)
@[simp] theorem sz_26:sizeT Tryz.prog 26=some 7:=nr (by kernel_rfl)
@[simp] theorem ag_26:aggT Tryz.prog 26=some true:=nr (by kernel_rfl)
@[simp] theorem fld_26_0:aP Tryz.prog 26 0=some (0,22):=nr (by kernel_rfl)
@[simp] theorem fld_26_1:aP Tryz.prog 26 1=some (1,24):=nr (by kernel_rfl)
@[simp] theorem fld_26_2:aP Tryz.prog 26 2=some (4,24):=nr (by kernel_rfl)
@[simp] theorem sz_29:sizeT Tryz.prog 29=some 1:=nr (by kernel_rfl)
@[simp] theorem ag_29:aggT Tryz.prog 29=some false:=nr (by kernel_rfl)
@[simp] theorem sz_33:sizeT Tryz.prog 33=some 4:=nr (by kernel_rfl)
@[simp] theorem ag_33:aggT Tryz.prog 33=some true:=nr (by kernel_rfl)
@[simp] theorem zero_33:zeroV Tryz.prog 33=some (.agg [.d (.int .i64 0),.d (.bool false),.d (.int .i64 0),.d (.int .i64 0)]):=nr (by kernel_rfl)
@[simp] theorem fld_33_0:aP Tryz.prog 33 0=some (0,2):=nr (by kernel_rfl)
@[simp] theorem fld_33_1:aP Tryz.prog 33 1=some (1,4):=nr (by kernel_rfl)
@[simp] theorem fld_33_2:aP Tryz.prog 33 2=some (2,2):=nr (by kernel_rfl)
@[simp] theorem fld_33_3:aP Tryz.prog 33 3=some (3,3):=nr (by kernel_rfl)
@[simp] theorem pl_33:ca Tryz.prog 33=some (.struct [(0,1),(1,1),(2,1),(3,1)]):=nr (by kernel_rfl)
@[simp] theorem und_35:Tryz.prog.underlying 35=some (.array 6 24):=nr (by kernel_rfl)
@[simp] theorem sz_35:sizeT Tryz.prog 35=some 18:=nr (by kernel_rfl)
@[simp] theorem und_36:Tryz.prog.underlying 36=some (.slice 67):=nr (by kernel_rfl)
@[simp] theorem sz_36:sizeT Tryz.prog 36=some 1:=nr (by kernel_rfl)
@[simp] theorem ag_36:aggT Tryz.prog 36=some false:=nr (by kernel_rfl)
@[simp] theorem app_36:appT Tryz.prog 36=some (67,2):=nr (by kernel_rfl)
@[simp] theorem sz_38:sizeT Tryz.prog 38=some 19:=nr (by kernel_rfl)
@[simp] theorem ag_38:aggT Tryz.prog 38=some true:=nr (by kernel_rfl)
@[simp] theorem zero_38:zeroV Tryz.prog 38=some (.agg [.d (.int .i64 0),.d (.int .i64 0),.d (.int .i64 0),.d (.int .i64 0),.d (.int .i64 0),.d (.int .i64 0),.d (.int .i64 0),.d (.int .i64 0),.d (.int .i64 0),.d (.int .i64 0),.d (.int .i64 0),.d (.int .i64 0),.d (.int .i64 0),.d (.int .i64 0),.d (.int .i64 0),.d (.int .i64 0),.d (.int .i64 0),.d (.int .i64 0),.nil]):=nr (by kernel_rfl)
@[simp] theorem fld_38_0:aP Tryz.prog 38 0=some (0,35):=nr (by kernel_rfl)
@[simp] theorem fld_38_1:aP Tryz.prog 38 1=some (18,36):=nr (by kernel_rfl)
@[simp] theorem und_40:Tryz.prog.underlying 40=some (.slice 47):=nr (by kernel_rfl)
@[simp] theorem app_40:appT Tryz.prog 40=some (47,9):=nr (by kernel_rfl)
@[simp] theorem sz_42:sizeT Tryz.prog 42=some 2:=nr (by kernel_rfl)
@[simp] theorem ag_42:aggT Tryz.prog 42=some true:=nr (by kernel_rfl)
@[simp] theorem zero_42:zeroV Tryz.prog 42=some (.agg [.d (.int .i64 0),.d (.int .i64 0)]):=nr (by kernel_rfl)
@[simp] theorem fld_42_1:aP Tryz.prog 42 1=some (1,29):=nr (by kernel_rfl)
@[simp] theorem pl_42:ca Tryz.prog 42=some (.struct [(0,1),(1,1)]):=nr (by kernel_rfl)
@[simp] theorem sz_47:sizeT Tryz.prog 47=some 9:=nr (by kernel_rfl)
@[simp] theorem ag_47:aggT Tryz.prog 47=some true:=nr (by kernel_rfl)
@[simp] theorem zero_47:zeroV Tryz.prog 47=some (.agg [.d (.int .i64 0),.d (.int .i64 0),.d (.int .i64 0),.d (.int .i64 0),.d (.int .i64 0),.d (.int .i64 0),.d (.int .i64 0),.d (.int .i64 0),.d (.int .i64 0)]):=nr (by kernel_rfl)
@[simp] theorem fld_47_0:aP Tryz.prog 47 0=some (0,24):=nr (by kernel_rfl)
@[simp] theorem fld_47_1:aP Tryz.prog 47 1=some (3,24):=nr (by kernel_rfl)
@[simp] theorem fld_47_2:aP Tryz.prog 47 2=some (6,2):=nr (by kernel_rfl)
@[simp] theorem fld_47_3:aP Tryz.prog 47 3=some (7,3):=nr (by kernel_rfl)
@[simp] theorem fld_47_4:aP Tryz.prog 47 4=some (8,3):=nr (by kernel_rfl)
@[simp] theorem pl_47:ca Tryz.prog 47=some (.struct [(0,3),(3,3),(6,1),(7,1),(8,1)]):=nr (by kernel_rfl)
@[simp] theorem sz_51:sizeT Tryz.prog 51=some 2:=nr (by kernel_rfl)
@[simp] theorem ag_51:aggT Tryz.prog 51=some true:=nr (by kernel_rfl)
@[simp] theorem zero_51:zeroV Tryz.prog 51=some (.agg [.d (.int .i64 0),.d (.int .i64 0)]):=nr (by kernel_rfl)
@[simp] theorem fld_51_0:aP Tryz.prog 51 0=some (0,2):=nr (by kernel_rfl)
@[simp] theorem fld_51_1:aP Tryz.prog 51 1=some (1,2):=nr (by kernel_rfl)
@[simp] theorem pl_51:ca Tryz.prog 51=some (.struct [(0,1),(1,1)]):=nr (by kernel_rfl)
@[simp] theorem sz_53:sizeT Tryz.prog 53=some 7:=nr (by kernel_rfl)
@[simp] theorem ag_53:aggT Tryz.prog 53=some true:=nr (by kernel_rfl)
@[simp] theorem zero_53:zeroV Tryz.prog 53=some (.agg [.d (.int .i64 0),.d (.int .i64 0),.d (.int .i64 0),.d (.int .i64 0),.d (.int .i64 0),.d (.int .i64 0),.d (.int .i64 0)]):=nr (by kernel_rfl)
@[simp] theorem fld_53_0:aP Tryz.prog 53 0=some (0,3):=nr (by kernel_rfl)
@[simp] theorem fld_53_1:aP Tryz.prog 53 1=some (1,24):=nr (by kernel_rfl)
@[simp] theorem fld_53_2:aP Tryz.prog 53 2=some (4,51):=nr (by kernel_rfl)
@[simp] theorem fld_53_3:aP Tryz.prog 53 3=some (6,2):=nr (by kernel_rfl)
@[simp] theorem pl_53:ca Tryz.prog 53=some (.struct [(0,1),(1,3),(4,2),(6,1)]):=nr (by kernel_rfl)
@[simp] theorem und_54:Tryz.prog.underlying 54=some (.slice 53):=nr (by kernel_rfl)
@[simp] theorem sz_54:sizeT Tryz.prog 54=some 1:=nr (by kernel_rfl)
@[simp] theorem ag_54:aggT Tryz.prog 54=some false:=nr (by kernel_rfl)
@[simp] theorem sz_56:sizeT Tryz.prog 56=some 2:=nr (by kernel_rfl)
@[simp] theorem ag_56:aggT Tryz.prog 56=some true:=nr (by kernel_rfl)
@[simp] theorem zero_56:zeroV Tryz.prog 56=some (.agg [.d (.int .i64 0),.nil]):=nr (by kernel_rfl)
@[simp] theorem fld_56_0:aP Tryz.prog 56 0=some (0,3):=nr (by kernel_rfl)
@[simp] theorem fld_56_1:aP Tryz.prog 56 1=some (1,54):=nr (by kernel_rfl)
@[simp] theorem pl_56:ca Tryz.prog 56=some (.struct [(0,1),(1,1)]):=nr (by kernel_rfl)
@[simp] theorem und_57:Tryz.prog.underlying 57=some (.slice 24):=nr (by kernel_rfl)
@[simp] theorem app_57:appT Tryz.prog 57=some (24,3):=nr (by kernel_rfl)
@[simp] theorem und_60:Tryz.prog.underlying 60=some (.slice 2):=nr (by kernel_rfl)
@[simp] theorem sz_60:sizeT Tryz.prog 60=some 1:=nr (by kernel_rfl)
@[simp] theorem ag_60:aggT Tryz.prog 60=some false:=nr (by kernel_rfl)
@[simp] theorem app_60:appT Tryz.prog 60=some (2,1):=nr (by kernel_rfl)
@[simp] theorem und_61:Tryz.prog.underlying 61=some (.slice 96):=nr (by kernel_rfl)
@[simp] theorem sz_61:sizeT Tryz.prog 61=some 1:=nr (by kernel_rfl)
@[simp] theorem ag_61:aggT Tryz.prog 61=some false:=nr (by kernel_rfl)
@[simp] theorem kk:zeroV Tryz.prog 61=some (.nil):=nr (by kernel_rfl)
@[simp] theorem app_61:appT Tryz.prog 61=some (96,3):=nr (by kernel_rfl)
@[simp] theorem und_65:Tryz.prog.underlying 65=some (.slice 3):=nr (by kernel_rfl)
@[simp] theorem sz_67:sizeT Tryz.prog 67=some 2:=nr (by kernel_rfl)
@[simp] theorem ag_67:aggT Tryz.prog 67=some true:=nr (by kernel_rfl)
@[simp] theorem zero_67:zeroV Tryz.prog 67=some (.agg [.d (.int .i64 0),.d (.int .i64 0)]):=nr (by kernel_rfl)
@[simp] theorem fld_67_0:aP Tryz.prog 67 0=some (0,2):=nr (by kernel_rfl)
@[simp] theorem fld_67_1:aP Tryz.prog 67 1=some (1,2):=nr (by kernel_rfl)
@[simp] theorem pl_67:ca Tryz.prog 67=some (.struct [(0,1),(1,1)]):=nr (by kernel_rfl)
@[simp] theorem und_71:Tryz.prog.underlying 71=some (.slice 119):=nr (by kernel_rfl)
@[simp] theorem sz_71:sizeT Tryz.prog 71=some 1:=nr (by kernel_rfl)
@[simp] theorem ag_71:aggT Tryz.prog 71=some false:=nr (by kernel_rfl)
@[simp] theorem app_71:appT Tryz.prog 71=some (119,2):=nr (by kernel_rfl)
@[simp] theorem sz_73:sizeT Tryz.prog 73=some 2:=nr (by kernel_rfl)
@[simp] theorem ag_73:aggT Tryz.prog 73=some true:=nr (by kernel_rfl)
@[simp] theorem zero_73:zeroV Tryz.prog 73=some (.agg [.nil,.nil]):=nr (by kernel_rfl)
@[simp] theorem fld_73_0:aP Tryz.prog 73 0=some (0,61):=nr (by kernel_rfl)
@[simp] theorem fld_73_1:aP Tryz.prog 73 1=some (1,71):=nr (by kernel_rfl)
@[simp] theorem pl_73:ca Tryz.prog 73=some (.struct [(0,1),(1,1)]):=nr (by kernel_rfl)
@[simp] theorem sz_85:sizeT Tryz.prog 85=some 8:=nr (by kernel_rfl)
@[simp] theorem ag_85:aggT Tryz.prog 85=some true:=nr (by kernel_rfl)
@[simp] theorem zero_85:zeroV Tryz.prog 85=some (.agg [.d (.int .i64 0),.d (.int .i64 0),.d (.int .i64 0),.d (.int .i64 0),.d (.int .i64 0),.d (.int .i64 0),.d (.int .i64 0),.d (.int .i64 0)]):=nr (by kernel_rfl)
@[simp] theorem fld_85_0:aP Tryz.prog 85 0=some (0,2):=nr (by kernel_rfl)
@[simp] theorem fld_85_1:aP Tryz.prog 85 1=some (1,2):=nr (by kernel_rfl)
@[simp] theorem fld_85_2:aP Tryz.prog 85 2=some (2,2):=nr (by kernel_rfl)
@[simp] theorem fld_85_3:aP Tryz.prog 85 3=some (3,2):=nr (by kernel_rfl)
@[simp] theorem fld_85_4:aP Tryz.prog 85 4=some (4,2):=nr (by kernel_rfl)
@[simp] theorem fld_85_5:aP Tryz.prog 85 5=some (5,2):=nr (by kernel_rfl)
@[simp] theorem fld_85_6:aP Tryz.prog 85 6=some (6,2):=nr (by kernel_rfl)
@[simp] theorem fld_85_7:aP Tryz.prog 85 7=some (7,2):=nr (by kernel_rfl)
@[simp] theorem pl_85:ca Tryz.prog 85=some (.struct [(0,1),(1,1),(2,1),(3,1),(4,1),(5,1),(6,1),(7,1)]):=nr (by kernel_rfl)
@[simp] theorem und_91:Tryz.prog.underlying 91=some (.slice 5):=nr (by kernel_rfl)
@[simp] theorem sz_91:sizeT Tryz.prog 91=some 1:=nr (by kernel_rfl)
@[simp] theorem ag_91:aggT Tryz.prog 91=some false:=nr (by kernel_rfl)
@[simp] theorem app_91:appT Tryz.prog 91=some (5,1):=nr (by kernel_rfl)
@[simp] theorem fld_93_1:aP Tryz.prog 93 1=some (1,91):=nr (by kernel_rfl)
@[simp] theorem und_94:Tryz.prog.underlying 94=some (.slice 127):=nr (by kernel_rfl)
@[simp] theorem sz_94:sizeT Tryz.prog 94=some 1:=nr (by kernel_rfl)
@[simp] theorem ag_94:aggT Tryz.prog 94=some false:=nr (by kernel_rfl)
@[simp] theorem kj:appT Tryz.prog 94=some (127,2):=nr (by kernel_rfl)
@[simp] theorem sz_96:sizeT Tryz.prog 96=some 3:=nr (by kernel_rfl)
@[simp] theorem ag_96:aggT Tryz.prog 96=some true:=nr (by kernel_rfl)
@[simp] theorem zero_96:zeroV Tryz.prog 96=some (.agg [.d (.bool false),.nil,.d (.str [])]):=nr (by kernel_rfl)
@[simp] theorem fld_96_0:aP Tryz.prog 96 0=some (0,4):=nr (by kernel_rfl)
@[simp] theorem fld_96_1:aP Tryz.prog 96 1=some (1,94):=nr (by kernel_rfl)
@[simp] theorem fld_96_2:aP Tryz.prog 96 2=some (2,9):=nr (by kernel_rfl)
@[simp] theorem pl_96:ca Tryz.prog 96=some (.struct [(0,1),(1,1),(2,1)]):=nr (by kernel_rfl)
@[simp] theorem sz_119:sizeT Tryz.prog 119=some 2:=nr (by kernel_rfl)
@[simp] theorem ag_119:aggT Tryz.prog 119=some true:=nr (by kernel_rfl)
@[simp] theorem zero_119:zeroV Tryz.prog 119=some (.agg [.d (.int .i64 0),.nil]):=nr (by kernel_rfl)
@[simp] theorem fld_119_0:aP Tryz.prog 119 0=some (0,2):=nr (by kernel_rfl)
@[simp] theorem fld_119_1:aP Tryz.prog 119 1=some (1,61):=nr (by kernel_rfl)
@[simp] theorem pl_119:ca Tryz.prog 119=some (.struct [(0,1),(1,1)]):=nr (by kernel_rfl)
@[simp] theorem sz_127:sizeT Tryz.prog 127=some 2:=nr (by kernel_rfl)
@[simp] theorem ag_127:aggT Tryz.prog 127=some true:=nr (by kernel_rfl)
@[simp] theorem zero_127:zeroV Tryz.prog 127=some (.agg [.d (.int .u8 0),.d (.int .i64 0)]):=nr (by kernel_rfl)
@[simp] theorem fld_127_0:aP Tryz.prog 127 0=some (0,5):=nr (by kernel_rfl)
@[simp] theorem fld_127_1:aP Tryz.prog 127 1=some (1,2):=nr (by kernel_rfl)
@[simp] theorem pl_127:ca Tryz.prog 127=some (.struct [(0,1),(1,1)]):=nr (by kernel_rfl)
@[simp] theorem sz_129:sizeT Tryz.prog 129=some 7:=nr (by kernel_rfl)
@[simp] theorem ag_129:aggT Tryz.prog 129=some true:=nr (by kernel_rfl)
@[simp] theorem zero_129:zeroV Tryz.prog 129=some (.agg [.d (.int .i64 0),.d (.int .i64 0),.d (.int .i64 0),.d (.int .i64 0),.d (.int .i64 0),.d (.int .i64 0),.d (.bool false)]):=nr (by kernel_rfl)
@[simp] theorem pl_129:ca Tryz.prog 129=some (.struct [(0,1),(1,1),(2,1),(3,1),(4,1),(5,1),(6,1)]):=nr (by kernel_rfl)
@[simp] theorem und_155:Tryz.prog.underlying 155=some (.slice 9):=nr (by kernel_rfl)
@[simp] theorem app_155:appT Tryz.prog 155=some (9,1):=nr (by kernel_rfl)
@[simp] theorem sz_165:sizeT Tryz.prog 165=some 5:=nr (by kernel_rfl)
@[simp] theorem zero_165:zeroV Tryz.prog 165=some (.agg [.d (.str []),.d (.int .i64 0),.d (.bool false),.nil,.d (.str [])]):=nr (by kernel_rfl)
@[simp] theorem fld_165_0:aP Tryz.prog 165 0=some (0,9):=nr (by kernel_rfl)
@[simp] theorem fld_165_1:aP Tryz.prog 165 1=some (1,3):=nr (by kernel_rfl)
@[simp] theorem fld_165_2:aP Tryz.prog 165 2=some (2,96):=nr (by kernel_rfl)
@[simp] theorem pl_165:ca Tryz.prog 165=some (.struct [(0,1),(1,1),(2,3)]):=nr (by kernel_rfl)
@[simp] theorem iY:Tryz.prog.underlying 177=some (.map 2 61):=nr (by kernel_rfl)
@[simp] theorem sz_177:sizeT Tryz.prog 177=some 1:=nr (by kernel_rfl)
@[simp] theorem ag_177:aggT Tryz.prog 177=some false:=nr (by kernel_rfl)
@[simp] theorem und_178:Tryz.prog.underlying 178=some (.map 2 3):=nr (by kernel_rfl)
@[simp] theorem sz_178:sizeT Tryz.prog 178=some 1:=nr (by kernel_rfl)
@[simp] theorem ag_178:aggT Tryz.prog 178=some false:=nr (by kernel_rfl)
@[simp] theorem und_179:Tryz.prog.underlying 179=some (.map 2 2):=nr (by kernel_rfl)
@[simp] theorem sz_179:sizeT Tryz.prog 179=some 1:=nr (by kernel_rfl)
@[simp] theorem ag_179:aggT Tryz.prog 179=some false:=nr (by kernel_rfl)
@[simp] theorem zero_181:zeroV Tryz.prog 181=some (.agg [.d (.other (.map none)),.d (.other (.map none)),.d (.other (.map none)),.d (.other (.map none)),.d (.other (.map none))]):=nr (by kernel_rfl)
@[simp] theorem fld_181_0:aP Tryz.prog 181 0=some (0,177):=nr (by kernel_rfl)
@[simp] theorem fld_181_1:aP Tryz.prog 181 1=some (1,178):=nr (by kernel_rfl)
@[simp] theorem fld_181_2:aP Tryz.prog 181 2=some (2,178):=nr (by kernel_rfl)
@[simp] theorem fld_181_3:aP Tryz.prog 181 3=some (3,179):=nr (by kernel_rfl)
@[simp] theorem fld_181_4:aP Tryz.prog 181 4=some (4,177):=nr (by kernel_rfl)
@[simp] theorem pl_181:ca Tryz.prog 181=some (.struct [(0,1),(1,1),(2,1),(3,1),(4,1)]):=nr (by kernel_rfl)
@[simp] theorem und_186:Tryz.prog.underlying 186=some (.slice 190):=nr (by kernel_rfl)
@[simp] theorem app_186:appT Tryz.prog 186=some (190,4):=nr (by kernel_rfl)
@[simp] theorem sz_190:sizeT Tryz.prog 190=some 4:=nr (by kernel_rfl)
@[simp] theorem ag_190:aggT Tryz.prog 190=some true:=nr (by kernel_rfl)
@[simp] theorem zero_190:zeroV Tryz.prog 190=some (.agg [.d (.int .i64 0),.d (.int .i64 0),.d (.int .i64 0),.d (.int .i64 0)]):=nr (by kernel_rfl)
@[simp] theorem fld_190_0:aP Tryz.prog 190 0=some (0,24):=nr (by kernel_rfl)
@[simp] theorem fld_190_1:aP Tryz.prog 190 1=some (3,2):=nr (by kernel_rfl)
@[simp] theorem pl_190:ca Tryz.prog 190=some (.struct [(0,3),(3,1)]):=nr (by kernel_rfl)
@[simp] theorem und_192:Tryz.prog.underlying 192=some (.int .u64):=nr (by kernel_rfl)
@[simp] theorem und_194:Tryz.prog.underlying 194=some (.array 5 2):=nr (by kernel_rfl)
@[simp] theorem und_208:Tryz.prog.underlying 208=some (.slice 61):=nr (by kernel_rfl)
@[simp] theorem app_208:appT Tryz.prog 208=some (61,1):=nr (by kernel_rfl)
@[simp] theorem fh:Tryz.prog.underlying 210=some (.map 5 3):=nr (by kernel_rfl)
@[simp] theorem und_211:Tryz.prog.underlying 211=some (.map 5 4):=nr (by kernel_rfl)
@[simp] theorem und_212:Tryz.prog.underlying 212=some (.map 3 4):=nr (by kernel_rfl)
@[simp] theorem sz_221:sizeT Tryz.prog 221=some 1:=nr (by kernel_rfl)
@[simp] theorem ag_221:aggT Tryz.prog 221=some false:=nr (by kernel_rfl)
@[simp] theorem zero_221:zeroV Tryz.prog 221=some (.d (.other (.pointer none))):=nr (by kernel_rfl)
@[simp] theorem und_222:Tryz.prog.underlying 222=some (.slice 221):=nr (by kernel_rfl)
@[simp] theorem und_232:Tryz.prog.underlying 232=some (.int .u64):=nr (by kernel_rfl)
@[simp] theorem sz_239:sizeT Tryz.prog 239=some 2:=nr (by kernel_rfl)
@[simp] theorem ag_239:aggT Tryz.prog 239=some true:=nr (by kernel_rfl)
@[simp] theorem zero_239:zeroV Tryz.prog 239=some (.agg [.d (.int .u8 0),.d (.other (.pointer none))]):=nr (by kernel_rfl)
@[simp] theorem fld_239_0:aP Tryz.prog 239 0=some (0,5):=nr (by kernel_rfl)
@[simp] theorem fld_239_1:aP Tryz.prog 239 1=some (1,221):=nr (by kernel_rfl)
@[simp] theorem pl_239:ca Tryz.prog 239=some (.struct [(0,1),(1,1)]):=nr (by kernel_rfl)
@[simp] theorem und_240:Tryz.prog.underlying 240=some (.slice 239):=nr (by kernel_rfl)
theorem eq_24:EqOk Tryz.prog 24 [.int .i64,.int .i64,.int .i64]:=by
 refine⟨by kernel_rfl,λxs ys hx hy w=>?_⟩
 obtain⟨xa0,ra0,ea0,ka0,hx0⟩:=aF hx
 obtain⟨a0,rfl⟩:=aV ka0
 obtain⟨xa1,ra1,ea1,ka1,hx1⟩:=aF hx0
 obtain⟨a1,rfl⟩:=aV ka1
 obtain⟨xa2,ra2,ea2,ka2,hx2⟩:=aF hx1
 obtain⟨a2,rfl⟩:=aV ka2
 have za:=dE hx2
 subst za
 subst ea2
 subst ea1
 subst ea0
 obtain⟨xb0,rb0,eb0,kb0,hy0⟩:=aF hy
 obtain⟨b0,rfl⟩:=aV kb0
 obtain⟨xb1,rb1,eb1,kb1,hy1⟩:=aF hy0
 obtain⟨b1,rfl⟩:=aV kb1
 obtain⟨xb2,rb2,eb2,kb2,hy2⟩:=aF hy1
 obtain⟨b2,rfl⟩:=aV kb2
 have zb:=dE hy2
 subst zb
 subst eb2
 subst eb1
 subst eb0
 have hS:Tryz.prog.underlying 24=some (.struct (Tryz.prog.fieldsOf 24)):=by kernel_rfl
 simp only[Op.equal,Op.maxDepth]
 rw[show (10000:Nat)=9999+1 from rfl,run_equalIn_agg w 9999 24 _ _ hS (by kernel_rfl)]
 simp only[Program.fieldsOf,Tryz.underlying24,zA,zB,D.val]
 go_simp
 simp only[eqAll,eqD]
 refine Decidable.byCases (p:=a0=b0) (λh0=>?_) (λh0=>by simp[h0])
 refine Decidable.byCases (p:=a1=b1) (λh1=>?_) (λh1=>by simp[h0,h1])
 refine Decidable.byCases (p:=a2=b2) (λh2=>?_) (λh2=>by simp[h0,h1,h2])
 simp[h0,h1,h2]
theorem eq_42:EqOk Tryz.prog 42 [.int .i64,.int .i64]:=by
 refine⟨by kernel_rfl,λxs ys hx hy w=>?_⟩
 obtain⟨xa0,ra0,ea0,ka0,hx0⟩:=aF hx
 obtain⟨a0,rfl⟩:=aV ka0
 obtain⟨xa1,ra1,ea1,ka1,hx1⟩:=aF hx0
 obtain⟨a1,rfl⟩:=aV ka1
 have za:=dE hx1
 subst za
 subst ea1
 subst ea0
 obtain⟨xb0,rb0,eb0,kb0,hy0⟩:=aF hy
 obtain⟨b0,rfl⟩:=aV kb0
 obtain⟨xb1,rb1,eb1,kb1,hy1⟩:=aF hy0
 obtain⟨b1,rfl⟩:=aV kb1
 have zb:=dE hy1
 subst zb
 subst eb1
 subst eb0
 have hS:Tryz.prog.underlying 42=some (.struct (Tryz.prog.fieldsOf 42)):=by kernel_rfl
 simp only[Op.equal,Op.maxDepth]
 rw[show (10000:Nat)=9999+1 from rfl,run_equalIn_agg w 9999 42 _ _ hS (by kernel_rfl)]
 simp only[Program.fieldsOf,Tryz.underlying42,zA,zB,D.val]
 go_simp
 simp only[eqAll,eqD]
 refine Decidable.byCases (p:=a0=b0) (λh0=>?_) (λh0=>by simp[h0])
 refine Decidable.byCases (p:=a1=b1) (λh1=>?_) (λh1=>by simp[h0,h1])
 simp[h0,h1]
theorem eq_47:EqOk Tryz.prog 47 [.int .i64,.int .i64,.int .i64,.int .i64,.int .i64,.int .i64,.int .i64,.int .i64,.int .i64]:=by
 refine⟨by kernel_rfl,λxs ys hx hy w=>?_⟩
 obtain⟨xa0,ra0,ea0,ka0,hx0⟩:=aF hx
 obtain⟨a0,rfl⟩:=aV ka0
 obtain⟨xa1,ra1,ea1,ka1,hx1⟩:=aF hx0
 obtain⟨a1,rfl⟩:=aV ka1
 obtain⟨xa2,ra2,ea2,ka2,hx2⟩:=aF hx1
 obtain⟨a2,rfl⟩:=aV ka2
 obtain⟨xa3,ra3,ea3,ka3,hx3⟩:=aF hx2
 obtain⟨a3,rfl⟩:=aV ka3
 obtain⟨xa4,ra4,ea4,ka4,hx4⟩:=aF hx3
 obtain⟨a4,rfl⟩:=aV ka4
 obtain⟨xa5,ra5,ea5,ka5,hx5⟩:=aF hx4
 obtain⟨a5,rfl⟩:=aV ka5
 obtain⟨xa6,ra6,ea6,ka6,hx6⟩:=aF hx5
 obtain⟨a6,rfl⟩:=aV ka6
 obtain⟨xa7,ra7,ea7,ka7,hx7⟩:=aF hx6
 obtain⟨a7,rfl⟩:=aV ka7
 obtain⟨xa8,ra8,ea8,ka8,hx8⟩:=aF hx7
 obtain⟨a8,rfl⟩:=aV ka8
 have za:=dE hx8
 subst za
 subst ea8
 subst ea7
 subst ea6
 subst ea5
 subst ea4
 subst ea3
 subst ea2
 subst ea1
 subst ea0
 obtain⟨xb0,rb0,eb0,kb0,hy0⟩:=aF hy
 obtain⟨b0,rfl⟩:=aV kb0
 obtain⟨xb1,rb1,eb1,kb1,hy1⟩:=aF hy0
 obtain⟨b1,rfl⟩:=aV kb1
 obtain⟨xb2,rb2,eb2,kb2,hy2⟩:=aF hy1
 obtain⟨b2,rfl⟩:=aV kb2
 obtain⟨xb3,rb3,eb3,kb3,hy3⟩:=aF hy2
 obtain⟨b3,rfl⟩:=aV kb3
 obtain⟨xb4,rb4,eb4,kb4,hy4⟩:=aF hy3
 obtain⟨b4,rfl⟩:=aV kb4
 obtain⟨xb5,rb5,eb5,kb5,hy5⟩:=aF hy4
 obtain⟨b5,rfl⟩:=aV kb5
 obtain⟨xb6,rb6,eb6,kb6,hy6⟩:=aF hy5
 obtain⟨b6,rfl⟩:=aV kb6
 obtain⟨xb7,rb7,eb7,kb7,hy7⟩:=aF hy6
 obtain⟨b7,rfl⟩:=aV kb7
 obtain⟨xb8,rb8,eb8,kb8,hy8⟩:=aF hy7
 obtain⟨b8,rfl⟩:=aV kb8
 have zb:=dE hy8
 subst zb
 subst eb8
 subst eb7
 subst eb6
 subst eb5
 subst eb4
 subst eb3
 subst eb2
 subst eb1
 subst eb0
 have hS:Tryz.prog.underlying 47=some (.struct (Tryz.prog.fieldsOf 47)):=by kernel_rfl
 simp only[Op.equal,Op.maxDepth]
 rw[show (10000:Nat)=9999+1 from rfl,run_equalIn_agg w 9999 47 _ _ hS (by kernel_rfl)]
 simp only[Program.fieldsOf,Tryz.underlying47,zA,zB,D.val]
 go_simp
 simp only[eqAll,eqD]
 refine Decidable.byCases (p:=a0=b0) (λh0=>?_) (λh0=>by simp[h0])
 refine Decidable.byCases (p:=a1=b1) (λh1=>?_) (λh1=>by simp[h0,h1])
 refine Decidable.byCases (p:=a2=b2) (λh2=>?_) (λh2=>by simp[h0,h1,h2])
 refine Decidable.byCases (p:=a3=b3) (λh3=>?_) (λh3=>by simp[h0,h1,h2,h3])
 refine Decidable.byCases (p:=a4=b4) (λh4=>?_) (λh4=>by simp[h0,h1,h2,h3,h4])
 refine Decidable.byCases (p:=a5=b5) (λh5=>?_) (λh5=>by simp[h0,h1,h2,h3,h4,h5])
 refine Decidable.byCases (p:=a6=b6) (λh6=>?_) (λh6=>by simp[h0,h1,h2,h3,h4,h5,h6])
 refine Decidable.byCases (p:=a7=b7) (λh7=>?_) (λh7=>by simp[h0,h1,h2,h3,h4,h5,h6,h7])
 refine Decidable.byCases (p:=a8=b8) (λh8=>?_) (λh8=>by simp[h0,h1,h2,h3,h4,h5,h6,h7,h8])
 simp[h0,h1,h2,h3,h4,h5,h6,h7,h8]
theorem eq_85:EqOk Tryz.prog 85 [.int .i64,.int .i64,.int .i64,.int .i64,.int .i64,.int .i64,.int .i64,.int .i64]:=by
 refine⟨by kernel_rfl,λxs ys hx hy w=>?_⟩
 obtain⟨xa0,ra0,ea0,ka0,hx0⟩:=aF hx
 obtain⟨a0,rfl⟩:=aV ka0
 obtain⟨xa1,ra1,ea1,ka1,hx1⟩:=aF hx0
 obtain⟨a1,rfl⟩:=aV ka1
 obtain⟨xa2,ra2,ea2,ka2,hx2⟩:=aF hx1
 obtain⟨a2,rfl⟩:=aV ka2
 obtain⟨xa3,ra3,ea3,ka3,hx3⟩:=aF hx2
 obtain⟨a3,rfl⟩:=aV ka3
 obtain⟨xa4,ra4,ea4,ka4,hx4⟩:=aF hx3
 obtain⟨a4,rfl⟩:=aV ka4
 obtain⟨xa5,ra5,ea5,ka5,hx5⟩:=aF hx4
 obtain⟨a5,rfl⟩:=aV ka5
 obtain⟨xa6,ra6,ea6,ka6,hx6⟩:=aF hx5
 obtain⟨a6,rfl⟩:=aV ka6
 obtain⟨xa7,ra7,ea7,ka7,hx7⟩:=aF hx6
 obtain⟨a7,rfl⟩:=aV ka7
 have za:=dE hx7
 subst za
 subst ea7
 subst ea6
 subst ea5
 subst ea4
 subst ea3
 subst ea2
 subst ea1
 subst ea0
 obtain⟨xb0,rb0,eb0,kb0,hy0⟩:=aF hy
 obtain⟨b0,rfl⟩:=aV kb0
 obtain⟨xb1,rb1,eb1,kb1,hy1⟩:=aF hy0
 obtain⟨b1,rfl⟩:=aV kb1
 obtain⟨xb2,rb2,eb2,kb2,hy2⟩:=aF hy1
 obtain⟨b2,rfl⟩:=aV kb2
 obtain⟨xb3,rb3,eb3,kb3,hy3⟩:=aF hy2
 obtain⟨b3,rfl⟩:=aV kb3
 obtain⟨xb4,rb4,eb4,kb4,hy4⟩:=aF hy3
 obtain⟨b4,rfl⟩:=aV kb4
 obtain⟨xb5,rb5,eb5,kb5,hy5⟩:=aF hy4
 obtain⟨b5,rfl⟩:=aV kb5
 obtain⟨xb6,rb6,eb6,kb6,hy6⟩:=aF hy5
 obtain⟨b6,rfl⟩:=aV kb6
 obtain⟨xb7,rb7,eb7,kb7,hy7⟩:=aF hy6
 obtain⟨b7,rfl⟩:=aV kb7
 have zb:=dE hy7
 subst zb
 subst eb7
 subst eb6
 subst eb5
 subst eb4
 subst eb3
 subst eb2
 subst eb1
 subst eb0
 have hS:Tryz.prog.underlying 85=some (.struct (Tryz.prog.fieldsOf 85)):=by kernel_rfl
 simp only[Op.equal,Op.maxDepth]
 rw[show (10000:Nat)=9999+1 from rfl,run_equalIn_agg w 9999 85 _ _ hS (by kernel_rfl)]
 simp only[Program.fieldsOf,Tryz.underlying85,zA,zB,D.val]
 go_simp
 simp only[eqAll,eqD]
 refine Decidable.byCases (p:=a0=b0) (λh0=>?_) (λh0=>by simp[h0])
 refine Decidable.byCases (p:=a1=b1) (λh1=>?_) (λh1=>by simp[h0,h1])
 refine Decidable.byCases (p:=a2=b2) (λh2=>?_) (λh2=>by simp[h0,h1,h2])
 refine Decidable.byCases (p:=a3=b3) (λh3=>?_) (λh3=>by simp[h0,h1,h2,h3])
 refine Decidable.byCases (p:=a4=b4) (λh4=>?_) (λh4=>by simp[h0,h1,h2,h3,h4])
 refine Decidable.byCases (p:=a5=b5) (λh5=>?_) (λh5=>by simp[h0,h1,h2,h3,h4,h5])
 refine Decidable.byCases (p:=a6=b6) (λh6=>?_) (λh6=>by simp[h0,h1,h2,h3,h4,h5,h6])
 refine Decidable.byCases (p:=a7=b7) (λh7=>?_) (λh7=>by simp[h0,h1,h2,h3,h4,h5,h6,h7])
 simp[h0,h1,h2,h3,h4,h5,h6,h7]
theorem eq_127:EqOk Tryz.prog 127 [.int .u8,.int .i64]:=by
 refine⟨by kernel_rfl,λxs ys hx hy w=>?_⟩
 obtain⟨xa0,ra0,ea0,ka0,hx0⟩:=aF hx
 obtain⟨a0,rfl⟩:=aV ka0
 obtain⟨xa1,ra1,ea1,ka1,hx1⟩:=aF hx0
 obtain⟨a1,rfl⟩:=aV ka1
 have za:=dE hx1
 subst za
 subst ea1
 subst ea0
 obtain⟨xb0,rb0,eb0,kb0,hy0⟩:=aF hy
 obtain⟨b0,rfl⟩:=aV kb0
 obtain⟨xb1,rb1,eb1,kb1,hy1⟩:=aF hy0
 obtain⟨b1,rfl⟩:=aV kb1
 have zb:=dE hy1
 subst zb
 subst eb1
 subst eb0
 have hS:Tryz.prog.underlying 127=some (.struct (Tryz.prog.fieldsOf 127)):=by kernel_rfl
 simp only[Op.equal,Op.maxDepth]
 rw[show (10000:Nat)=9999+1 from rfl,run_equalIn_agg w 9999 127 _ _ hS (by kernel_rfl)]
 simp only[Program.fieldsOf,Tryz.underlying127,zA,zB,D.val]
 go_simp
 simp only[eqAll,eqD]
 refine Decidable.byCases (p:=a0=b0) (λh0=>?_) (λh0=>by simp[h0])
 refine Decidable.byCases (p:=a1=b1) (λh1=>?_) (λh1=>by simp[h0,h1])
 simp[h0,h1]
def eqTab:TypeId→Option (List SK)
 | 24=>some [.int .i64,.int .i64,.int .i64]
 | 42=>some [.int .i64,.int .i64]
 | 47=>some [.int .i64,.int .i64,.int .i64,.int .i64,.int .i64,.int .i64,.int .i64,.int .i64,.int .i64]
 | 85=>some [.int .i64,.int .i64,.int .i64,.int .i64,.int .i64,.int .i64,.int .i64,.int .i64]
 | 127=>some [.int .u8,.int .i64]
 | _=>none
theorem eqTab_ok:∀t ks,eqTab t=some ks→EqOk Tryz.prog t ks:=by
 intro t ks h
 unfold eqTab at h
 split at h
 ·injection h with h;subst h;exact eq_24
 ·injection h with h;subst h;exact eq_42
 ·injection h with h;subst h;exact eq_47
 ·injection h with h;subst h;exact eq_85
 ·injection h with h;subst h;exact eq_127
 ·cases h
def gP:Pg Tryz.prog:=⟨by kernel_rfl,eqTab,eqTab_ok⟩
@[simp] theorem gE_24:gP.E 24=some [.int .i64,.int .i64,.int .i64]:=nr rfl
@[simp] theorem gE_42:gP.E 42=some [.int .i64,.int .i64]:=nr rfl
@[simp] theorem gE_47:gP.E 47=some [.int .i64,.int .i64,.int .i64,.int .i64,.int .i64,.int .i64,.int .i64,.int .i64,.int .i64]:=nr rfl
@[simp] theorem gE_85:gP.E 85=some [.int .i64,.int .i64,.int .i64,.int .i64,.int .i64,.int .i64,.int .i64,.int .i64]:=nr rfl
@[simp] theorem gE_127:gP.E 127=some [.int .u8,.int .i64]:=nr rfl
end Go.Proofs.YtgojngpeaknbnaaGreatDoor
