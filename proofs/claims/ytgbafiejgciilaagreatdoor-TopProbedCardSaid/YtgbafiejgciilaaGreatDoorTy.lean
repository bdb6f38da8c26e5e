import Derived.Test.YtgbafiejgciilaaGreatDoorS3
import Derived.Laws.StructEq
import Derived.ChangeKeysEq
open List renaming map_cons → zA,map_nil → zB
namespace Go.Proofs.YtgbafiejgciilaaGreatDoor
open Go.RowKit
set_option linter.unusedSimpArgs false
@[simp] theorem und_2:Tryz.prog.underlying 2=some (.int .i64):=nr (by kernel_rfl)
@[simp] theorem sz_2:sizeT Tryz.prog 2=some 1:=nr (by kernel_rfl)
@[simp] theorem ag_2:aggT Tryz.prog 2=some false:=nr (by kernel_rfl)
@[simp] theorem zero_2:zeroV Tryz.prog 2=some (.d (.int .i64 0)):=nr (by kernel_rfl)
@[simp] theorem und_3:Tryz.prog.underlying 3=some (.int .i64):=nr (by kernel_rfl)
@[simp] theorem sz_3:sizeT Tryz.prog 3=some 1:=nr (by kernel_rfl)
@[simp] theorem ag_3:aggT Tryz.prog 3=some false:=nr (by kernel_rfl)
@[simp] theorem und_4:Tryz.prog.underlying 4=some (.bool):=nr (by kernel_rfl)
@[simp] theorem sz_4:sizeT Tryz.prog 4=some 1:=nr (by kernel_rfl)
@[simp] theorem ag_4:aggT Tryz.prog 4=some false:=nr (by kernel_rfl)
@[simp] theorem zero_4:zeroV Tryz.prog 4=some (.d (.bool false)):=nr (by kernel_rfl)
@[simp] theorem und_5:Tryz.prog.underlying 5=some (.int .u8):=nr (by kernel_rfl)
@[simp] theorem sz_5:sizeT Tryz.prog 5=some 1:=nr (by kernel_rfl)
@[simp] theorem ag_5:aggT Tryz.prog 5=some false:=nr (by kernel_rfl)
@[simp] theorem und_9:Tryz.prog.underlying 9=some (.string):=nr (by kernel_rfl)
@[simp] theorem sz_9:sizeT Tryz.prog 9=some 1:=nr (by kernel_rfl)
@[simp] theorem ag_9:aggT Tryz.prog 9=some false:=nr (by kernel_rfl)
@[simp] theorem sz_23:sizeT Tryz.prog 23=some 3:=nr (by kernel_rfl)
@[simp] theorem ag_23:aggT Tryz.prog 23=some true:=nr (by kernel_rfl)
@[simp] theorem zero_23:zeroV Tryz.prog 23=some (.agg [.d (.int .i64 0),.d (.int .i64 0),.d (.int .i64 0)]):=nr (by kernel_rfl)
@[simp] theorem fld_23_0:aF Tryz.prog 23 0=some (0,2):=nr (by kernel_rfl)
@[simp] theorem fld_23_1:aF Tryz.prog 23 1=some (1,2):=nr (by kernel_rfl)
@[simp] theorem fld_23_2:aF Tryz.prog 23 2=some (2,2):=nr (by kernel_rfl)
@[simp] theorem pl_23:cf Tryz.prog 23=some (.struct [(0,1),(1,1),(2,1)]):=nr (by kernel_rfl)
@[simp] theorem und_24:Tryz.prog.underlying 24=some (.array 6 23):=nr (by kernel_rfl)
@[simp] theorem sz_24:sizeT Tryz.prog 24=some 18:=nr (by kernel_rfl)
@[simp] theorem ag_24:aggT Tryz.prog 24=some true:=nr (by kernel_rfl)
@[simp] theorem und_25:Tryz.prog.underlying 25=some (.slice 81):=nr (by kernel_rfl)
@[simp] theorem sz_25:sizeT Tryz.prog 25=some 1:=nr (by kernel_rfl)
@[simp] theorem ag_25:aggT Tryz.prog 25=some false:=nr (by kernel_rfl)
@[simp] theorem sz_27:sizeT Tryz.prog 27=some 19:=nr (by kernel_rfl)
@[simp] theorem ag_27:aggT Tryz.prog 27=some true:=nr (by kernel_rfl)
@[simp] theorem fld_27_0:aF Tryz.prog 27 0=some (0,24):=nr (by kernel_rfl)
@[simp] theorem fld_27_1:aF Tryz.prog 27 1=some (18,25):=nr (by kernel_rfl)
@[simp] theorem und_28:Tryz.prog.underlying 28=some (.int .i16):=nr (by kernel_rfl)
@[simp] theorem sz_28:sizeT Tryz.prog 28=some 1:=nr (by kernel_rfl)
@[simp] theorem ag_28:aggT Tryz.prog 28=some false:=nr (by kernel_rfl)
@[simp] theorem und_29:Tryz.prog.underlying 29=some (.array 2 28):=nr (by kernel_rfl)
@[simp] theorem sz_29:sizeT Tryz.prog 29=some 2:=nr (by kernel_rfl)
@[simp] theorem und_30:Tryz.prog.underlying 30=some (.slice 62):=nr (by kernel_rfl)
@[simp] theorem sz_30:sizeT Tryz.prog 30=some 1:=nr (by kernel_rfl)
@[simp] theorem ag_30:aggT Tryz.prog 30=some false:=nr (by kernel_rfl)
@[simp] theorem fld_32_0:aF Tryz.prog 32 0=some (0,29):=nr (by kernel_rfl)
@[simp] theorem fld_32_1:aF Tryz.prog 32 1=some (2,29):=nr (by kernel_rfl)
@[simp] theorem fld_32_2:aF Tryz.prog 32 2=some (4,28):=nr (by kernel_rfl)
@[simp] theorem fld_32_3:aF Tryz.prog 32 3=some (5,5):=nr (by kernel_rfl)
@[simp] theorem fld_32_4:aF Tryz.prog 32 4=some (6,30):=nr (by kernel_rfl)
@[simp] theorem ca:Tryz.prog.underlying 39=some (.slice 140):=nr (by kernel_rfl)
@[simp] theorem sz_39:sizeT Tryz.prog 39=some 1:=nr (by kernel_rfl)
@[simp] theorem ag_39:aggT Tryz.prog 39=some false:=nr (by kernel_rfl)
@[simp] theorem app_39:appT Tryz.prog 39=some (140,1):=nr (by kernel_rfl)
@[simp] theorem sz_41:sizeT Tryz.prog 41=some 2:=nr (by kernel_rfl)
@[simp] theorem ag_41:aggT Tryz.prog 41=some true:=nr (by kernel_rfl)
@[simp] theorem zero_41:zeroV Tryz.prog 41=some (.agg [.d (.bool false),.nil]):=nr (by kernel_rfl)
@[simp] theorem fld_41_0:aF Tryz.prog 41 0=some (0,4):=nr (by kernel_rfl)
@[simp] theorem fld_41_1:aF Tryz.prog 41 1=some (1,39):=nr (by kernel_rfl)
@[simp] theorem pl_41:cf Tryz.prog 41=some (.struct [(0,1),(1,1)]):=nr (by kernel_rfl)
@[simp] theorem sz_43:sizeT Tryz.prog 43=some 4:=nr (by kernel_rfl)
@[simp] theorem ag_43:aggT Tryz.prog 43=some true:=nr (by kernel_rfl)
@[simp] theorem zero_43:zeroV Tryz.prog 43=some (.agg [.d (.bool false),.nil,.d (.bool false),.nil]):=nr (by kernel_rfl)
@[simp] theorem fld_43_0:aF Tryz.prog 43 0=some (0,41):=nr (by kernel_rfl)
@[simp] theorem fld_43_1:aF Tryz.prog 43 1=some (2,41):=nr (by kernel_rfl)
@[simp] theorem pl_43:cf Tryz.prog 43=some (.struct [(0,2),(2,2)]):=nr (by kernel_rfl)
@[simp] theorem sz_45:sizeT Tryz.prog 45=some 2:=nr (by kernel_rfl)
@[simp] theorem ag_45:aggT Tryz.prog 45=some true:=nr (by kernel_rfl)
@[simp] theorem zero_45:zeroV Tryz.prog 45=some (.agg [.d (.int .i64 0),.d (.int .i64 0)]):=nr (by kernel_rfl)
@[simp] theorem fld_45_0:aF Tryz.prog 45 0=some (0,2):=nr (by kernel_rfl)
@[simp] theorem fld_45_1:aF Tryz.prog 45 1=some (1,2):=nr (by kernel_rfl)
@[simp] theorem pl_45:cf Tryz.prog 45=some (.struct [(0,1),(1,1)]):=nr (by kernel_rfl)
@[simp] theorem und_48:Tryz.prog.underlying 48=some (.slice 104):=nr (by kernel_rfl)
@[simp] theorem sz_48:sizeT Tryz.prog 48=some 1:=nr (by kernel_rfl)
@[simp] theorem ag_48:aggT Tryz.prog 48=some false:=nr (by kernel_rfl)
@[simp] theorem app_48:appT Tryz.prog 48=some (104,2):=nr (by kernel_rfl)
@[simp] theorem sz_50:sizeT Tryz.prog 50=some 19:=nr (by kernel_rfl)
@[simp] theorem ag_50:aggT Tryz.prog 50=some true:=nr (by kernel_rfl)
@[simp] theorem zero_50:zeroV Tryz.prog 50=some (.agg [.d (.int .i64 0),.d (.int .i64 0),.d (.int .i64 0),.d (.int .i64 0),.d (.int .i64 0),.d (.int .i64 0),.d (.int .i64 0),.d (.int .i64 0),.d (.int .i64 0),.d (.int .i64 0),.d (.int .i64 0),.d (.int .i64 0),.d (.int .i64 0),.d (.int .i64 0),.d (.int .i64 0),.d (.int .i64 0),.d (.int .i64 0),.d (.int .i64 0),.nil]):=nr (by kernel_rfl)
@[simp] theorem fld_50_0:aF Tryz.prog 50 0=some (0,24):=nr (by kernel_rfl)
@[simp] theorem fld_50_1:aF Tryz.prog 50 1=some (18,48):=nr (by kernel_rfl)
@[simp] theorem pl_50:cf Tryz.prog 50=some (.struct [(0,18),(18,1)]):=nr (by kernel_rfl)
@[simp] theorem sz_56:sizeT Tryz.prog 56=some 2:=nr (by kernel_rfl)
@[simp] theorem ag_56:aggT Tryz.prog 56=some true:=nr (by kernel_rfl)
@[simp] theorem zero_56:zeroV Tryz.prog 56=some (.agg [.d (.int .u8 0),.d (.int .i64 0)]):=nr (by kernel_rfl)
@[simp] theorem fld_56_0:aF Tryz.prog 56 0=some (0,5):=nr (by kernel_rfl)
@[simp] theorem fld_56_1:aF Tryz.prog 56 1=some (1,2):=nr (by kernel_rfl)
@[simp] theorem pl_56:cf Tryz.prog 56=some (.struct [(0,1),(1,1)]):=nr (by kernel_rfl)
@[simp] theorem und_57:Tryz.prog.underlying 57=some (.slice 56):=nr (by kernel_rfl)
@[simp] theorem sz_57:sizeT Tryz.prog 57=some 1:=nr (by kernel_rfl)
@[simp] theorem ag_57:aggT Tryz.prog 57=some false:=nr (by kernel_rfl)
@[simp] theorem sz_59:sizeT Tryz.prog 59=some 3:=nr (by kernel_rfl)
@[simp] theorem ag_59:aggT Tryz.prog 59=some true:=nr (by kernel_rfl)
@[simp] theorem zero_59:zeroV Tryz.prog 59=some (.agg [.d (.bool false),.nil,.d (.str [])]):=nr (by kernel_rfl)
@[simp] theorem fld_59_1:aF Tryz.prog 59 1=some (1,57):=nr (by kernel_rfl)
@[simp] theorem fld_59_2:aF Tryz.prog 59 2=some (2,9):=nr (by kernel_rfl)
@[simp] theorem pl_59:cf Tryz.prog 59=some (.struct [(0,1),(1,1),(2,1)]):=nr (by kernel_rfl)
@[simp] theorem und_60:Tryz.prog.underlying 60=some (.slice 59):=nr (by kernel_rfl)
@[simp] theorem app_60:appT Tryz.prog 60=some (59,3):=nr (by kernel_rfl)
@[simp] theorem und_61:Tryz.prog.underlying 61=some (.slice 23):=nr (by kernel_rfl)
@[simp] theorem app_61:appT Tryz.prog 61=some (23,3):=nr (by kernel_rfl)
@[simp] theorem und_62:Tryz.prog.underlying 62=some (.array 3 28):=nr (by kernel_rfl)
@[simp] theorem sz_62:sizeT Tryz.prog 62=some 3:=nr (by kernel_rfl)
@[simp] theorem ag_62:aggT Tryz.prog 62=some true:=nr (by kernel_rfl)
@[simp] theorem zero_62:zeroV Tryz.prog 62=some (.agg [.d (.int .i16 0),.d (.int .i16 0),.d (.int .i16 0)]):=nr (by kernel_rfl)
@[simp] theorem und_63:Tryz.prog.underlying 63=some (.slice 69):=nr (by kernel_rfl)
@[simp] theorem sz_63:sizeT Tryz.prog 63=some 1:=nr (by kernel_rfl)
@[simp] theorem ag_63:aggT Tryz.prog 63=some false:=nr (by kernel_rfl)
@[simp] theorem app_63:appT Tryz.prog 63=some (69,9):=nr (by kernel_rfl)
@[simp] theorem sz_65:sizeT Tryz.prog 65=some 2:=nr (by kernel_rfl)
@[simp] theorem ag_65:aggT Tryz.prog 65=some true:=nr (by kernel_rfl)
@[simp] theorem zero_65:zeroV Tryz.prog 65=some (.agg [.d (.int .i64 0),.d (.int .i64 0)]):=nr (by kernel_rfl)
@[simp] theorem pl_65:cf Tryz.prog 65=some (.struct [(0,1),(1,1)]):=nr (by kernel_rfl)
@[simp] theorem sz_69:sizeT Tryz.prog 69=some 9:=nr (by kernel_rfl)
@[simp] theorem ag_69:aggT Tryz.prog 69=some true:=nr (by kernel_rfl)
@[simp] theorem zero_69:zeroV Tryz.prog 69=some (.agg [.d (.int .i64 0),.d (.int .i64 0),.d (.int .i64 0),.d (.int .i64 0),.d (.int .i64 0),.d (.int .i64 0),.d (.int .i64 0),.d (.int .i64 0),.d (.int .i64 0)]):=nr (by kernel_rfl)
@[simp] theorem fld_69_0:aF Tryz.prog 69 0=some (0,23):=nr (by kernel_rfl)
@[simp] theorem fld_69_1:aF Tryz.prog 69 1=some (3,23):=nr (by kernel_rfl)
@[simp] theorem fld_69_2:aF Tryz.prog 69 2=some (6,2):=nr (by kernel_rfl)
@[simp] theorem fld_69_4:aF Tryz.prog 69 4=some (8,3):=nr (by kernel_rfl)
@[simp] theorem pl_69:cf Tryz.prog 69=some (.struct [(0,3),(3,3),(6,1),(7,1),(8,1)]):=nr (by kernel_rfl)
@[simp] theorem sz_75:sizeT Tryz.prog 75=some 3:=nr (by kernel_rfl)
@[simp] theorem ag_75:aggT Tryz.prog 75=some true:=nr (by kernel_rfl)
@[simp] theorem zero_75:zeroV Tryz.prog 75=some (.agg [.d (.int .i64 0),.d (.int .i64 0),.d (.int .i64 0)]):=nr (by kernel_rfl)
@[simp] theorem fld_75_0:aF Tryz.prog 75 0=some (0,2):=nr (by kernel_rfl)
@[simp] theorem fld_75_1:aF Tryz.prog 75 1=some (1,2):=nr (by kernel_rfl)
@[simp] theorem fld_75_2:aF Tryz.prog 75 2=some (2,2):=nr (by kernel_rfl)
@[simp] theorem pl_75:cf Tryz.prog 75=some (.struct [(0,1),(1,1),(2,1)]):=nr (by kernel_rfl)
@[simp] theorem sz_81:sizeT Tryz.prog 81=some 2:=nr (by kernel_rfl)
@[simp] theorem ag_81:aggT Tryz.prog 81=some true:=nr (by kernel_rfl)
@[simp] theorem zero_81:zeroV Tryz.prog 81=some (.agg [.d (.int .i64 0),.d (.int .i64 0)]):=nr (by kernel_rfl)
@[simp] theorem fld_81_0:aF Tryz.prog 81 0=some (0,2):=nr (by kernel_rfl)
@[simp] theorem fld_81_1:aF Tryz.prog 81 1=some (1,2):=nr (by kernel_rfl)
@[simp] theorem sz_85:sizeT Tryz.prog 85=some 1:=nr (by kernel_rfl)
@[simp] theorem ag_85:aggT Tryz.prog 85=some false:=nr (by kernel_rfl)
@[simp] theorem zero_85:zeroV Tryz.prog 85=some (.d (.other (.pointer none))):=nr (by kernel_rfl)
@[simp] theorem sz_104:sizeT Tryz.prog 104=some 2:=nr (by kernel_rfl)
@[simp] theorem ag_104:aggT Tryz.prog 104=some true:=nr (by kernel_rfl)
@[simp] theorem zero_104:zeroV Tryz.prog 104=some (.agg [.d (.int .i64 0),.d (.int .i64 0)]):=nr (by kernel_rfl)
@[simp] theorem fld_104_0:aF Tryz.prog 104 0=some (0,2):=nr (by kernel_rfl)
@[simp] theorem fld_104_1:aF Tryz.prog 104 1=some (1,2):=nr (by kernel_rfl)
@[simp] theorem pl_104:cf Tryz.prog 104=some (.struct [(0,1),(1,1)]):=nr (by kernel_rfl)
@[simp] theorem sz_107:sizeT Tryz.prog 107=some 8:=nr (by kernel_rfl)
@[simp] theorem ag_107:aggT Tryz.prog 107=some true:=nr (by kernel_rfl)
@[simp] theorem zero_107:zeroV Tryz.prog 107=some (.agg [.d (.int .i64 0),.d (.int .i64 0),.d (.int .i64 0),.d (.int .i64 0),.d (.int .i64 0),.d (.int .i64 0),.d (.int .i64 0),.d (.int .i64 0)]):=nr (by kernel_rfl)
@[simp] theorem fld_107_0:aF Tryz.prog 107 0=some (0,2):=nr (by kernel_rfl)
@[simp] theorem fld_107_1:aF Tryz.prog 107 1=some (1,2):=nr (by kernel_rfl)
@[simp] theorem fld_107_2:aF Tryz.prog 107 2=some (2,2):=nr (by kernel_rfl)
@[simp] theorem fld_107_3:aF Tryz.prog 107 3=some (3,2):=nr (by kernel_rfl)
@[simp] theorem fld_107_4:aF Tryz.prog 107 4=some (4,2):=nr (by kernel_rfl)
@[simp] theorem fld_107_5:aF Tryz.prog 107 5=some (5,2):=nr (by kernel_rfl)
@[simp] theorem fld_107_6:aF Tryz.prog 107 6=some (6,2):=nr (by kernel_rfl)
@[simp] theorem fld_107_7:aF Tryz.prog 107 7=some (7,2):=nr (by kernel_rfl)
@[simp] theorem pl_107:cf Tryz.prog 107=some (.struct [(0,1),(1,1),(2,1),(3,1),(4,1),(5,1),(6,1),(7,1)]):=nr (by kernel_rfl)
@[simp] theorem sz_110:sizeT Tryz.prog 110=some 7:=nr (by kernel_rfl)
@[simp] theorem ag_110:aggT Tryz.prog 110=some true:=nr (by kernel_rfl)
@[simp] theorem zero_110:zeroV Tryz.prog 110=some (.agg [.d (.int .i64 0),.d (.int .i64 0),.d (.int .i64 0),.d (.int .i64 0),.d (.int .i64 0),.d (.int .i64 0),.d (.bool false)]):=nr (by kernel_rfl)
@[simp] theorem pl_110:cf Tryz.prog 110=some (.struct [(0,1),(1,1),(2,1),(3,1),(4,1),(5,1),(6,1)]):=nr (by kernel_rfl)
@[simp] theorem und_115:Tryz.prog.underlying 115=some (.slice 2):=nr (by kernel_rfl)
@[simp] theorem sz_115:sizeT Tryz.prog 115=some 1:=nr (by kernel_rfl)
@[simp] theorem ag_115:aggT Tryz.prog 115=some false:=nr (by kernel_rfl)
@[simp] theorem app_115:appT Tryz.prog 115=some (2,1):=nr (by kernel_rfl)
@[simp] theorem zero_120:zeroV Tryz.prog 120=some (.agg [.nil,.d (.int .i64 0),.d (.int .i64 0),.d (.int .i64 0),.d (.int .i64 0),.d (.int .i64 0),.nil,.d (.int .i64 0),.d (.bool false),.d (.bool false),.d (.bool false),.nil,.d (.int .i64 0),.d (.int .i64 0),.d (.int .i64 0)]):=nr (by kernel_rfl)
@[simp] theorem fld_120_0:aF Tryz.prog 120 0=some (0,63):=nr (by kernel_rfl)
@[simp] theorem fld_120_1:aF Tryz.prog 120 1=some (1,75):=nr (by kernel_rfl)
@[simp] theorem fld_120_2:aF Tryz.prog 120 2=some (4,3):=nr (by kernel_rfl)
@[simp] theorem fld_120_3:aF Tryz.prog 120 3=some (5,2):=nr (by kernel_rfl)
@[simp] theorem fld_120_4:aF Tryz.prog 120 4=some (6,115):=nr (by kernel_rfl)
@[simp] theorem fld_120_5:aF Tryz.prog 120 5=some (7,3):=nr (by kernel_rfl)
@[simp] theorem fld_120_6:aF Tryz.prog 120 6=some (8,4):=nr (by kernel_rfl)
@[simp] theorem fld_120_7:aF Tryz.prog 120 7=some (9,4):=nr (by kernel_rfl)
@[simp] theorem fld_120_8:aF Tryz.prog 120 8=some (10,4):=nr (by kernel_rfl)
@[simp] theorem fld_120_9:aF Tryz.prog 120 9=some (11,63):=nr (by kernel_rfl)
@[simp] theorem fld_120_10:aF Tryz.prog 120 10=some (12,23):=nr (by kernel_rfl)
@[simp] theorem pl_120:cf Tryz.prog 120=some (.struct [(0,1),(1,3),(4,1),(5,1),(6,1),(7,1),(8,1),(9,1),(10,1),(11,1),(12,3)]):=nr (by kernel_rfl)
@[simp] theorem und_131:Tryz.prog.underlying 131=some (.int .u64):=nr (by kernel_rfl)
@[simp] theorem und_133:Tryz.prog.underlying 133=some (.slice 85):=nr (by kernel_rfl)
@[simp] theorem und_140:Tryz.prog.underlying 140=some (.int .u32):=nr (by kernel_rfl)
@[simp] theorem bh:sizeT Tryz.prog 140=some 1:=nr (by kernel_rfl)
@[simp] theorem ag_140:aggT Tryz.prog 140=some false:=nr (by kernel_rfl)
@[simp] theorem jK:zeroV Tryz.prog 140=some (.d (.int .u32 0)):=nr (by kernel_rfl)
@[simp] theorem und_153:Tryz.prog.underlying 153=some (.slice 157):=nr (by kernel_rfl)
@[simp] theorem app_153:appT Tryz.prog 153=some (157,4):=nr (by kernel_rfl)
@[simp] theorem sz_157:sizeT Tryz.prog 157=some 4:=nr (by kernel_rfl)
@[simp] theorem ag_157:aggT Tryz.prog 157=some true:=nr (by kernel_rfl)
@[simp] theorem zero_157:zeroV Tryz.prog 157=some (.agg [.d (.int .i64 0),.d (.int .i64 0),.d (.int .i64 0),.d (.int .i64 0)]):=nr (by kernel_rfl)
@[simp] theorem fld_157_0:aF Tryz.prog 157 0=some (0,23):=nr (by kernel_rfl)
@[simp] theorem fld_157_1:aF Tryz.prog 157 1=some (3,2):=nr (by kernel_rfl)
@[simp] theorem pl_157:cf Tryz.prog 157=some (.struct [(0,3),(3,1)]):=nr (by kernel_rfl)
@[simp] theorem und_176:Tryz.prog.underlying 176=some (.slice 5):=nr (by kernel_rfl)
@[simp] theorem und_178:Tryz.prog.underlying 178=some (.map 5 4):=nr (by kernel_rfl)
@[simp] theorem und_179:Tryz.prog.underlying 179=some (.map 3 4):=nr (by kernel_rfl)
@[simp] theorem sz_190:sizeT Tryz.prog 190=some 2:=nr (by kernel_rfl)
@[simp] theorem ag_190:aggT Tryz.prog 190=some true:=nr (by kernel_rfl)
@[simp] theorem zero_190:zeroV Tryz.prog 190=some (.agg [.d (.int .i64 0),.d (.int .i64 0)]):=nr (by kernel_rfl)
@[simp] theorem fld_190_0:aF Tryz.prog 190 0=some (0,2):=nr (by kernel_rfl)
@[simp] theorem fld_190_1:aF Tryz.prog 190 1=some (1,2):=nr (by kernel_rfl)
@[simp] theorem pl_190:cf Tryz.prog 190=some (.struct [(0,1),(1,1)]):=nr (by kernel_rfl)
@[simp] theorem sz_201:sizeT Tryz.prog 201=some 2:=nr (by kernel_rfl)
@[simp] theorem ag_201:aggT Tryz.prog 201=some true:=nr (by kernel_rfl)
@[simp] theorem zero_201:zeroV Tryz.prog 201=some (.agg [.d (.int .u8 0),.d (.other (.pointer none))]):=nr (by kernel_rfl)
@[simp] theorem fld_201_0:aF Tryz.prog 201 0=some (0,5):=nr (by kernel_rfl)
@[simp] theorem fld_201_1:aF Tryz.prog 201 1=some (1,85):=nr (by kernel_rfl)
@[simp] theorem pl_201:cf Tryz.prog 201=some (.struct [(0,1),(1,1)]):=nr (by kernel_rfl)
@[simp] theorem und_202:Tryz.prog.underlying 202=some (.slice 201):=nr (by kernel_rfl)
@[simp] theorem sz_210:sizeT Tryz.prog 210=some 7:=nr (by kernel_rfl)
@[simp] theorem ag_210:aggT Tryz.prog 210=some true:=nr (by kernel_rfl)
@[simp] theorem zero_210:zeroV Tryz.prog 210=some (.agg [.d (.int .i64 0),.d (.int .i64 0),.d (.int .i64 0),.d (.int .i64 0),.d (.int .i64 0),.d (.int .i64 0),.d (.int .i64 0)]):=nr (by kernel_rfl)
@[simp] theorem fld_210_0:aF Tryz.prog 210 0=some (0,3):=nr (by kernel_rfl)
@[simp] theorem fld_210_1:aF Tryz.prog 210 1=some (1,23):=nr (by kernel_rfl)
@[simp] theorem fld_210_2:aF Tryz.prog 210 2=some (4,45):=nr (by kernel_rfl)
@[simp] theorem fld_210_3:aF Tryz.prog 210 3=some (6,2):=nr (by kernel_rfl)
@[simp] theorem pl_210:cf Tryz.prog 210=some (.struct [(0,1),(1,3),(4,2),(6,1)]):=nr (by kernel_rfl)
@[simp] theorem und_235:Tryz.prog.underlying 235=some (.int .u64):=nr (by kernel_rfl)
theorem eq_23:EqOk Tryz.prog 23 [.int .i64,.int .i64,.int .i64]:=by
 refine⟨by kernel_rfl,λxs ys hx hy w=>?_⟩
 obtain⟨xa0,ra0,ea0,ka0,hx0⟩:=aC hx
 obtain⟨a0,rfl⟩:=aO ka0
 obtain⟨xa1,ra1,ea1,ka1,hx1⟩:=aC hx0
 obtain⟨a1,rfl⟩:=aO ka1
 obtain⟨xa2,ra2,ea2,ka2,hx2⟩:=aC hx1
 obtain⟨a2,rfl⟩:=aO ka2
 have za:=dU hx2
 subst za
 subst ea2
 subst ea1
 subst ea0
 obtain⟨xb0,rb0,eb0,kb0,hy0⟩:=aC hy
 obtain⟨b0,rfl⟩:=aO kb0
 obtain⟨xb1,rb1,eb1,kb1,hy1⟩:=aC hy0
 obtain⟨b1,rfl⟩:=aO kb1
 obtain⟨xb2,rb2,eb2,kb2,hy2⟩:=aC hy1
 obtain⟨b2,rfl⟩:=aO kb2
 have zb:=dU hy2
 subst zb
 subst eb2
 subst eb1
 subst eb0
 have hS:Tryz.prog.underlying 23=some (.struct (Tryz.prog.fieldsOf 23)):=by kernel_rfl
 simp only[Op.equal,Op.maxDepth]
 rw[show (10000:Nat)=9999+1 from rfl,run_equalIn_agg w 9999 23 _ _ hS (by kernel_rfl)]
 simp only[Program.fieldsOf,Tryz.underlying23,zA,zB,D.val]
 go_simp
 simp only[eqAll,eqD]
 refine Decidable.byCases (p:=a0=b0) (λh0=>?_) (λh0=>by simp[h0])
 refine Decidable.byCases (p:=a1=b1) (λh1=>?_) (λh1=>by simp[h0,h1])
 refine Decidable.byCases (p:=a2=b2) (λh2=>?_) (λh2=>by simp[h0,h1,h2])
 simp[h0,h1,h2]
theorem eq_65:EqOk Tryz.prog 65 [.int .i64,.int .i64]:=by
 refine⟨by kernel_rfl,λxs ys hx hy w=>?_⟩
 obtain⟨xa0,ra0,ea0,ka0,hx0⟩:=aC hx
 obtain⟨a0,rfl⟩:=aO ka0
 obtain⟨xa1,ra1,ea1,ka1,hx1⟩:=aC hx0
 obtain⟨a1,rfl⟩:=aO ka1
 have za:=dU hx1
 subst za
 subst ea1
 subst ea0
 obtain⟨xb0,rb0,eb0,kb0,hy0⟩:=aC hy
 obtain⟨b0,rfl⟩:=aO kb0
 obtain⟨xb1,rb1,eb1,kb1,hy1⟩:=aC hy0
 obtain⟨b1,rfl⟩:=aO kb1
 have zb:=dU hy1
 subst zb
 subst eb1
 subst eb0
 have hS:Tryz.prog.underlying 65=some (.struct (Tryz.prog.fieldsOf 65)):=by kernel_rfl
 simp only[Op.equal,Op.maxDepth]
 rw[show (10000:Nat)=9999+1 from rfl,run_equalIn_agg w 9999 65 _ _ hS (by kernel_rfl)]
 simp only[Program.fieldsOf,Tryz.underlying65,zA,zB,D.val]
 go_simp
 simp only[eqAll,eqD]
 refine Decidable.byCases (p:=a0=b0) (λh0=>?_) (λh0=>by simp[h0])
 refine Decidable.byCases (p:=a1=b1) (λh1=>?_) (λh1=>by simp[h0,h1])
 simp[h0,h1]
theorem eq_69:EqOk Tryz.prog 69 [.int .i64,.int .i64,.int .i64,.int .i64,.int .i64,.int .i64,.int .i64,.int .i64,.int .i64]:=by
 refine⟨by kernel_rfl,λxs ys hx hy w=>?_⟩
 obtain⟨xa0,ra0,ea0,ka0,hx0⟩:=aC hx
 obtain⟨a0,rfl⟩:=aO ka0
 obtain⟨xa1,ra1,ea1,ka1,hx1⟩:=aC hx0
 obtain⟨a1,rfl⟩:=aO ka1
 obtain⟨xa2,ra2,ea2,ka2,hx2⟩:=aC hx1
 obtain⟨a2,rfl⟩:=aO ka2
 obtain⟨xa3,ra3,ea3,ka3,hx3⟩:=aC hx2
 obtain⟨a3,rfl⟩:=aO ka3
 obtain⟨xa4,ra4,ea4,ka4,hx4⟩:=aC hx3
 obtain⟨a4,rfl⟩:=aO ka4
 obtain⟨xa5,ra5,ea5,ka5,hx5⟩:=aC hx4
 obtain⟨a5,rfl⟩:=aO ka5
 obtain⟨xa6,ra6,ea6,ka6,hx6⟩:=aC hx5
 obtain⟨a6,rfl⟩:=aO ka6
 obtain⟨xa7,ra7,ea7,ka7,hx7⟩:=aC hx6
 obtain⟨a7,rfl⟩:=aO ka7
 obtain⟨xa8,ra8,ea8,ka8,hx8⟩:=aC hx7
 obtain⟨a8,rfl⟩:=aO ka8
 have za:=dU hx8
 subst za
 subst ea8
 subst ea7
 subst ea6
 subst ea5
 subst ea4
 subst ea3
 subst ea2
 subst ea1
 subst ea0
 obtain⟨xb0,rb0,eb0,kb0,hy0⟩:=aC hy
 obtain⟨b0,rfl⟩:=aO kb0
 obtain⟨xb1,rb1,eb1,kb1,hy1⟩:=aC hy0
 obtain⟨b1,rfl⟩:=aO kb1
 obtain⟨xb2,rb2,eb2,kb2,hy2⟩:=aC hy1
 obtain⟨b2,rfl⟩:=aO kb2
 obtain⟨xb3,rb3,eb3,kb3,hy3⟩:=aC hy2
 obtain⟨b3,rfl⟩:=aO kb3
 obtain⟨xb4,rb4,eb4,kb4,hy4⟩:=aC hy3
 obtain⟨b4,rfl⟩:=aO kb4
 obtain⟨xb5,rb5,eb5,kb5,hy5⟩:=aC hy4
 obtain⟨b5,rfl⟩:=aO kb5
 obtain⟨xb6,rb6,eb6,kb6,hy6⟩:=aC hy5
 obtain⟨b6,rfl⟩:=aO kb6
 obtain⟨xb7,rb7,eb7,kb7,hy7⟩:=aC hy6
 obtain⟨b7,rfl⟩:=aO kb7
 obtain⟨xb8,rb8,eb8,kb8,hy8⟩:=aC hy7
 obtain⟨b8,rfl⟩:=aO kb8
 have zb:=dU hy8
 subst zb
 subst eb8
 subst eb7
 subst eb6
 subst eb5
 subst eb4
 subst eb3
 subst eb2
 subst eb1
 subst eb0
 have hS:Tryz.prog.underlying 69=some (.struct (Tryz.prog.fieldsOf 69)):=by kernel_rfl
 simp only[Op.equal,Op.maxDepth]
 rw[show (10000:Nat)=9999+1 from rfl,run_equalIn_agg w 9999 69 _ _ hS (by kernel_rfl)]
 simp only[Program.fieldsOf,Tryz.underlying69,zA,zB,D.val]
 go_simp
 simp only[eqAll,eqD]
 refine Decidable.byCases (p:=a0=b0) (λh0=>?_) (λh0=>by simp[h0])
 refine Decidable.byCases (p:=a1=b1) (λh1=>?_) (λh1=>by simp[h0,h1])
 refine Decidable.byCases (p:=a2=b2) (λh2=>?_) (λh2=>by simp[h0,h1,h2])
 refine Decidable.byCases (p:=a3=b3) (λh3=>?_) (λh3=>by simp[h0,h1,h2,h3])
 refine Decidable.byCases (p:=a4=b4) (λh4=>?_) (λh4=>by simp[h0,h1,h2,h3,h4])
 refine Decidable.byCases (p:=a5=b5) (λh5=>?_) (λh5=>by simp[h0,h1,h2,h3,h4,h5])
 refine Decidable.byCases (p:=a6=b6) (λh6=>?_) (λh6=>by simp[h0,h1,h2,h3,h4,h5,h6])
 refine Decidable.byCases (p:=a7=b7) (λh7=>?_) (λh7=>by simp[h0,h1,h2,h3,h4,h5,h6,h7])
 refine Decidable.byCases (p:=a8=b8) (λh8=>?_) (λh8=>by simp[h0,h1,h2,h3,h4,h5,h6,h7,h8])
 simp[h0,h1,h2,h3,h4,h5,h6,h7,h8]
theorem eq_110:EqOk Tryz.prog 110 [.int .i64,.int .i64,.int .i64,.int .i64,.int .i64,.int .i64,.bool]:=by
 refine⟨by kernel_rfl,λxs ys hx hy w=>?_⟩
 obtain⟨xa0,ra0,ea0,ka0,hx0⟩:=aC hx
 obtain⟨a0,rfl⟩:=aO ka0
 obtain⟨xa1,ra1,ea1,ka1,hx1⟩:=aC hx0
 obtain⟨a1,rfl⟩:=aO ka1
 obtain⟨xa2,ra2,ea2,ka2,hx2⟩:=aC hx1
 obtain⟨a2,rfl⟩:=aO ka2
 obtain⟨xa3,ra3,ea3,ka3,hx3⟩:=aC hx2
 obtain⟨a3,rfl⟩:=aO ka3
 obtain⟨xa4,ra4,ea4,ka4,hx4⟩:=aC hx3
 obtain⟨a4,rfl⟩:=aO ka4
 obtain⟨xa5,ra5,ea5,ka5,hx5⟩:=aC hx4
 obtain⟨a5,rfl⟩:=aO ka5
 obtain⟨xa6,ra6,ea6,ka6,hx6⟩:=aC hx5
 obtain⟨a6,rfl⟩:=kind_bool ka6
 have za:=dU hx6
 subst za
 subst ea6
 subst ea5
 subst ea4
 subst ea3
 subst ea2
 subst ea1
 subst ea0
 obtain⟨xb0,rb0,eb0,kb0,hy0⟩:=aC hy
 obtain⟨b0,rfl⟩:=aO kb0
 obtain⟨xb1,rb1,eb1,kb1,hy1⟩:=aC hy0
 obtain⟨b1,rfl⟩:=aO kb1
 obtain⟨xb2,rb2,eb2,kb2,hy2⟩:=aC hy1
 obtain⟨b2,rfl⟩:=aO kb2
 obtain⟨xb3,rb3,eb3,kb3,hy3⟩:=aC hy2
 obtain⟨b3,rfl⟩:=aO kb3
 obtain⟨xb4,rb4,eb4,kb4,hy4⟩:=aC hy3
 obtain⟨b4,rfl⟩:=aO kb4
 obtain⟨xb5,rb5,eb5,kb5,hy5⟩:=aC hy4
 obtain⟨b5,rfl⟩:=aO kb5
 obtain⟨xb6,rb6,eb6,kb6,hy6⟩:=aC hy5
 obtain⟨b6,rfl⟩:=kind_bool kb6
 have zb:=dU hy6
 subst zb
 subst eb6
 subst eb5
 subst eb4
 subst eb3
 subst eb2
 subst eb1
 subst eb0
 have hS:Tryz.prog.underlying 110=some (.struct (Tryz.prog.fieldsOf 110)):=by kernel_rfl
 simp only[Op.equal,Op.maxDepth]
 rw[show (10000:Nat)=9999+1 from rfl,run_equalIn_agg w 9999 110 _ _ hS (by kernel_rfl)]
 simp only[Program.fieldsOf,Tryz.underlying110,zA,zB,D.val]
 go_simp
 simp only[eqAll,eqD]
 refine Decidable.byCases (p:=a0=b0) (λh0=>?_) (λh0=>by simp[h0])
 refine Decidable.byCases (p:=a1=b1) (λh1=>?_) (λh1=>by simp[h0,h1])
 refine Decidable.byCases (p:=a2=b2) (λh2=>?_) (λh2=>by simp[h0,h1,h2])
 refine Decidable.byCases (p:=a3=b3) (λh3=>?_) (λh3=>by simp[h0,h1,h2,h3])
 refine Decidable.byCases (p:=a4=b4) (λh4=>?_) (λh4=>by simp[h0,h1,h2,h3,h4])
 refine Decidable.byCases (p:=a5=b5) (λh5=>?_) (λh5=>by simp[h0,h1,h2,h3,h4,h5])
 refine Decidable.byCases (p:=a6=b6) (λh6=>?_) (λh6=>by simp[h0,h1,h2,h3,h4,h5,h6])
 simp[h0,h1,h2,h3,h4,h5,h6]
theorem eq_190:EqOk Tryz.prog 190 [.int .i64,.int .i64]:=by
 refine⟨by kernel_rfl,λxs ys hx hy w=>?_⟩
 obtain⟨xa0,ra0,ea0,ka0,hx0⟩:=aC hx
 obtain⟨a0,rfl⟩:=aO ka0
 obtain⟨xa1,ra1,ea1,ka1,hx1⟩:=aC hx0
 obtain⟨a1,rfl⟩:=aO ka1
 have za:=dU hx1
 subst za
 subst ea1
 subst ea0
 obtain⟨xb0,rb0,eb0,kb0,hy0⟩:=aC hy
 obtain⟨b0,rfl⟩:=aO kb0
 obtain⟨xb1,rb1,eb1,kb1,hy1⟩:=aC hy0
 obtain⟨b1,rfl⟩:=aO kb1
 have zb:=dU hy1
 subst zb
 subst eb1
 subst eb0
 have hS:Tryz.prog.underlying 190=some (.struct (Tryz.prog.fieldsOf 190)):=by kernel_rfl
 simp only[Op.equal,Op.maxDepth]
 rw[show (10000:Nat)=9999+1 from rfl,run_equalIn_agg w 9999 190 _ _ hS (by kernel_rfl)]
 simp only[Program.fieldsOf,Tryz.underlying190,zA,zB,D.val]
 go_simp
 simp only[eqAll,eqD]
 refine Decidable.byCases (p:=a0=b0) (λh0=>?_) (λh0=>by simp[h0])
 refine Decidable.byCases (p:=a1=b1) (λh1=>?_) (λh1=>by simp[h0,h1])
 simp[h0,h1]
def eqTab:TypeId→Option (List SK)
 | 23=>some [.int .i64,.int .i64,.int .i64]
 | 65=>some [.int .i64,.int .i64]
 | 69=>some [.int .i64,.int .i64,.int .i64,.int .i64,.int .i64,.int .i64,.int .i64,.int .i64,.int .i64]
 | 110=>some [.int .i64,.int .i64,.int .i64,.int .i64,.int .i64,.int .i64,.bool]
 | 190=>some [.int .i64,.int .i64]
 | _=>none
theorem eqTab_ok:∀t ks,eqTab t=some ks→EqOk Tryz.prog t ks:=by
 intro t ks h
 unfold eqTab at h
 split at h
 ·injection h with h;subst h;exact eq_23
 ·injection h with h;subst h;exact eq_65
 ·injection h with h;subst h;exact eq_69
 ·injection h with h;subst h;exact eq_110
 ·injection h with h;subst h;exact eq_190
 ·cases h
def gP:Pg Tryz.prog:=⟨by kernel_rfl,eqTab,eqTab_ok⟩
@[simp] theorem gE_23:gP.E 23=some [.int .i64,.int .i64,.int .i64]:=nr rfl
@[simp] theorem gE_65:gP.E 65=some [.int .i64,.int .i64]:=nr rfl
@[simp] theorem gE_69:gP.E 69=some [.int .i64,.int .i64,.int .i64,.int .i64,.int .i64,.int .i64,.int .i64,.int .i64,.int .i64]:=nr rfl
@[simp] theorem gE_190:gP.E 190=some [.int .i64,.int .i64]:=nr rfl
end Go.Proofs.YtgbafiejgciilaaGreatDoor
