import Derived.Test.YtjemmjpdmbenkaaGreatDoorS3
import Derived.Laws.StructEq
import Derived.ChangeKeysEq
namespace Go.Proofs.YtjemmjpdmbenkaaGreatDoor
open Go.RowKit
set_option linter.unusedSimpArgs false
theorem nK{α:Type}{a b:α}(h:a=b:=by kernel_rfl):a=b:=nr h
theorem eqK{k:TypeId}{l:List SK}{fs:Array Field}(hu:Tryz.prog.underlying k=some (.struct fs))(h:Tryz.prog.underlying k=some (.struct fs)→EqOk Tryz.prog k l:=by
 refine λhu=>⟨by kernel_rfl,λxs ys hx hy w=>?_⟩
 repeat (obtain⟨_,_,e,k,q⟩:=kinds_cons hx;clear hx;have hx:=q;clear q;subst e;first | (obtain⟨_,rfl⟩:=kind_int k)|(obtain⟨_,rfl⟩:=kind_bool k)|(obtain⟨_,rfl⟩:=kind_str k))
 cases kinds_nil hx
 repeat (obtain⟨_,_,e,k,q⟩:=kinds_cons hy;clear hy;have hy:=q;clear q;subst e;first | (obtain⟨_,rfl⟩:=kind_int k)|(obtain⟨_,rfl⟩:=kind_bool k)|(obtain⟨_,rfl⟩:=kind_str k))
 cases kinds_nil hy
 simp only[Op.equal,Op.maxDepth]
 rw[show (10000:Nat)=9999+1 from rfl,run_equalIn_agg w 9999 _ _ _ (by rw[Program.fieldsOf,hu]) (by kernel_rfl)]
 simp only[Program.fieldsOf,hu,List.map_cons,List.map_nil,D.val]
 go_simp
 simp only[eqAll,eqD]
 repeat' (first | rfl | (split<;>simp_all))):EqOk Tryz.prog k l:=h hu
@[simp] theorem lc:Tryz.prog.underlying 2=some (.int .i64):=nK
@[simp] theorem sz_2:bh Tryz.prog 2=some 1:=nK
@[simp] theorem ag_2:aggT Tryz.prog 2=some false:=nK
@[simp] theorem iH:cg Tryz.prog 2=some (.d (.int .i64 0)):=nK
@[simp] theorem und_3:Tryz.prog.underlying 3=some (.int .i64):=nK
@[simp] theorem sz_3:bh Tryz.prog 3=some 1:=nK
@[simp] theorem ag_3:aggT Tryz.prog 3=some false:=nK
@[simp] theorem jl:cg Tryz.prog 3=some (.d (.int .i64 0)):=nK
@[simp] theorem und_4:Tryz.prog.underlying 4=some (.bool):=nK
@[simp] theorem sz_4:bh Tryz.prog 4=some 1:=nK
@[simp] theorem ag_4:aggT Tryz.prog 4=some false:=nK
@[simp] theorem zero_4:cg Tryz.prog 4=some (.d (.bool false)):=nK
@[simp] theorem nq:Tryz.prog.underlying 5=some (.int .u8):=nK
@[simp] theorem sz_5:bh Tryz.prog 5=some 1:=nK
@[simp] theorem ag_5:aggT Tryz.prog 5=some false:=nK
@[simp] theorem und_9:Tryz.prog.underlying 9=some (.string):=nK
@[simp] theorem sz_9:bh Tryz.prog 9=some 1:=nK
@[simp] theorem ag_9:aggT Tryz.prog 9=some false:=nK
@[simp] theorem sz_23:bh Tryz.prog 23=some 3:=nK
@[simp] theorem ag_23:aggT Tryz.prog 23=some true:=nK
@[simp] theorem zero_23:cg Tryz.prog 23=some (.agg [.d (.int .i64 0),.d (.int .i64 0),.d (.int .i64 0)]):=nK
@[simp] theorem fld_23_0:aM Tryz.prog 23 0=some (0,2):=nK
@[simp] theorem fld_23_1:aM Tryz.prog 23 1=some (1,2):=nK
@[simp] theorem fld_23_2:aM Tryz.prog 23 2=some (2,2):=nK
@[simp] theorem pl_23:bH Tryz.prog 23=some (.struct [(0,1),(1,1),(2,1)]):=nK
@[simp] theorem und_24:Tryz.prog.underlying 24=some (.array 6 23):=nK
@[simp] theorem sz_24:bh Tryz.prog 24=some 18:=nK
@[simp] theorem ag_24:aggT Tryz.prog 24=some true:=nK
@[simp] theorem und_25:Tryz.prog.underlying 25=some (.slice 73):=nK
@[simp] theorem sz_25:bh Tryz.prog 25=some 1:=nK
@[simp] theorem ag_25:aggT Tryz.prog 25=some false:=nK
@[simp] theorem sz_27:bh Tryz.prog 27=some 19:=nK
@[simp] theorem ag_27:aggT Tryz.prog 27=some true:=nK
@[simp] theorem zero_27:cg Tryz.prog 27=some (.agg [.d (.int .i64 0),.d (.int .i64 0),.d (.int .i64 0),.d (.int .i64 0),.d (.int .i64 0),.d (.int .i64 0),.d (.int .i64 0),.d (.int .i64 0),.d (.int .i64 0),.d (.int .i64 0),.d (.int .i64 0),.d (.int .i64 0),.d (.int .i64 0),.d (.int .i64 0),.d (.int .i64 0),.d (.int .i64 0),.d (.int .i64 0),.d (.int .i64 0),.nil]):=nK
@[simp] theorem fld_27_0:aM Tryz.prog 27 0=some (0,24):=nK
@[simp] theorem fld_27_1:aM Tryz.prog 27 1=some (18,25):=nK
@[simp] theorem pl_27:bH Tryz.prog 27=some (.struct [(0,18),(18,1)]):=nK
@[simp] theorem sz_29:bh Tryz.prog 29=some 22:=nK
@[simp] theorem ag_29:aggT Tryz.prog 29=some true:=nK
@[simp] theorem fld_29_0:aM Tryz.prog 29 0=some (0,27):=nK
@[simp] theorem fld_29_1:aM Tryz.prog 29 1=some (19,23):=nK
@[simp] theorem und_31:Tryz.prog.underlying 31=some (.slice 87):=nK
@[simp] theorem jE:bh Tryz.prog 31=some 1:=nK
@[simp] theorem ag_31:aggT Tryz.prog 31=some false:=nK
@[simp] theorem gQ:cg Tryz.prog 31=some (.nil):=nK
@[simp] theorem app_31:appT Tryz.prog 31=some (87,3):=nK
@[simp] theorem sz_32:bh Tryz.prog 32=some 1:=nK
@[simp] theorem ag_32:aggT Tryz.prog 32=some false:=nK
@[simp] theorem und_36:Tryz.prog.underlying 36=some (.slice 55):=nK
@[simp] theorem app_36:appT Tryz.prog 36=some (55,9):=nK
@[simp] theorem sz_38:bh Tryz.prog 38=some 2:=nK
@[simp] theorem ag_38:aggT Tryz.prog 38=some true:=nK
@[simp] theorem zero_38:cg Tryz.prog 38=some (.agg [.d (.int .i64 0),.d (.int .i64 0)]):=nK
@[simp] theorem fld_38_0:aM Tryz.prog 38 0=some (0,3):=nK
@[simp] theorem fld_38_1:aM Tryz.prog 38 1=some (1,32):=nK
@[simp] theorem pl_38:bH Tryz.prog 38=some (.struct [(0,1),(1,1)]):=nK
@[simp] theorem und_41:Tryz.prog.underlying 41=some (.slice 74):=nK
@[simp] theorem sz_41:bh Tryz.prog 41=some 1:=nK
@[simp] theorem ag_41:aggT Tryz.prog 41=some false:=nK
@[simp] theorem app_41:appT Tryz.prog 41=some (74,2):=nK
@[simp] theorem sz_43:bh Tryz.prog 43=some 19:=nK
@[simp] theorem ag_43:aggT Tryz.prog 43=some true:=nK
@[simp] theorem zero_43:cg Tryz.prog 43=some (.agg [.d (.int .i64 0),.d (.int .i64 0),.d (.int .i64 0),.d (.int .i64 0),.d (.int .i64 0),.d (.int .i64 0),.d (.int .i64 0),.d (.int .i64 0),.d (.int .i64 0),.d (.int .i64 0),.d (.int .i64 0),.d (.int .i64 0),.d (.int .i64 0),.d (.int .i64 0),.d (.int .i64 0),.d (.int .i64 0),.d (.int .i64 0),.d (.int .i64 0),.nil]):=nK
@[simp] theorem fld_43_0:aM Tryz.prog 43 0=some (0,24):=nK
@[simp] theorem fld_43_1:aM Tryz.prog 43 1=some (18,41):=nK
@[simp] theorem pl_43:bH Tryz.prog 43=some (.struct [(0,18),(18,1)]):=nK
@[simp] theorem sz_45:bh Tryz.prog 45=some 2:=nK
@[simp] theorem ag_45:aggT Tryz.prog 45=some true:=nK
@[simp] theorem zero_45:cg Tryz.prog 45=some (.agg [.d (.int .i64 0),.d (.int .i64 0)]):=nK
@[simp] theorem fld_45_0:aM Tryz.prog 45 0=some (0,3):=nK
@[simp] theorem fld_45_1:aM Tryz.prog 45 1=some (1,32):=nK
@[simp] theorem pl_45:bH Tryz.prog 45=some (.struct [(0,1),(1,1)]):=nK
@[simp] theorem sz_55:bh Tryz.prog 55=some 9:=nK
@[simp] theorem ag_55:aggT Tryz.prog 55=some true:=nK
@[simp] theorem zero_55:cg Tryz.prog 55=some (.agg [.d (.int .i64 0),.d (.int .i64 0),.d (.int .i64 0),.d (.int .i64 0),.d (.int .i64 0),.d (.int .i64 0),.d (.int .i64 0),.d (.int .i64 0),.d (.int .i64 0)]):=nK
@[simp] theorem fld_55_1:aM Tryz.prog 55 1=some (3,23):=nK
@[simp] theorem fld_55_4:aM Tryz.prog 55 4=some (8,3):=nK
@[simp] theorem pl_55:bH Tryz.prog 55=some (.struct [(0,3),(3,3),(6,1),(7,1),(8,1)]):=nK
@[simp] theorem und_58:Tryz.prog.underlying 58=some (.slice 103):=nK
@[simp] theorem kA:bh Tryz.prog 58=some 1:=nK
@[simp] theorem ag_58:aggT Tryz.prog 58=some false:=nK
@[simp] theorem app_58:appT Tryz.prog 58=some (103,2):=nK
@[simp] theorem sz_60:bh Tryz.prog 60=some 2:=nK
@[simp] theorem ag_60:aggT Tryz.prog 60=some true:=nK
@[simp] theorem zero_60:cg Tryz.prog 60=some (.agg [.nil,.nil]):=nK
@[simp] theorem fld_60_0:aM Tryz.prog 60 0=some (0,31):=nK
@[simp] theorem kT:aM Tryz.prog 60 1=some (1,58):=nK
@[simp] theorem pl_60:bH Tryz.prog 60=some (.struct [(0,1),(1,1)]):=nK
@[simp] theorem und_66:Tryz.prog.underlying 66=some (.slice 121):=nK
@[simp] theorem sz_66:bh Tryz.prog 66=some 1:=nK
@[simp] theorem ag_66:aggT Tryz.prog 66=some false:=nK
@[simp] theorem app_66:appT Tryz.prog 66=some (121,2):=nK
@[simp] theorem sz_68:bh Tryz.prog 68=some 2:=nK
@[simp] theorem ag_68:aggT Tryz.prog 68=some true:=nK
@[simp] theorem zero_68:cg Tryz.prog 68=some (.agg [.nil,.nil]):=nK
@[simp] theorem fld_68_0:aM Tryz.prog 68 0=some (0,31):=nK
@[simp] theorem fld_68_1:aM Tryz.prog 68 1=some (1,66):=nK
@[simp] theorem pl_68:bH Tryz.prog 68=some (.struct [(0,1),(1,1)]):=nK
@[simp] theorem sz_73:bh Tryz.prog 73=some 2:=nK
@[simp] theorem ag_73:aggT Tryz.prog 73=some true:=nK
@[simp] theorem zero_73:cg Tryz.prog 73=some (.agg [.d (.int .i64 0),.d (.int .i64 0)]):=nK
@[simp] theorem fld_73_0:aM Tryz.prog 73 0=some (0,2):=nK
@[simp] theorem fld_73_1:aM Tryz.prog 73 1=some (1,2):=nK
@[simp] theorem pl_73:bH Tryz.prog 73=some (.struct [(0,1),(1,1)]):=nK
@[simp] theorem sz_74:bh Tryz.prog 74=some 2:=nK
@[simp] theorem ag_74:aggT Tryz.prog 74=some true:=nK
@[simp] theorem zero_74:cg Tryz.prog 74=some (.agg [.d (.int .i64 0),.d (.int .i64 0)]):=nK
@[simp] theorem fld_74_0:aM Tryz.prog 74 0=some (0,2):=nK
@[simp] theorem fld_74_1:aM Tryz.prog 74 1=some (1,2):=nK
@[simp] theorem pl_74:bH Tryz.prog 74=some (.struct [(0,1),(1,1)]):=nK
@[simp] theorem sz_81:bh Tryz.prog 81=some 8:=nK
@[simp] theorem ag_81:aggT Tryz.prog 81=some true:=nK
@[simp] theorem zero_81:cg Tryz.prog 81=some (.agg [.d (.int .i64 0),.d (.int .i64 0),.d (.int .i64 0),.d (.int .i64 0),.d (.int .i64 0),.d (.int .i64 0),.d (.int .i64 0),.d (.int .i64 0)]):=nK
@[simp] theorem fld_81_0:aM Tryz.prog 81 0=some (0,2):=nK
@[simp] theorem fld_81_1:aM Tryz.prog 81 1=some (1,2):=nK
@[simp] theorem fld_81_2:aM Tryz.prog 81 2=some (2,2):=nK
@[simp] theorem fld_81_3:aM Tryz.prog 81 3=some (3,2):=nK
@[simp] theorem fld_81_4:aM Tryz.prog 81 4=some (4,2):=nK
@[simp] theorem fld_81_5:aM Tryz.prog 81 5=some (5,2):=nK
@[simp] theorem fld_81_6:aM Tryz.prog 81 6=some (6,2):=nK
@[simp] theorem fld_81_7:aM Tryz.prog 81 7=some (7,2):=nK
@[simp] theorem pl_81:bH Tryz.prog 81=some (.struct [(0,1),(1,1),(2,1),(3,1),(4,1),(5,1),(6,1),(7,1)]):=nK
@[simp] theorem sz_84:bh Tryz.prog 84=some 7:=nK
@[simp] theorem ag_84:aggT Tryz.prog 84=some true:=nK
@[simp] theorem zero_84:cg Tryz.prog 84=some (.agg [.d (.int .i64 0),.d (.int .i64 0),.d (.int .i64 0),.d (.int .i64 0),.d (.int .i64 0),.d (.int .i64 0),.d (.bool false)]):=nK
@[simp] theorem fld_84_0:aM Tryz.prog 84 0=some (0,2):=nK
@[simp] theorem fld_84_1:aM Tryz.prog 84 1=some (1,2):=nK
@[simp] theorem fld_84_2:aM Tryz.prog 84 2=some (2,2):=nK
@[simp] theorem fld_84_3:aM Tryz.prog 84 3=some (3,2):=nK
@[simp] theorem fld_84_4:aM Tryz.prog 84 4=some (4,2):=nK
@[simp] theorem fld_84_5:aM Tryz.prog 84 5=some (5,2):=nK
@[simp] theorem fld_84_6:aM Tryz.prog 84 6=some (6,4):=nK
@[simp] theorem pl_84:bH Tryz.prog 84=some (.struct [(0,1),(1,1),(2,1),(3,1),(4,1),(5,1),(6,1)]):=nK
@[simp] theorem und_85:Tryz.prog.underlying 85=some (.slice 95):=nK
@[simp] theorem sz_85:bh Tryz.prog 85=some 1:=nK
@[simp] theorem ag_85:aggT Tryz.prog 85=some false:=nK
@[simp] theorem app_85:appT Tryz.prog 85=some (95,2):=nK
@[simp] theorem sz_87:bh Tryz.prog 87=some 3:=nK
@[simp] theorem ag_87:aggT Tryz.prog 87=some true:=nK
@[simp] theorem zero_87:cg Tryz.prog 87=some (.agg [.d (.bool false),.nil,.d (.str [])]):=nK
@[simp] theorem fld_87_0:aM Tryz.prog 87 0=some (0,4):=nK
@[simp] theorem fld_87_1:aM Tryz.prog 87 1=some (1,85):=nK
@[simp] theorem fld_87_2:aM Tryz.prog 87 2=some (2,9):=nK
@[simp] theorem pl_87:bH Tryz.prog 87=some (.struct [(0,1),(1,1),(2,1)]):=nK
@[simp] theorem und_92:Tryz.prog.underlying 92=some (.slice 2):=nK
@[simp] theorem sz_92:bh Tryz.prog 92=some 1:=nK
@[simp] theorem ag_92:aggT Tryz.prog 92=some false:=nK
@[simp] theorem kv:appT Tryz.prog 92=some (2,1):=nK
@[simp] theorem sz_95:bh Tryz.prog 95=some 2:=nK
@[simp] theorem ag_95:aggT Tryz.prog 95=some true:=nK
@[simp] theorem zero_95:cg Tryz.prog 95=some (.agg [.d (.int .u8 0),.d (.int .i64 0)]):=nK
@[simp] theorem fld_95_0:aM Tryz.prog 95 0=some (0,5):=nK
@[simp] theorem fld_95_1:aM Tryz.prog 95 1=some (1,2):=nK
@[simp] theorem pl_95:bH Tryz.prog 95=some (.struct [(0,1),(1,1)]):=nK
@[simp] theorem sz_103:bh Tryz.prog 103=some 2:=nK
@[simp] theorem ag_103:aggT Tryz.prog 103=some true:=nK
@[simp] theorem zero_103:cg Tryz.prog 103=some (.agg [.d (.int .i64 0),.nil]):=nK
@[simp] theorem fld_103_0:aM Tryz.prog 103 0=some (0,2):=nK
@[simp] theorem fld_103_1:aM Tryz.prog 103 1=some (1,31):=nK
@[simp] theorem pl_103:bH Tryz.prog 103=some (.struct [(0,1),(1,1)]):=nK
@[simp] theorem und_107:Tryz.prog.underlying 107=some (.slice 4):=nK
@[simp] theorem app_107:appT Tryz.prog 107=some (4,1):=nK
@[simp] theorem ld:Tryz.prog.underlying 108=some (.slice 31):=nK
@[simp] theorem mb:appT Tryz.prog 108=some (31,1):=nK
@[simp] theorem sz_121:bh Tryz.prog 121=some 2:=nK
@[simp] theorem ag_121:aggT Tryz.prog 121=some true:=nK
@[simp] theorem zero_121:cg Tryz.prog 121=some (.agg [.d (.int .i64 0),.nil]):=nK
@[simp] theorem fld_121_0:aM Tryz.prog 121 0=some (0,2):=nK
@[simp] theorem fld_121_1:aM Tryz.prog 121 1=some (1,31):=nK
@[simp] theorem pl_121:bH Tryz.prog 121=some (.struct [(0,1),(1,1)]):=nK
@[simp] theorem sz_130:bh Tryz.prog 130=some 8:=nK
@[simp] theorem ag_130:aggT Tryz.prog 130=some true:=nK
@[simp] theorem zero_130:cg Tryz.prog 130=some (.agg [.d (.int .i64 0),.d (.int .i64 0),.d (.int .i64 0),.d (.int .i64 0),.d (.int .i64 0),.d (.int .i64 0),.d (.int .i64 0),.d (.int .i64 0)]):=nK
@[simp] theorem fld_130_0:aM Tryz.prog 130 0=some (0,2):=nK
@[simp] theorem fld_130_1:aM Tryz.prog 130 1=some (1,2):=nK
@[simp] theorem fld_130_2:aM Tryz.prog 130 2=some (2,2):=nK
@[simp] theorem fld_130_3:aM Tryz.prog 130 3=some (3,2):=nK
@[simp] theorem fld_130_4:aM Tryz.prog 130 4=some (4,2):=nK
@[simp] theorem fld_130_5:aM Tryz.prog 130 5=some (5,2):=nK
@[simp] theorem fld_130_6:aM Tryz.prog 130 6=some (6,2):=nK
@[simp] theorem fld_130_7:aM Tryz.prog 130 7=some (7,2):=nK
@[simp] theorem pl_130:bH Tryz.prog 130=some (.struct [(0,1),(1,1),(2,1),(3,1),(4,1),(5,1),(6,1),(7,1)]):=nK
@[simp] theorem sz_132:bh Tryz.prog 132=some 7:=nK
@[simp] theorem ag_132:aggT Tryz.prog 132=some true:=nK
@[simp] theorem zero_132:cg Tryz.prog 132=some (.agg [.d (.int .i64 0),.d (.int .i64 0),.d (.int .i64 0),.d (.int .i64 0),.d (.int .i64 0),.d (.int .i64 0),.d (.bool false)]):=nK
@[simp] theorem fld_132_0:aM Tryz.prog 132 0=some (0,2):=nK
@[simp] theorem fld_132_1:aM Tryz.prog 132 1=some (1,2):=nK
@[simp] theorem fld_132_2:aM Tryz.prog 132 2=some (2,2):=nK
@[simp] theorem fld_132_3:aM Tryz.prog 132 3=some (3,2):=nK
@[simp] theorem fld_132_4:aM Tryz.prog 132 4=some (4,2):=nK
@[simp] theorem fld_132_5:aM Tryz.prog 132 5=some (5,2):=nK
@[simp] theorem fld_132_6:aM Tryz.prog 132 6=some (6,4):=nK
@[simp] theorem pl_132:bH Tryz.prog 132=some (.struct [(0,1),(1,1),(2,1),(3,1),(4,1),(5,1),(6,1)]):=nK
@[simp] theorem sz_134:bh Tryz.prog 134=some 18:=nK
@[simp] theorem ag_134:aggT Tryz.prog 134=some true:=nK
@[simp] theorem zero_134:cg Tryz.prog 134=some (.agg [.d (.int .i64 0),.d (.int .i64 0),.d (.int .i64 0),.d (.int .i64 0),.d (.int .i64 0),.d (.int .i64 0),.d (.int .i64 0),.d (.int .i64 0),.d (.int .i64 0),.d (.int .i64 0),.d (.int .i64 0),.d (.int .i64 0),.d (.int .i64 0),.d (.int .i64 0),.d (.bool false),.d (.int .i64 0),.d (.int .i64 0),.d (.int .i64 0)]):=nK
@[simp] theorem fld_134_0:aM Tryz.prog 134 0=some (0,130):=nK
@[simp] theorem fld_134_1:aM Tryz.prog 134 1=some (8,132):=nK
@[simp] theorem fld_134_2:aM Tryz.prog 134 2=some (15,23):=nK
@[simp] theorem pl_134:bH Tryz.prog 134=some (.struct [(0,8),(8,7),(15,3)]):=nK
@[simp] theorem und_144:Tryz.prog.underlying 144=some (.slice 148):=nK
@[simp] theorem app_144:appT Tryz.prog 144=some (148,4):=nK
@[simp] theorem sz_148:bh Tryz.prog 148=some 4:=nK
@[simp] theorem ag_148:aggT Tryz.prog 148=some true:=nK
@[simp] theorem zero_148:cg Tryz.prog 148=some (.agg [.d (.int .i64 0),.d (.int .i64 0),.d (.int .i64 0),.d (.int .i64 0)]):=nK
@[simp] theorem fld_148_0:aM Tryz.prog 148 0=some (0,23):=nK
@[simp] theorem fld_148_1:aM Tryz.prog 148 1=some (3,2):=nK
@[simp] theorem pl_148:bH Tryz.prog 148=some (.struct [(0,3),(3,1)]):=nK
@[simp] theorem und_161:Tryz.prog.underlying 161=some (.slice 23):=nK
@[simp] theorem app_161:appT Tryz.prog 161=some (23,3):=nK
@[simp] theorem sz_167:bh Tryz.prog 167=some 5:=nK
@[simp] theorem zero_167:cg Tryz.prog 167=some (.agg [.d (.str []),.d (.int .i64 0),.d (.bool false),.nil,.d (.str [])]):=nK
@[simp] theorem fld_167_0:aM Tryz.prog 167 0=some (0,9):=nK
@[simp] theorem fld_167_1:aM Tryz.prog 167 1=some (1,3):=nK
@[simp] theorem fld_167_2:aM Tryz.prog 167 2=some (2,87):=nK
@[simp] theorem pl_167:bH Tryz.prog 167=some (.struct [(0,1),(1,1),(2,3)]):=nK
@[simp] theorem nt:Tryz.prog.underlying 177=some (.map 2 31):=nK
@[simp] theorem sz_177:bh Tryz.prog 177=some 1:=nK
@[simp] theorem ag_177:aggT Tryz.prog 177=some false:=nK
@[simp] theorem und_178:Tryz.prog.underlying 178=some (.map 2 3):=nK
@[simp] theorem sz_178:bh Tryz.prog 178=some 1:=nK
@[simp] theorem ag_178:aggT Tryz.prog 178=some false:=nK
@[simp] theorem und_179:Tryz.prog.underlying 179=some (.map 2 2):=nK
@[simp] theorem sz_179:bh Tryz.prog 179=some 1:=nK
@[simp] theorem ag_179:aggT Tryz.prog 179=some false:=nK
@[simp] theorem zero_181:cg Tryz.prog 181=some (.agg [.d (.other (.map none)),.d (.other (.map none)),.d (.other (.map none)),.d (.other (.map none)),.d (.other (.map none))]):=nK
@[simp] theorem fld_181_0:aM Tryz.prog 181 0=some (0,177):=nK
@[simp] theorem fld_181_1:aM Tryz.prog 181 1=some (1,178):=nK
@[simp] theorem fld_181_2:aM Tryz.prog 181 2=some (2,178):=nK
@[simp] theorem fld_181_3:aM Tryz.prog 181 3=some (3,179):=nK
@[simp] theorem fld_181_4:aM Tryz.prog 181 4=some (4,177):=nK
@[simp] theorem pl_181:bH Tryz.prog 181=some (.struct [(0,1),(1,1),(2,1),(3,1),(4,1)]):=nK
@[simp] theorem und_186:Tryz.prog.underlying 186=some (.slice 194):=nK
@[simp] theorem sz_186:bh Tryz.prog 186=some 1:=nK
@[simp] theorem ag_186:aggT Tryz.prog 186=some false:=nK
@[simp] theorem zero_186:cg Tryz.prog 186=some (.nil):=nK
@[simp] theorem app_186:appT Tryz.prog 186=some (194,7):=nK
@[simp] theorem sz_192:bh Tryz.prog 192=some 2:=nK
@[simp] theorem ag_192:aggT Tryz.prog 192=some true:=nK
@[simp] theorem zero_192:cg Tryz.prog 192=some (.agg [.d (.int .i64 0),.d (.int .i64 0)]):=nK
@[simp] theorem fld_192_0:aM Tryz.prog 192 0=some (0,2):=nK
@[simp] theorem fld_192_1:aM Tryz.prog 192 1=some (1,2):=nK
@[simp] theorem pl_192:bH Tryz.prog 192=some (.struct [(0,1),(1,1)]):=nK
@[simp] theorem sz_194:bh Tryz.prog 194=some 7:=nK
@[simp] theorem ag_194:aggT Tryz.prog 194=some true:=nK
@[simp] theorem zero_194:cg Tryz.prog 194=some (.agg [.d (.int .i64 0),.d (.int .i64 0),.d (.int .i64 0),.d (.int .i64 0),.d (.int .i64 0),.d (.int .i64 0),.d (.int .i64 0)]):=nK
@[simp] theorem fld_194_0:aM Tryz.prog 194 0=some (0,3):=nK
@[simp] theorem fld_194_1:aM Tryz.prog 194 1=some (1,23):=nK
@[simp] theorem fld_194_2:aM Tryz.prog 194 2=some (4,192):=nK
@[simp] theorem fld_194_3:aM Tryz.prog 194 3=some (6,2):=nK
@[simp] theorem pl_194:bH Tryz.prog 194=some (.struct [(0,1),(1,3),(4,2),(6,1)]):=nK
@[simp] theorem und_196:Tryz.prog.underlying 196=some (.slice 5):=nK
@[simp] theorem und_197:Tryz.prog.underlying 197=some (.map 5 4):=nK
@[simp] theorem und_198:Tryz.prog.underlying 198=some (.map 3 4):=nK
@[simp] theorem und_208:Tryz.prog.underlying 208=some (.int .u64):=nK
@[simp] theorem gR:Tryz.prog.underlying 216=some (.map 5 3):=nK
@[simp] theorem und_225:Tryz.prog.underlying 225=some (.slice 192):=nK
@[simp] theorem sz_227:bh Tryz.prog 227=some 1:=nK
@[simp] theorem ag_227:aggT Tryz.prog 227=some false:=nK
@[simp] theorem zero_227:cg Tryz.prog 227=some (.d (.other (.pointer none))):=nK
@[simp] theorem und_228:Tryz.prog.underlying 228=some (.slice 227):=nK
@[simp] theorem sz_232:bh Tryz.prog 232=some 2:=nK
@[simp] theorem ag_232:aggT Tryz.prog 232=some true:=nK
@[simp] theorem zero_232:cg Tryz.prog 232=some (.agg [.d (.int .u8 0),.d (.other (.pointer none))]):=nK
@[simp] theorem fld_232_0:aM Tryz.prog 232 0=some (0,5):=nK
@[simp] theorem fld_232_1:aM Tryz.prog 232 1=some (1,227):=nK
@[simp] theorem pl_232:bH Tryz.prog 232=some (.struct [(0,1),(1,1)]):=nK
@[simp] theorem und_233:Tryz.prog.underlying 233=some (.slice 232):=nK
@[simp] theorem und_238:Tryz.prog.underlying 238=some (.int .u64):=nK
@[simp] theorem sz_246:bh Tryz.prog 246=some 4:=nK
@[simp] theorem ag_246:aggT Tryz.prog 246=some true:=nK
@[simp] theorem zero_246:cg Tryz.prog 246=some (.agg [.d (.int .i64 0),.d (.int .i64 0),.d (.int .i64 0),.nil]):=nK
@[simp] theorem fld_246_0:aM Tryz.prog 246 0=some (0,23):=nK
@[simp] theorem fld_246_1:aM Tryz.prog 246 1=some (3,186):=nK
@[simp] theorem pl_246:bH Tryz.prog 246=some (.struct [(0,3),(3,1)]):=nK
theorem eq_23:EqOk Tryz.prog 23 [.int .i64,.int .i64,.int .i64]:=eqK Tryz.underlying23
theorem eq_38:EqOk Tryz.prog 38 [.int .i64,.int .i64]:=eqK Tryz.underlying38
theorem eq_55:EqOk Tryz.prog 55 [.int .i64,.int .i64,.int .i64,.int .i64,.int .i64,.int .i64,.int .i64,.int .i64,.int .i64]:=eqK Tryz.underlying55
theorem eq_81:EqOk Tryz.prog 81 [.int .i64,.int .i64,.int .i64,.int .i64,.int .i64,.int .i64,.int .i64,.int .i64]:=eqK Tryz.underlying81
theorem eq_84:EqOk Tryz.prog 84 [.int .i64,.int .i64,.int .i64,.int .i64,.int .i64,.int .i64,.bool]:=eqK Tryz.underlying84
theorem eq_95:EqOk Tryz.prog 95 [.int .u8,.int .i64]:=eqK Tryz.underlying95
theorem eq_130:EqOk Tryz.prog 130 [.int .i64,.int .i64,.int .i64,.int .i64,.int .i64,.int .i64,.int .i64,.int .i64]:=eqK Tryz.underlying130
theorem eq_132:EqOk Tryz.prog 132 [.int .i64,.int .i64,.int .i64,.int .i64,.int .i64,.int .i64,.bool]:=eqK Tryz.underlying132
theorem eq_192:EqOk Tryz.prog 192 [.int .i64,.int .i64]:=eqK Tryz.underlying192
def eqTab:TypeId→Option (List SK)
 | 23=>some [.int .i64,.int .i64,.int .i64]
 | 38=>some [.int .i64,.int .i64]
 | 55=>some [.int .i64,.int .i64,.int .i64,.int .i64,.int .i64,.int .i64,.int .i64,.int .i64,.int .i64]
 | 81=>some [.int .i64,.int .i64,.int .i64,.int .i64,.int .i64,.int .i64,.int .i64,.int .i64]
 | 84=>some [.int .i64,.int .i64,.int .i64,.int .i64,.int .i64,.int .i64,.bool]
 | 95=>some [.int .u8,.int .i64]
 | 130=>some [.int .i64,.int .i64,.int .i64,.int .i64,.int .i64,.int .i64,.int .i64,.int .i64]
 | 132=>some [.int .i64,.int .i64,.int .i64,.int .i64,.int .i64,.int .i64,.bool]
 | 192=>some [.int .i64,.int .i64]
 | _=>none
theorem eqTab_ok:∀t ks,eqTab t=some ks→EqOk Tryz.prog t ks:=by
 intro t ks h
 unfold eqTab at h
 split at h
 ·injection h with h;subst h;exact eq_23
 ·injection h with h;subst h;exact eq_38
 ·injection h with h;subst h;exact eq_55
 ·injection h with h;subst h;exact eq_81
 ·injection h with h;subst h;exact eq_84
 ·injection h with h;subst h;exact eq_95
 ·injection h with h;subst h;exact eq_130
 ·injection h with h;subst h;exact eq_132
 ·injection h with h;subst h;exact eq_192
 ·cases h
def gP:Pg Tryz.prog:=⟨by kernel_rfl,eqTab,eqTab_ok⟩
@[simp] theorem gE_23:gP.E 23=some [.int .i64,.int .i64,.int .i64]:=nr rfl
@[simp] theorem gE_38:gP.E 38=some [.int .i64,.int .i64]:=nr rfl
@[simp] theorem gE_55:gP.E 55=some [.int .i64,.int .i64,.int .i64,.int .i64,.int .i64,.int .i64,.int .i64,.int .i64,.int .i64]:=nr rfl
@[simp] theorem gE_84:gP.E 84=some [.int .i64,.int .i64,.int .i64,.int .i64,.int .i64,.int .i64,.bool]:=nr rfl
@[simp] theorem gE_132:gP.E 132=some [.int .i64,.int .i64,.int .i64,.int .i64,.int .i64,.int .i64,.bool]:=nr rfl
end Go.Proofs.YtjemmjpdmbenkaaGreatDoor
