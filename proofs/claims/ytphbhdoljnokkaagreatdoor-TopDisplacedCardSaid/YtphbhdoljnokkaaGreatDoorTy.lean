import Derived.Test.YtphbhdoljnokkaaGreatDoorS3
import Derived.Laws.StructEq
import Derived.ChangeKeysEq
namespace Go.Proofs.YtphbhdoljnokkaaGreatDoor
open Go.RowKit
set_option linter.unusedSimpArgs false
theorem nK{α:Type}{a b:α}(h:a=b:=by kernel_rfl):a=b:=nr h
theorem eqK{k:TypeId}{l:List SK}{fs:Array Field}(hu:Tryz.prog.underlying k=some (.struct fs))(h:Tryz.prog.underlying k=some (.struct fs)→EqOk Tryz.prog k l:=by
 refine λhu=>⟨by kernel_rfl,λxs ys hx hy w=>?_⟩
 repeat (obtain⟨_,_,e,k,q⟩:=kinds_cons hx;clear hx;have hx:=q;clear q;subst e;first | (obtain⟨_,rfl⟩:=kind_int k)|(obtain⟨_,rfl⟩:=kind_bool k)|(obtain⟨_,rfl⟩:=kind_str k))
 cases kinds_nil hx
 repeat (obtain⟨_,_,e,k,q⟩:=kinds_cons hy;clear hy;have hy:=q;clear q;subst e;first | (obtain⟨_,rfl⟩:=kind_int k)|(obtain⟨_,rfl⟩:=kind_bool k)|(obtain⟨_,rfl⟩:=kind_str k))
 cases kinds_nil hy
 simp only[Op.equal,Op.maxDepth]
 rw[show (10000:Nat)=9999+1 from rfl,run_equalIn_agg w 9999 _ _ _ (by rw[Program.fieldsOf,hu]) (by kernel_rfl)]
 simp only[Program.fieldsOf,hu,List.map_cons,List.map_nil,D.val]
 go_simp
 simp only[eqAll,eqD]
 repeat' (first | rfl | (split<;>simp_all))):EqOk Tryz.prog k l:=h hu
@[simp] theorem und_2:Tryz.prog.underlying 2=some (.int .i64):=nK
@[simp] theorem sz_2:bs Tryz.prog 2=some 1:=nK
@[simp] theorem ag_2:aggT Tryz.prog 2=some false:=nK
@[simp] theorem zero_2:eT Tryz.prog 2=some (.d (.int .i64 0)):=nK
@[simp] theorem und_3:Tryz.prog.underlying 3=some (.int .i64):=nK
@[simp] theorem sz_3:bs Tryz.prog 3=some 1:=nK
@[simp] theorem ag_3:aggT Tryz.prog 3=some false:=nK
@[simp] theorem und_4:Tryz.prog.underlying 4=some (.bool):=nK
@[simp] theorem sz_4:bs Tryz.prog 4=some 1:=nK
@[simp] theorem ag_4:aggT Tryz.prog 4=some false:=nK
@[simp] theorem zero_4:eT Tryz.prog 4=some (.d (.bool false)):=nK
@[simp] theorem und_5:Tryz.prog.underlying 5=some (.int .u8):=nK
@[simp] theorem sz_5:bs Tryz.prog 5=some 1:=nK
@[simp] theorem ag_5:aggT Tryz.prog 5=some false:=nK
@[simp] theorem zero_5:eT Tryz.prog 5=some (.d (.int .u8 0)):=nK
@[simp] theorem und_9:Tryz.prog.underlying 9=some (.string):=nK
@[simp] theorem sz_9:bs Tryz.prog 9=some 1:=nK
@[simp] theorem ag_9:aggT Tryz.prog 9=some false:=nK
@[simp] theorem zero_9:eT Tryz.prog 9=some (.d (.str [])):=nK
@[simp] theorem und_21:Tryz.prog.underlying 21=some (.int .i32):=nK
@[simp] theorem und_22:Tryz.prog.underlying 22=some (.slice 79):=nK
@[simp] theorem sz_22:bs Tryz.prog 22=some 1:=nK
@[simp] theorem ag_22:aggT Tryz.prog 22=some false:=nK
@[simp] theorem sz_24:bs Tryz.prog 24=some 3:=nK
@[simp] theorem ag_24:aggT Tryz.prog 24=some true:=nK
@[simp] theorem zero_24:eT Tryz.prog 24=some (.agg [.d (.int .i64 0),.d (.int .i64 0),.d (.int .i64 0)]):=nK
@[simp] theorem fld_24_0:aJ Tryz.prog 24 0=some (0,2):=nK
@[simp] theorem fld_24_1:aJ Tryz.prog 24 1=some (1,2):=nK
@[simp] theorem fld_24_2:aJ Tryz.prog 24 2=some (2,2):=nK
@[simp] theorem pl_24:dG Tryz.prog 24=some (.struct [(0,1),(1,1),(2,1)]):=nK
@[simp] theorem sz_26:bs Tryz.prog 26=some 7:=nK
@[simp] theorem ag_26:aggT Tryz.prog 26=some true:=nK
@[simp] theorem zero_26:eT Tryz.prog 26=some (.agg [.nil,.d (.int .i64 0),.d (.int .i64 0),.d (.int .i64 0),.d (.int .i64 0),.d (.int .i64 0),.d (.int .i64 0)]):=nK
@[simp] theorem fld_26_0:aJ Tryz.prog 26 0=some (0,22):=nK
@[simp] theorem fld_26_1:aJ Tryz.prog 26 1=some (1,24):=nK
@[simp] theorem fld_26_2:aJ Tryz.prog 26 2=some (4,24):=nK
@[simp] theorem pl_26:dG Tryz.prog 26=some (.struct [(0,1),(1,3),(4,3)]):=nK
@[simp] theorem und_27:Tryz.prog.underlying 27=some (.int .i16):=nK
@[simp] theorem sz_27:bs Tryz.prog 27=some 1:=nK
@[simp] theorem ag_27:aggT Tryz.prog 27=some false:=nK
@[simp] theorem sz_29:bs Tryz.prog 29=some 3:=nK
@[simp] theorem ag_29:aggT Tryz.prog 29=some true:=nK
@[simp] theorem fld_29_0:aJ Tryz.prog 29 0=some (0,27):=nK
@[simp] theorem fld_29_1:aJ Tryz.prog 29 1=some (1,27):=nK
@[simp] theorem fld_29_2:aJ Tryz.prog 29 2=some (2,5):=nK
@[simp] theorem sz_36:bs Tryz.prog 36=some 4:=nK
@[simp] theorem ag_36:aggT Tryz.prog 36=some true:=nK
@[simp] theorem zero_36:eT Tryz.prog 36=some (.agg [.d (.int .i64 0),.d (.bool false),.d (.int .i64 0),.d (.int .i64 0)]):=nK
@[simp] theorem fld_36_0:aJ Tryz.prog 36 0=some (0,2):=nK
@[simp] theorem fld_36_1:aJ Tryz.prog 36 1=some (1,4):=nK
@[simp] theorem fld_36_2:aJ Tryz.prog 36 2=some (2,2):=nK
@[simp] theorem fld_36_3:aJ Tryz.prog 36 3=some (3,3):=nK
@[simp] theorem pl_36:dG Tryz.prog 36=some (.struct [(0,1),(1,1),(2,1),(3,1)]):=nK
@[simp] theorem und_38:Tryz.prog.underlying 38=some (.slice 81):=nK
@[simp] theorem app_38:appT Tryz.prog 38=some (81,9):=nK
@[simp] theorem sz_40:bs Tryz.prog 40=some 2:=nK
@[simp] theorem ag_40:aggT Tryz.prog 40=some true:=nK
@[simp] theorem zero_40:eT Tryz.prog 40=some (.agg [.d (.int .i64 0),.d (.int .i64 0)]):=nK
@[simp] theorem pl_40:dG Tryz.prog 40=some (.struct [(0,1),(1,1)]):=nK
@[simp] theorem und_43:Tryz.prog.underlying 43=some (.array 6 24):=nK
@[simp] theorem sz_43:bs Tryz.prog 43=some 18:=nK
@[simp] theorem und_44:Tryz.prog.underlying 44=some (.slice 102):=nK
@[simp] theorem sz_44:bs Tryz.prog 44=some 1:=nK
@[simp] theorem ag_44:aggT Tryz.prog 44=some false:=nK
@[simp] theorem app_44:appT Tryz.prog 44=some (102,2):=nK
@[simp] theorem sz_46:bs Tryz.prog 46=some 19:=nK
@[simp] theorem ag_46:aggT Tryz.prog 46=some true:=nK
@[simp] theorem zero_46:eT Tryz.prog 46=some (.agg [.d (.int .i64 0),.d (.int .i64 0),.d (.int .i64 0),.d (.int .i64 0),.d (.int .i64 0),.d (.int .i64 0),.d (.int .i64 0),.d (.int .i64 0),.d (.int .i64 0),.d (.int .i64 0),.d (.int .i64 0),.d (.int .i64 0),.d (.int .i64 0),.d (.int .i64 0),.d (.int .i64 0),.d (.int .i64 0),.d (.int .i64 0),.d (.int .i64 0),.nil]):=nK
@[simp] theorem fld_46_0:aJ Tryz.prog 46 0=some (0,43):=nK
@[simp] theorem fld_46_1:aJ Tryz.prog 46 1=some (18,44):=nK
@[simp] theorem und_48:Tryz.prog.underlying 48=some (.slice 50):=nK
@[simp] theorem app_48:appT Tryz.prog 48=some (50,8):=nK
@[simp] theorem sz_50:bs Tryz.prog 50=some 8:=nK
@[simp] theorem ag_50:aggT Tryz.prog 50=some true:=nK
@[simp] theorem zero_50:eT Tryz.prog 50=some (.agg [.d (.int .i64 0),.d (.int .i64 0),.d (.int .i64 0),.d (.int .i64 0),.d (.int .i64 0),.d (.int .i64 0),.d (.int .i64 0),.d (.int .i64 0)]):=nK
@[simp] theorem fld_50_0:aJ Tryz.prog 50 0=some (0,3):=nK
@[simp] theorem fld_50_1:aJ Tryz.prog 50 1=some (1,3):=nK
@[simp] theorem fld_50_2:aJ Tryz.prog 50 2=some (2,2):=nK
@[simp] theorem fld_50_3:aJ Tryz.prog 50 3=some (3,2):=nK
@[simp] theorem fld_50_4:aJ Tryz.prog 50 4=some (4,2):=nK
@[simp] theorem fld_50_5:aJ Tryz.prog 50 5=some (5,2):=nK
@[simp] theorem fld_50_6:aJ Tryz.prog 50 6=some (6,2):=nK
@[simp] theorem fld_50_7:aJ Tryz.prog 50 7=some (7,2):=nK
@[simp] theorem pl_50:dG Tryz.prog 50=some (.struct [(0,1),(1,1),(2,1),(3,1),(4,1),(5,1),(6,1),(7,1)]):=nK
@[simp] theorem und_52:Tryz.prog.underlying 52=some (.slice 107):=nK
@[simp] theorem app_52:appT Tryz.prog 52=some (107,7):=nK
@[simp] theorem eu:Tryz.prog.underlying 55=some (.slice 264):=nK
@[simp] theorem sz_55:bs Tryz.prog 55=some 1:=nK
@[simp] theorem ag_55:aggT Tryz.prog 55=some false:=nK
@[simp] theorem og:appT Tryz.prog 55=some (264,1):=nK
@[simp] theorem sz_57:bs Tryz.prog 57=some 2:=nK
@[simp] theorem ag_57:aggT Tryz.prog 57=some true:=nK
@[simp] theorem zero_57:eT Tryz.prog 57=some (.agg [.d (.bool false),.nil]):=nK
@[simp] theorem fld_57_0:aJ Tryz.prog 57 0=some (0,4):=nK
@[simp] theorem fld_57_1:aJ Tryz.prog 57 1=some (1,55):=nK
@[simp] theorem pl_57:dG Tryz.prog 57=some (.struct [(0,1),(1,1)]):=nK
@[simp] theorem sz_59:bs Tryz.prog 59=some 4:=nK
@[simp] theorem ag_59:aggT Tryz.prog 59=some true:=nK
@[simp] theorem zero_59:eT Tryz.prog 59=some (.agg [.d (.bool false),.nil,.d (.bool false),.nil]):=nK
@[simp] theorem fld_59_0:aJ Tryz.prog 59 0=some (0,57):=nK
@[simp] theorem fld_59_1:aJ Tryz.prog 59 1=some (2,57):=nK
@[simp] theorem pl_59:dG Tryz.prog 59=some (.struct [(0,2),(2,2)]):=nK
@[simp] theorem sz_61:bs Tryz.prog 61=some 8:=nK
@[simp] theorem ag_61:aggT Tryz.prog 61=some true:=nK
@[simp] theorem zero_61:eT Tryz.prog 61=some (.agg [.d (.bool false),.nil,.d (.bool false),.nil,.d (.bool false),.nil,.d (.bool false),.nil]):=nK
@[simp] theorem fld_61_0:aJ Tryz.prog 61 0=some (0,59):=nK
@[simp] theorem fld_61_1:aJ Tryz.prog 61 1=some (4,59):=nK
@[simp] theorem pl_61:dG Tryz.prog 61=some (.struct [(0,4),(4,4)]):=nK
@[simp] theorem sz_66:bs Tryz.prog 66=some 12:=nK
@[simp] theorem ag_66:aggT Tryz.prog 66=some true:=nK
@[simp] theorem zero_66:eT Tryz.prog 66=some (.agg [.d (.bool false),.nil,.d (.bool false),.nil,.d (.bool false),.nil,.d (.bool false),.nil,.d (.bool false),.nil,.d (.bool false),.nil]):=nK
@[simp] theorem fld_66_0:aJ Tryz.prog 66 0=some (0,59):=nK
@[simp] theorem fld_66_1:aJ Tryz.prog 66 1=some (4,59):=nK
@[simp] theorem fld_66_2:aJ Tryz.prog 66 2=some (8,59):=nK
@[simp] theorem pl_66:dG Tryz.prog 66=some (.struct [(0,4),(4,4),(8,4)]):=nK
@[simp] theorem sz_74:bs Tryz.prog 74=some 2:=nK
@[simp] theorem ag_74:aggT Tryz.prog 74=some true:=nK
@[simp] theorem zero_74:eT Tryz.prog 74=some (.agg [.d (.int .i64 0),.d (.int .i64 0)]):=nK
@[simp] theorem fld_74_0:aJ Tryz.prog 74 0=some (0,2):=nK
@[simp] theorem fld_74_1:aJ Tryz.prog 74 1=some (1,2):=nK
@[simp] theorem pl_74:dG Tryz.prog 74=some (.struct [(0,1),(1,1)]):=nK
@[simp] theorem sz_76:bs Tryz.prog 76=some 7:=nK
@[simp] theorem ag_76:aggT Tryz.prog 76=some true:=nK
@[simp] theorem zero_76:eT Tryz.prog 76=some (.agg [.d (.int .i64 0),.d (.int .i64 0),.d (.int .i64 0),.d (.int .i64 0),.d (.int .i64 0),.d (.int .i64 0),.d (.int .i64 0)]):=nK
@[simp] theorem fld_76_0:aJ Tryz.prog 76 0=some (0,3):=nK
@[simp] theorem fld_76_1:aJ Tryz.prog 76 1=some (1,24):=nK
@[simp] theorem fld_76_2:aJ Tryz.prog 76 2=some (4,74):=nK
@[simp] theorem fld_76_3:aJ Tryz.prog 76 3=some (6,2):=nK
@[simp] theorem pl_76:dG Tryz.prog 76=some (.struct [(0,1),(1,3),(4,2),(6,1)]):=nK
@[simp] theorem und_77:Tryz.prog.underlying 77=some (.slice 76):=nK
@[simp] theorem sz_77:bs Tryz.prog 77=some 1:=nK
@[simp] theorem ag_77:aggT Tryz.prog 77=some false:=nK
@[simp] theorem sz_79:bs Tryz.prog 79=some 2:=nK
@[simp] theorem ag_79:aggT Tryz.prog 79=some true:=nK
@[simp] theorem zero_79:eT Tryz.prog 79=some (.agg [.d (.int .i64 0),.nil]):=nK
@[simp] theorem fld_79_0:aJ Tryz.prog 79 0=some (0,3):=nK
@[simp] theorem fld_79_1:aJ Tryz.prog 79 1=some (1,77):=nK
@[simp] theorem pl_79:dG Tryz.prog 79=some (.struct [(0,1),(1,1)]):=nK
@[simp] theorem sz_81:bs Tryz.prog 81=some 9:=nK
@[simp] theorem ag_81:aggT Tryz.prog 81=some true:=nK
@[simp] theorem zero_81:eT Tryz.prog 81=some (.agg [.d (.int .i64 0),.d (.int .i64 0),.d (.int .i64 0),.d (.int .i64 0),.d (.int .i64 0),.d (.int .i64 0),.d (.int .i64 0),.d (.int .i64 0),.d (.int .i64 0)]):=nK
@[simp] theorem fld_81_0:aJ Tryz.prog 81 0=some (0,24):=nK
@[simp] theorem fld_81_1:aJ Tryz.prog 81 1=some (3,24):=nK
@[simp] theorem fld_81_2:aJ Tryz.prog 81 2=some (6,2):=nK
@[simp] theorem fld_81_3:aJ Tryz.prog 81 3=some (7,3):=nK
@[simp] theorem fld_81_4:aJ Tryz.prog 81 4=some (8,3):=nK
@[simp] theorem pl_81:dG Tryz.prog 81=some (.struct [(0,3),(3,3),(6,1),(7,1),(8,1)]):=nK
@[simp] theorem und_82:Tryz.prog.underlying 82=some (.slice 24):=nK
@[simp] theorem app_82:appT Tryz.prog 82=some (24,3):=nK
@[simp] theorem und_85:Tryz.prog.underlying 85=some (.slice 2):=nK
@[simp] theorem sz_85:bs Tryz.prog 85=some 1:=nK
@[simp] theorem ag_85:aggT Tryz.prog 85=some false:=nK
@[simp] theorem app_85:appT Tryz.prog 85=some (2,1):=nK
@[simp] theorem und_86:Tryz.prog.underlying 86=some (.slice 137):=nK
@[simp] theorem sz_86:bs Tryz.prog 86=some 1:=nK
@[simp] theorem ag_86:aggT Tryz.prog 86=some false:=nK
@[simp] theorem zero_86:eT Tryz.prog 86=some (.nil):=nK
@[simp] theorem app_86:appT Tryz.prog 86=some (137,3):=nK
@[simp] theorem und_93:Tryz.prog.underlying 93=some (.slice 160):=nK
@[simp] theorem sz_93:bs Tryz.prog 93=some 1:=nK
@[simp] theorem ag_93:aggT Tryz.prog 93=some false:=nK
@[simp] theorem sz_95:bs Tryz.prog 95=some 2:=nK
@[simp] theorem ag_95:aggT Tryz.prog 95=some true:=nK
@[simp] theorem zero_95:eT Tryz.prog 95=some (.agg [.nil,.nil]):=nK
@[simp] theorem fld_95_0:aJ Tryz.prog 95 0=some (0,86):=nK
@[simp] theorem fld_95_1:aJ Tryz.prog 95 1=some (1,93):=nK
@[simp] theorem pl_95:dG Tryz.prog 95=some (.struct [(0,1),(1,1)]):=nK
@[simp] theorem sz_102:bs Tryz.prog 102=some 2:=nK
@[simp] theorem ag_102:aggT Tryz.prog 102=some true:=nK
@[simp] theorem zero_102:eT Tryz.prog 102=some (.agg [.d (.int .i64 0),.d (.int .i64 0)]):=nK
@[simp] theorem fld_102_0:aJ Tryz.prog 102 0=some (0,2):=nK
@[simp] theorem fld_102_1:aJ Tryz.prog 102 1=some (1,2):=nK
@[simp] theorem pl_102:dG Tryz.prog 102=some (.struct [(0,1),(1,1)]):=nK
@[simp] theorem sz_107:bs Tryz.prog 107=some 7:=nK
@[simp] theorem ag_107:aggT Tryz.prog 107=some true:=nK
@[simp] theorem zero_107:eT Tryz.prog 107=some (.agg [.d (.int .i64 0),.d (.int .i64 0),.d (.int .i64 0),.d (.int .i64 0),.d (.int .i64 0),.d (.int .i64 0),.d (.int .i64 0)]):=nK
@[simp] theorem fld_107_0:aJ Tryz.prog 107 0=some (0,24):=nK
@[simp] theorem fld_107_1:aJ Tryz.prog 107 1=some (3,24):=nK
@[simp] theorem fld_107_2:aJ Tryz.prog 107 2=some (6,2):=nK
@[simp] theorem pl_107:dG Tryz.prog 107=some (.struct [(0,3),(3,3),(6,1)]):=nK
@[simp] theorem sz_126:bs Tryz.prog 126=some 8:=nK
@[simp] theorem ag_126:aggT Tryz.prog 126=some true:=nK
@[simp] theorem zero_126:eT Tryz.prog 126=some (.agg [.d (.int .i64 0),.d (.int .i64 0),.d (.int .i64 0),.d (.int .i64 0),.d (.int .i64 0),.d (.int .i64 0),.d (.int .i64 0),.d (.int .i64 0)]):=nK
@[simp] theorem fld_126_0:aJ Tryz.prog 126 0=some (0,2):=nK
@[simp] theorem fld_126_1:aJ Tryz.prog 126 1=some (1,2):=nK
@[simp] theorem fld_126_2:aJ Tryz.prog 126 2=some (2,2):=nK
@[simp] theorem fld_126_3:aJ Tryz.prog 126 3=some (3,2):=nK
@[simp] theorem fld_126_4:aJ Tryz.prog 126 4=some (4,2):=nK
@[simp] theorem fld_126_5:aJ Tryz.prog 126 5=some (5,2):=nK
@[simp] theorem fld_126_6:aJ Tryz.prog 126 6=some (6,2):=nK
@[simp] theorem fld_126_7:aJ Tryz.prog 126 7=some (7,2):=nK
@[simp] theorem pl_126:dG Tryz.prog 126=some (.struct [(0,1),(1,1),(2,1),(3,1),(4,1),(5,1),(6,1),(7,1)]):=nK
@[simp] theorem und_132:Tryz.prog.underlying 132=some (.slice 5):=nK
@[simp] theorem sz_132:bs Tryz.prog 132=some 1:=nK
@[simp] theorem ag_132:aggT Tryz.prog 132=some false:=nK
@[simp] theorem app_132:appT Tryz.prog 132=some (5,1):=nK
@[simp] theorem fld_134_1:aJ Tryz.prog 134 1=some (1,132):=nK
@[simp] theorem und_135:Tryz.prog.underlying 135=some (.slice 168):=nK
@[simp] theorem sz_135:bs Tryz.prog 135=some 1:=nK
@[simp] theorem ag_135:aggT Tryz.prog 135=some false:=nK
@[simp] theorem app_135:appT Tryz.prog 135=some (168,2):=nK
@[simp] theorem sz_137:bs Tryz.prog 137=some 3:=nK
@[simp] theorem ag_137:aggT Tryz.prog 137=some true:=nK
@[simp] theorem zero_137:eT Tryz.prog 137=some (.agg [.d (.bool false),.nil,.d (.str [])]):=nK
@[simp] theorem fld_137_0:aJ Tryz.prog 137 0=some (0,4):=nK
@[simp] theorem fld_137_1:aJ Tryz.prog 137 1=some (1,135):=nK
@[simp] theorem fld_137_2:aJ Tryz.prog 137 2=some (2,9):=nK
@[simp] theorem pl_137:dG Tryz.prog 137=some (.struct [(0,1),(1,1),(2,1)]):=nK
@[simp] theorem sz_160:bs Tryz.prog 160=some 2:=nK
@[simp] theorem ag_160:aggT Tryz.prog 160=some true:=nK
@[simp] theorem zero_160:eT Tryz.prog 160=some (.agg [.d (.int .i64 0),.nil]):=nK
@[simp] theorem fld_160_0:aJ Tryz.prog 160 0=some (0,2):=nK
@[simp] theorem sz_168:bs Tryz.prog 168=some 2:=nK
@[simp] theorem ag_168:aggT Tryz.prog 168=some true:=nK
@[simp] theorem zero_168:eT Tryz.prog 168=some (.agg [.d (.int .u8 0),.d (.int .i64 0)]):=nK
@[simp] theorem fld_168_0:aJ Tryz.prog 168 0=some (0,5):=nK
@[simp] theorem fld_168_1:aJ Tryz.prog 168 1=some (1,2):=nK
@[simp] theorem pl_168:dG Tryz.prog 168=some (.struct [(0,1),(1,1)]):=nK
@[simp] theorem sz_170:bs Tryz.prog 170=some 7:=nK
@[simp] theorem ag_170:aggT Tryz.prog 170=some true:=nK
@[simp] theorem zero_170:eT Tryz.prog 170=some (.agg [.d (.int .i64 0),.d (.int .i64 0),.d (.int .i64 0),.d (.int .i64 0),.d (.int .i64 0),.d (.int .i64 0),.d (.bool false)]):=nK
@[simp] theorem pl_170:dG Tryz.prog 170=some (.struct [(0,1),(1,1),(2,1),(3,1),(4,1),(5,1),(6,1)]):=nK
@[simp] theorem und_187:Tryz.prog.underlying 187=some (.int .u64):=nK
@[simp] theorem sz_202:bs Tryz.prog 202=some 24:=nK
@[simp] theorem ag_202:aggT Tryz.prog 202=some true:=nK
@[simp] theorem zero_202:eT Tryz.prog 202=some (.agg [.d (.bool false),.nil,.d (.bool false),.nil,.d (.bool false),.nil,.d (.bool false),.nil,.d (.bool false),.nil,.d (.bool false),.nil,.d (.bool false),.nil,.d (.bool false),.nil,.d (.bool false),.nil,.d (.bool false),.nil,.d (.bool false),.nil,.d (.bool false),.nil]):=nK
@[simp] theorem fld_202_0:aJ Tryz.prog 202 0=some (0,59):=nK
@[simp] theorem fld_202_1:aJ Tryz.prog 202 1=some (4,59):=nK
@[simp] theorem fld_202_2:aJ Tryz.prog 202 2=some (8,59):=nK
@[simp] theorem fld_202_3:aJ Tryz.prog 202 3=some (12,59):=nK
@[simp] theorem fld_202_4:aJ Tryz.prog 202 4=some (16,59):=nK
@[simp] theorem fld_202_5:aJ Tryz.prog 202 5=some (20,59):=nK
@[simp] theorem pl_202:dG Tryz.prog 202=some (.struct [(0,4),(4,4),(8,4),(12,4),(16,4),(20,4)]):=nK
@[simp] theorem und_225:Tryz.prog.underlying 225=some (.slice 9):=nK
@[simp] theorem app_225:appT Tryz.prog 225=some (9,1):=nK
@[simp] theorem sz_235:bs Tryz.prog 235=some 5:=nK
@[simp] theorem zero_235:eT Tryz.prog 235=some (.agg [.d (.str []),.d (.int .i64 0),.d (.bool false),.nil,.d (.str [])]):=nK
@[simp] theorem fld_235_0:aJ Tryz.prog 235 0=some (0,9):=nK
@[simp] theorem fld_235_1:aJ Tryz.prog 235 1=some (1,3):=nK
@[simp] theorem fld_235_2:aJ Tryz.prog 235 2=some (2,137):=nK
@[simp] theorem pl_235:dG Tryz.prog 235=some (.struct [(0,1),(1,1),(2,3)]):=nK
@[simp] theorem zero_251:eT Tryz.prog 251=some (.agg [.d (.other (.map none)),.d (.other (.map none)),.d (.other (.map none)),.d (.other (.map none)),.d (.other (.map none))]):=nK
@[simp] theorem pl_251:dG Tryz.prog 251=some (.struct [(0,1),(1,1),(2,1),(3,1),(4,1)]):=nK
@[simp] theorem und_256:Tryz.prog.underlying 256=some (.slice 260):=nK
@[simp] theorem app_256:appT Tryz.prog 256=some (260,4):=nK
@[simp] theorem sz_260:bs Tryz.prog 260=some 4:=nK
@[simp] theorem ag_260:aggT Tryz.prog 260=some true:=nK
@[simp] theorem zero_260:eT Tryz.prog 260=some (.agg [.d (.int .i64 0),.d (.int .i64 0),.d (.int .i64 0),.d (.int .i64 0)]):=nK
@[simp] theorem fld_260_0:aJ Tryz.prog 260 0=some (0,24):=nK
@[simp] theorem fld_260_1:aJ Tryz.prog 260 1=some (3,2):=nK
@[simp] theorem pl_260:dG Tryz.prog 260=some (.struct [(0,3),(3,1)]):=nK
@[simp] theorem und_264:Tryz.prog.underlying 264=some (.int .u32):=nK
@[simp] theorem bJ:bs Tryz.prog 264=some 1:=nK
@[simp] theorem ag_264:aggT Tryz.prog 264=some false:=nK
@[simp] theorem jP:eT Tryz.prog 264=some (.d (.int .u32 0)):=nK
@[simp] theorem jy:bs Tryz.prog 273=some 2:=nK
@[simp] theorem jF:aggT Tryz.prog 273=some true:=nK
@[simp] theorem zero_273:eT Tryz.prog 273=some (.agg [.d (.int .i64 0),.d (.int .i64 0)]):=nK
@[simp] theorem fld_273_0:aJ Tryz.prog 273 0=some (0,2):=nK
@[simp] theorem fld_273_1:aJ Tryz.prog 273 1=some (1,2):=nK
@[simp] theorem pl_273:dG Tryz.prog 273=some (.struct [(0,1),(1,1)]):=nK
@[simp] theorem und_279:Tryz.prog.underlying 279=some (.array 5 2):=nK
@[simp] theorem und_293:Tryz.prog.underlying 293=some (.slice 86):=nK
@[simp] theorem und_296:Tryz.prog.underlying 296=some (.map 5 4):=nK
@[simp] theorem und_297:Tryz.prog.underlying 297=some (.map 3 4):=nK
@[simp] theorem und_308:Tryz.prog.underlying 308=some (.slice 59):=nK
@[simp] theorem sz_317:bs Tryz.prog 317=some 1:=nK
@[simp] theorem ag_317:aggT Tryz.prog 317=some true:=nK
@[simp] theorem zero_317:eT Tryz.prog 317=some (.agg [.d (.bool false)]):=nK
@[simp] theorem fld_317_0:aJ Tryz.prog 317 0=some (0,4):=nK
@[simp] theorem pl_317:dG Tryz.prog 317=some (.struct [(0,1)]):=nK
@[simp] theorem sz_324:bs Tryz.prog 324=some 1:=nK
@[simp] theorem ag_324:aggT Tryz.prog 324=some false:=nK
@[simp] theorem zero_324:eT Tryz.prog 324=some (.d (.other (.pointer none))):=nK
@[simp] theorem und_325:Tryz.prog.underlying 325=some (.slice 324):=nK
@[simp] theorem und_335:Tryz.prog.underlying 335=some (.int .u64):=nK
@[simp] theorem sz_341:bs Tryz.prog 341=some 2:=nK
@[simp] theorem ag_341:aggT Tryz.prog 341=some true:=nK
@[simp] theorem zero_341:eT Tryz.prog 341=some (.agg [.d (.int .u8 0),.d (.other (.pointer none))]):=nK
@[simp] theorem fld_341_0:aJ Tryz.prog 341 0=some (0,5):=nK
@[simp] theorem fld_341_1:aJ Tryz.prog 341 1=some (1,324):=nK
@[simp] theorem pl_341:dG Tryz.prog 341=some (.struct [(0,1),(1,1)]):=nK
@[simp] theorem und_342:Tryz.prog.underlying 342=some (.slice 341):=nK
theorem eq_24:EqOk Tryz.prog 24 [.int .i64,.int .i64,.int .i64]:=eqK Tryz.underlying24
theorem eq_40:EqOk Tryz.prog 40 [.int .i64,.int .i64]:=eqK Tryz.underlying40
theorem eq_81:EqOk Tryz.prog 81 [.int .i64,.int .i64,.int .i64,.int .i64,.int .i64,.int .i64,.int .i64,.int .i64,.int .i64]:=eqK Tryz.underlying81
theorem eq_126:EqOk Tryz.prog 126 [.int .i64,.int .i64,.int .i64,.int .i64,.int .i64,.int .i64,.int .i64,.int .i64]:=eqK Tryz.underlying126
theorem eq_168:EqOk Tryz.prog 168 [.int .u8,.int .i64]:=eqK Tryz.underlying168
def eqTab:TypeId→Option (List SK)
 | 24=>some [.int .i64,.int .i64,.int .i64]
 | 40=>some [.int .i64,.int .i64]
 | 81=>some [.int .i64,.int .i64,.int .i64,.int .i64,.int .i64,.int .i64,.int .i64,.int .i64,.int .i64]
 | 126=>some [.int .i64,.int .i64,.int .i64,.int .i64,.int .i64,.int .i64,.int .i64,.int .i64]
 | 168=>some [.int .u8,.int .i64]
 | _=>none
theorem eqTab_ok:∀t ks,eqTab t=some ks→EqOk Tryz.prog t ks:=by
 intro t ks h
 unfold eqTab at h
 split at h
 ·injection h with h;subst h;exact eq_24
 ·injection h with h;subst h;exact eq_40
 ·injection h with h;subst h;exact eq_81
 ·injection h with h;subst h;exact eq_126
 ·injection h with h;subst h;exact eq_168
 ·cases h
def gP:Pg Tryz.prog:=⟨by kernel_rfl,eqTab,eqTab_ok⟩
@[simp] theorem gE_24:gP.E 24=some [.int .i64,.int .i64,.int .i64]:=nr rfl
@[simp] theorem gE_40:gP.E 40=some [.int .i64,.int .i64]:=nr rfl
end Go.Proofs.YtphbhdoljnokkaaGreatDoor
