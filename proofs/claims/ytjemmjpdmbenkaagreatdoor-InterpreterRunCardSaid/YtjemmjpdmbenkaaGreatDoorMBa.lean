import Derived.Test.YtjemmjpdmbenkaaGreatDoorMA
open List renaming map → zA
open Int renaming tdiv → zB,toNat_natCast → zD,tmod → zE
open Go.IntKind renaming i64 → zF,u64 → zG
namespace Go.Proofs.YtjemmjpdmbenkaaGreatDoor
open Go.RowKit
open Nat renaming reduceAdd → nA,reduceSub → nS,reduceMul → nM,reduceEqDiff → nE,reduceLeDiff → nL,reduceLT → nT,reduceBEq → nB
open Int renaming reduceLT → iT,reduceToNat → iN,reduceEq → iE
set_option linter.unusedVariables false
set_option linter.unusedSimpArgs false
set_option maxRecDepth 100000
set_option maxHeartbeats 8000000
def dK(a0:Int)(a1:Int):Option ay:=some (ay.mk a0 a1)
instance l47_word_spec:Sp 31 (∀{a0:Int} {a1:Int},Ct 31 [.d (.int .u8 a0),dI a1] (λy:ay=>.agg [.d (.int .u8 y.Letter),.d (.int .i64 y.Value)]) (dK a0 a1)):=⟨zzF Tryz.func31 (dK.eq_1 ..)⟩
def kO(a0:Bool):Option (List aa):=ah (dK 71 1000) λ(y1:ay)=>ah (dK 88 1000) λ(y2:ay)=>ah (if a0=true then ah (dK 70 10000) λ(y3:ay)=>some [y1,y2,y3]else some [y1,y2]) λ(v1:(List ay))=>jC ([U,U,U,.ptr 0 0]++us 28) ⟨[[dB false,dL aw v1,dS []]],[]⟩ ( ah (dK 71 55000) λ(y4:ay)=>ah (dK 71 43000) λ(y5:ay)=>ah (dK 72 3000) λ(y6:ay)=>ah (dK 84 3000) λ(y7:ay)=>ah (dK 71 0) λ(y8:ay)=>ah (dK 88 0) λ(y9:ay)=>ah (dK 89 0) λ(y10:ay)=>ah (dK 90 0) λ(y11:ay)=>ah (dK 77 30000) λ(y12:ay)=>some [aa.mk false [y4,y5,y6,y7] [],aa.mk false [y8,y9,y10,y11] [],aa.mk false v1 [],aa.mk false [y12] []])
instance k9:Sp 12 (∀{a0:Bool},Ct 12 [dB a0] (λy:(List aa)=>.d (.list (zA ac y))) (kO a0)):=⟨zzF Tryz.func12 (kO.eq_1 ..)⟩
def r47_Table :Option bg:=some (bg.mk (iG.mk (ag.mk 0 0 0) (ag.mk 1000 2000 (-500)) (ag.mk 0 0 0) (ag.mk 0 0 0) (ag.mk 0 0 0) (ag.mk 0 0 0)) [ca.mk 3 75000])
instance m8:Sp 13 (Ct 13 [] (λy:bg=>.agg (w6 y.Work [.d (.list (zA aI y.Lengths))])) (r47_Table)):=⟨zzF Tryz.func13 (r47_Table.eq_1 ..)⟩
def fX(a0:bg):Option aC:=gF [.cell 2 18 74] ( ah (av (be a0.Lengths) ( az (λ(i1:Nat) (e1:ca) (v1:(List bi))=>rF ([U,U,.ptr 1 0,.ptr 2 0]++us 6++[dL aI a0.Lengths,dI (a0.Lengths.length:Int),dI (i1:Int)]++us 15) ⟨[(w6 a0.Work [dL aI a0.Lengths]),[dI 0,dI 0,dI 0,dI 0,dI 0,dI 0,dI 0,dI 0,dI 0,dI 0,dI 0,dI 0,dI 0,dI 0,dI 0,dI 0,dI 0,dI 0,.nil],(w6 a0.Work [.own 0 (zA au v1)])],[(74,v1.length)]⟩ ( av (bo (v1.length+1)) ( some (.go (v1++[bi.mk e1.Number e1.Length]))))) (λ(v1:(List bi))=>some v1) a0.Lengths 0 [])) λ(v2:(List bi))=>jB 0 ([U,U,.ptr 1 0,.ptr 2 0]++us 24) ⟨[(w6 a0.Work [dL aI a0.Lengths]),[dI 0,dI 0,dI 0,dI 0,dI 0,dI 0,dI 0,dI 0,dI 0,dI 0,dI 0,dI 0,dI 0,dI 0,dI 0,dI 0,dI 0,dI 0,.nil],(w6 a0.Work [.own 0 (zA au v2)])],[(74,v2.length)]⟩ ( some (aC.mk a0.Work v2)))
instance lR:Sp 8 (∀{a0:bg},Ct 8 [.agg (w6 a0.Work [.d (.list (zA aI a0.Lengths))])] (λy:aC=>.agg (w6 y.Work [.d (.list (zA au y.Lengths))])) (fX a0)):=⟨zzF Tryz.func8 (fX.eq_1 ..)⟩
def k7(a0:ag):Option Bool:=jV 3 ([U,U,dB ((decide ((mmI true (mmI true a0.X a0.Y) a0.Z)>10000000))||(decide ((mmI false (mmI false a0.X a0.Y) a0.Z)<(-10000000))))]++us 22) ⟨[(cE a0)],[]⟩ ( some ((decide ((mmI true (mmI true a0.X a0.Y) a0.Z)>10000000))||(decide ((mmI false (mmI false a0.X a0.Y) a0.Z)<(-10000000)))))
instance tb_far_spec:Sp 87 (∀{a0:ag},Ct 87 [.agg (cE a0)] (λy:Bool=>.d (.bool y)) (k7 a0)):=⟨zzF Tryz.func87 (k7.eq_1 ..)⟩
def kz(a0:bi):Option Bool:=jV 1 ([U,U,dB ((decide (a0.Number≥1))&&((decide (a0.Number≤999))&&((decide (a0.Length≥0))&&(decide (a0.Length≤10000000)))))]++us 18) ⟨[(cJ a0)],[]⟩ ( some ((decide (a0.Number≥1))&&((decide (a0.Number≤999))&&((decide (a0.Length≥0))&&(decide (a0.Length≤10000000))))))
instance tb_entry_spec:Sp 88 (∀{a0:bi},Ct 88 [.agg (cJ a0)] (λy:Bool=>.d (.bool y)) (kz a0)):=⟨zzF Tryz.func88 (kz.eq_1 ..)⟩
def di(a0:aC):Option Int:=ah (iF 86 (λv1:Bool=>.d (.bool v1)) (λv1:Bool=>⟨[(w6 a0.Work [dL au a0.Lengths])],[]⟩) (ah (iF 129 (λv2:Int=>.d (.int .i64 v2)) (λv2:Int=>⟨[(w6 a0.Work [dL au a0.Lengths])],[]⟩) (bindX (ah (k7 a0.Work.e0) λ(y1:Bool)=>if y1=true then some (.ret 0)else ah (k7 a0.Work.e1) λ(y2:Bool)=>if y2=true then some (.ret 1)else ah (k7 a0.Work.e2) λ(y3:Bool)=>if y3=true then some (.ret 2)else ah (k7 a0.Work.e3) λ(y4:Bool)=>if y4=true then some (.ret 3)else ah (k7 a0.Work.e4) λ(y5:Bool)=>if y5=true then some (.ret 4)else ah (k7 a0.Work.e5) λ(y6:Bool)=>if y6=true then some (.ret 5)else some (.go ())) λ(v3:Unit)=>jB 0 (us 19) ⟨[(w6 a0.Work [dL au a0.Lengths])],[]⟩ ( some (-1)))) λ(v2:Int)=>some (decide (v2≥0)))) λ(v1:Bool)=>if v1=true then some 1 else bindX (av (be a0.Lengths) ( az (λ(i1:Nat) (e1:bi) (v4:Unit)=>rF ([U,.ptr 0 0]++us 7++[dL au a0.Lengths,dI (a0.Lengths.length:Int),dI (i1:Int)]++us 24) ⟨[(w6 a0.Work [dL au a0.Lengths])],[]⟩ ( ah (ah (kz e1) λ(y7:Bool)=>if y7=true then if (decide ((i1:Int)>0))=true then ah (gt a0.Lengths (zF.wrap ((i1:Int)-1))) λ(e2:bi)=>some (decide (e2.Number≥e1.Number))else some false else some true) λ(v5:Bool)=>jR 6 ([U,.ptr 0 0]++us 7++[dL au a0.Lengths,dI (a0.Lengths.length:Int),dI (i1:Int)]++us 22++[dB v5,U]) ⟨[(w6 a0.Work [dL au a0.Lengths]),(cJ e1)],[]⟩ ( if v5=true then some (.ret (.ret 1))else some (.go ())))) (λ(v4:Unit)=>some (.go ())) a0.Lengths 0 ())) λ(v6:Unit)=>jB 0 (us 36) ⟨[(w6 a0.Work [dL au a0.Lengths])],[]⟩ ( some 0)
instance tb_Valid_spec:Sp 42 (∀{a0:aC},Ct 42 [.agg (w6 a0.Work [.d (.list (zA au a0.Lengths))])] (λy:Int=>.d (.int .i64 y)) (di a0)):=⟨zzF Tryz.func42 (di.eq_1 ..)⟩
def ef(a0:Int):Option Bool:=jV 1 ([U,U,dB ((decide (a0<(-10000000)))||(decide (a0>10000000)))]++us 6) ⟨[],[]⟩ ( some ((decide (a0<(-10000000)))||(decide (a0>10000000))))
instance inp_inside_c1_spec:Sp 90 (∀{a0:Int},Ct 90 [dI a0] (λy:Bool=>.d (.bool y)) (ef a0)):=⟨zzF Tryz.func90 (ef.eq_1 ..)⟩
def kk(a0:ag):Option Bool:=ah (iF 89 (λv1:Bool=>.d (.bool v1)) (λv1:Bool=>⟨[(cE a0)],[]⟩) (ah (iF 130 (λv2:Int=>.d (.int .i64 v2)) (λv2:Int=>⟨[(cE a0)],[]⟩) (bindX (ah (ef a0.X) λ(y1:Bool)=>if y1=true then some (.ret 0)else ah (ef a0.Y) λ(y2:Bool)=>if y2=true then some (.ret 1)else ah (ef a0.Z) λ(y3:Bool)=>if y3=true then some (.ret 2)else some (.go ())) λ(v3:Unit)=>jB 0 (us 19) ⟨[(cE a0)],[]⟩ ( some (-1)))) λ(v2:Int)=>some (decide (v2≥0)))) λ(v1:Bool)=>some (!v1)
instance inp_inside_spec:Sp 43 (∀{a0:ag},Ct 43 [.agg (cE a0)] (λy:Bool=>.d (.bool y)) (kk a0)):=⟨zzF Tryz.func43 (kk.eq_1 ..)⟩
def bF(a0:aC)(a1:ag):Option Int:=ah (di a0) λ(y1:Int)=>if (y1 != 0)=true then some 1 else ah (kk a1) λ(y2:Bool)=>if (!y2)=true then some 11 else some 0
instance la:Sp 18 (∀{a0:aC} {a1:ag},Ct 18 [.agg (w6 a0.Work [.d (.list (zA au a0.Lengths))]),.agg (cE a1)] (λy:Int=>.d (.int .i64 y)) (bF a0 a1)):=⟨zzF Tryz.func18 (bF.eq_1 ..)⟩
def md_New :Option aq:=some (aq.mk 0 90000 54000 49000 98000 0 0 0)
instance md_New_spec:Sp 26 (Ct 26 [] (λy:aq=>.agg [.d (.int .i64 y.Motion),.d (.int .i64 y.Distance),.d (.int .i64 y.Work),.d (.int .i64 y.Length),.d (.int .i64 y.Return),.d (.int .i64 y.Feed),.d (.int .i64 y.Tool),.d (.int .i64 y.Offset)]) (md_New)):=⟨zzF Tryz.func26 (md_New.eq_1 ..)⟩
def fk(a0:Int):Option Bool:=jV 1 ([U,U,dB ((decide (a0≥32))&&((decide (a0≤126))&&((a0 != 40)&&(a0 != 41))))]++us 14) ⟨[],[]⟩ ( some ((decide (a0≥32))&&((decide (a0≤126))&&((a0 != 40)&&(a0 != 41)))))
instance bk_printable_spec:Sp 117 (∀{a0:Int},Ct 117 [.d (.int .u8 a0)] (λy:Bool=>.d (.bool y)) (fk a0)):=⟨zzF Tryz.func117 (fk.eq_1 ..)⟩
def iu(a0:aa):Option Int:=jV 1 ([U,.ptr 0 0]++us 14++[dB ((decide ((a0.Words.length:Int)>16))||(decide ((a0.Comment.length:Int)>100)))]++us 38) ⟨[(cC a0)],[]⟩ ( if ((decide ((a0.Words.length:Int)>16))||(decide ((a0.Comment.length:Int)>100)))=true then some 1 else bindX (av (be a0.Words) ( az (λ(i1:Nat) (e1:ay) (v1:Unit)=>rF ([U,.ptr 0 0]++us 16++[dL aw a0.Words,dI (a0.Words.length:Int),dI (i1:Int)]++us 34) ⟨[(cC a0)],[]⟩ ( jV 6 ([U,.ptr 0 0]++us 16++[dL aw a0.Words,dI (a0.Words.length:Int),dI (i1:Int)]++us 20++[dB ((decide (e1.Letter<65))||((decide (e1.Letter>90))||((decide (e1.Value>1000000000000))||(decide (e1.Value<(-1000000000000))))))]++us 13) ⟨[(cC a0),(cK e1)],[]⟩ ( if ((decide (e1.Letter<65))||((decide (e1.Letter>90))||((decide (e1.Value>1000000000000))||(decide (e1.Value<(-1000000000000))))))=true then some (.ret (.ret 1))else some (.go ())))) (λ(v1:Unit)=>some (.go ())) a0.Words 0 ())) λ(v2:Unit)=>jB 0 ([U,.ptr 0 0]++us 53) ⟨[(cC a0)],[]⟩ ( bindX (av (be (nm a0.Comment)) ( az (λ(i2:Nat) (e2:Int) (v3:Unit)=>rF (us 45++[dL (eInt .u8) (nm a0.Comment),dI ((nm a0.Comment).length:Int),dI (i2:Int)]++us 7) ⟨[(cC a0)],[]⟩ ( ah (fk e2) λ(y1:Bool)=>if (!y1)=true then some (.ret (.ret 1))else some (.go ()))) (λ(v3:Unit)=>some (.go ())) (nm a0.Comment) 0 ())) λ(v4:Unit)=>jB 2 (us 55) ⟨[(cC a0)],[]⟩ ( some 0)))
instance bk_Valid_spec:Sp 67 (∀{a0:aa},Ct 67 [.agg (cC a0)] (λy:Int=>.d (.int .i64 y)) (iu a0)):=⟨zzF Tryz.func67 (iu.eq_1 ..)⟩
def my(a0:Int):Option Int:=ah (if (a0==0)=true then some (a0==0)else if (a0==1000)=true then some (a0==1000)else if (a0==2000)=true then some (a0==2000)else if (a0==3000)=true then some (a0==3000)else if (a0==80000)=true then some (a0==80000)else if (a0==81000)=true then some (a0==81000)else if (a0==82000)=true then some (a0==82000)else some (a0==83000)) λ(v1:Bool)=>jC ([U,U,U,dI a0,dB v1]++us 24) ⟨[],[]⟩ ( if v1=true then some 1 else ah (if (a0==90000)=true then some (a0==90000)else some (a0==91000)) λ(v2:Bool)=>jC ([U,U,U,dI a0]++us 9++[dB v2]++us 15) ⟨[],[]⟩ ( if v2=true then some 2 else ah (if (a0==54000)=true then some (a0==54000)else if (a0==55000)=true then some (a0==55000)else if (a0==56000)=true then some (a0==56000)else if (a0==57000)=true then some (a0==57000)else if (a0==58000)=true then some (a0==58000)else some (a0==59000)) λ(v3:Bool)=>jC ([U,U,U,dI a0]++us 12++[dB v3]++us 12) ⟨[],[]⟩ ( if v3=true then some 3 else ah (if (a0==43000)=true then some (a0==43000)else some (a0==49000)) λ(v4:Bool)=>jC ([U,U,U,dI a0]++us 19++[dB v4]++us 5) ⟨[],[]⟩ ( if v4=true then some 4 else ah (if (a0==98000)=true then some (a0==98000)else some (a0==99000)) λ(v5:Bool)=>jC (us 26++[dB v5,U,U]) ⟨[],[]⟩ ( if v5=true then some 5 else some 0)))))
instance md_Group_spec:Sp 118 (∀{a0:Int},Ct 118 [dI a0] (λy:Int=>.d (.int .i64 y)) (my a0)):=⟨zzF Tryz.func118 (my.eq_1 ..)⟩
def kM(a0:aa):Option Int:=bindX (av (be a0.Words) ( az (λ(i1:Nat) (e1:ay) (v1:(List (Int×Bool))×(List (Int×Bool)))=>rF ([U,U,U,.mp 1,.mp 2]++us 6++[dL aw a0.Words,dI (a0.Words.length:Int),dI (i1:Int)]++us 44) ⟨[(cC a0),[.mapc .u8 (zA (ekv evB) v1.1)],[.mapc .i64 (zA (ekv evB) v1.2)]],[]⟩ ( bindX (bindX (if (e1.Letter==71)=true then ah (my e1.Value) λ(y1:Int)=>ah (if (y1==0)=true then some true else some ((mget v1.2 y1).getD false)) λ(v2:Bool)=>jR 9 ([U,U,U,.mp 1,.mp 2,U,U,dI y1,U,U,U,dL aw a0.Words,dI (a0.Words.length:Int),dI (i1:Int)]++us 16++[dB v2]++us 27) ⟨[(cC a0),[.mapc .u8 (zA (ekv evB) v1.1)],[.mapc .i64 (zA (ekv evB) v1.2)],(cK e1)],[]⟩ ( if v2=true then some (.ret (.ret (.ret (.ret 1))))else some (.ret (.go (v1.1,mput v1.2 y1 true))))else if (e1.Letter==70)=true then if (decide (e1.Value<0))=true then some (.ret (.ret (.ret (.ret 1))))else some (.go ())else ah (if (e1.Letter==84)=true then some (e1.Letter==84)else some (e1.Letter==72)) λ(v3:Bool)=>jC ([U,U,U,.mp 1,.mp 2,U,.ptr 3 0,U,U,U,U,dL aw a0.Words,dI (a0.Words.length:Int),dI (i1:Int)]++us 24++[dB v3]++us 19) ⟨[(cC a0),[.mapc .u8 (zA (ekv evB) v1.1)],[.mapc .i64 (zA (ekv evB) v1.2)],(cK e1)],[]⟩ ( if v3=true then jV 17 ([U,U,U,.mp 1,.mp 2,U,.ptr 3 0,U,U,U,U,dL aw a0.Words,dI (a0.Words.length:Int),dI (i1:Int)]++us 35++[dB ((decide (e1.Value<0))||((zE e1.Value 1000) != 0))]++us 8) ⟨[(cC a0),[.mapc .u8 (zA (ekv evB) v1.1)],[.mapc .i64 (zA (ekv evB) v1.2)],(cK e1)],[]⟩ ( if ((decide (e1.Value<0))||((zE e1.Value 1000) != 0))=true then some (.ret (.ret (.ret (.ret 1))))else some (.go ()))else some (.go ()))) λ(v4:Unit)=>jB 2 ([U,U,U,.mp 1,.mp 2,U,.ptr 3 0,U,U,U,U,dL aw a0.Words,dI (a0.Words.length:Int),dI (i1:Int)]++us 44) ⟨[(cC a0),[.mapc .u8 (zA (ekv evB) v1.1)],[.mapc .i64 (zA (ekv evB) v1.2)],(cK e1)],[]⟩ ( if ((mget v1.1 e1.Letter).getD false)=true then some (.ret (.ret (.ret 1)))else some (.go (mput v1.1 e1.Letter true,v1.2)))) λ(v5:(List (Int×Bool))×(List (Int×Bool)))=>jB 1 ([U,U,U,.mp 1,.mp 2]++us 6++[dL aw a0.Words,dI (a0.Words.length:Int),dI (i1:Int)]++us 44) ⟨[(cC a0),[.mapc .u8 (zA (ekv evB) v5.1)],[.mapc .i64 (zA (ekv evB) v5.2)]],[]⟩ ( some (.go (v5.1,v5.2))))) (λ(v1:(List (Int×Bool))×(List (Int×Bool)))=>some (.go (v1.1,v1.2))) a0.Words 0 ([],[]))) λ(v6:(List (Int×Bool))×(List (Int×Bool)))=>jB 0 (us 58) ⟨[(cC a0),[.mapc .u8 (zA (ekv evB) v6.1)],[.mapc .i64 (zA (ekv evB) v6.2)]],[]⟩ ( some 0)
theorem md_Check_spec{a0:aa}{y:Int}(h:kM a0=some y):Spec gP 68 [.agg (cC a0)] (.d (.int .i64 y)):=by
 refine auA Tryz.func68 (λy:Int=>.d (.int .i64 y)) ?_ h
 unfold kM
 refine .sA ?_
 refine .seqK (.regionW λe h=>regW.alt 0 rfl ?_)
 simp only[seval,EMA]
 refine d6 .u8 (regW.of ?_)
 simp only[seval,EMA,xMN]
 refine mU e (.seqK (.regionW λe h=>regW.alt 0 rfl ?_)) h
 simp only[seval,EMA]
 refine d6 .i64 (regW.of ?_)
 simp only[seval,EMA,xMN]
 refine mU e (.seqK (.sA ?_)) h
 refine Mir.jXB (λ_=>rfl) ?_ ?_
 refine .block (.guard λq1=>Mir.rF q1 (λ_ _=>rfl) (by simp only[seval,FMA,zNI]) (by simp only[seval,FMA,zNI]) ?_ ?_)
 intro i1 e1 v1 q2
 refine .sR λe h=>?_
 simp only[seval,EMA,q2]
 refine mU e (.seqK (.condT rfl (.skip (Mir.toK (.seqK (Mir.jXB (λ_=>rfl) ?_ ?_)))))) h
 refine .block (.sR λe h=>?_)
 simp only[seval,EMA,q2,zD]
 refine mU e (.seqK (.sA ?_)) h
 refine Mir.jXB (λ_=>rfl) ?_ ?_
 refine .block (.sA ?_)
 refine .cond rfl (λh1=>?_) (λh1=>?_)
 refine .seqK (.bind λy1 h2=>.region λe h=>WA ?_)
 refine .byA (md_Group_spec.1 _ h2) (mA ?_ h)
 refine .seqK (.seqK (Mir.jOR (λ_=>rfl) ?_ ?_))
 refine .ite (λh3=>?_) (λh3=>?_)
 exact zzA
 refine .regionW λe h=>regW.alt 5 rfl ?_
 simp only[seval,EMA,h3]
 refine bv rfl rfl rfl (by simp only[mapT,und_198,und_3]) zero_4 rfl (regW.of ?_)
 simp only[seval,EMA,mg_B,h3]
 exact zzA
 intro v2
 refine Mir.toK (.cond rfl (λh4=>?_) (λh4=>?_))
 exact zzA
 refine .skip (Mir.toK (.seqK (.regionW λe h=>regW.alt 2 rfl ?_)))
 simp only[seval,EMA]
 refine cd (et:=4) rfl rfl rfl rfl (by simp only[mapT,und_198,und_3]) (regW.of ?_)
 simp only[seval,EMA,mp_B]
 exact zzA
 exact zzA
 intro v4
 refine Mir.toK (.seqK (.seqK (.regionW λe h=>regW.alt 3 rfl ?_)))
 simp only[seval,EMA]
 refine bv rfl rfl rfl (by simp only[mapT,und_197,nq]) zero_4 rfl (regW.of ?_)
 simp only[seval,EMA,mg_B]
 refine mU e (.cond rfl (λh11=>?_) (λh11=>?_)) h
 exact zzA
 refine .skip (Mir.toK (.regionW λe h=>regW.alt 3 rfl ?_))
 simp only[seval,EMA]
 refine cd (et:=4) rfl rfl rfl rfl (by simp only[mapT,und_197,nq]) (regW.of ?_)
 simp only[seval,EMA,mp_B]
 exact zzA
 exact zzA
 exact zzA
 exact zzA
instance:Sp 68 (type_of% @md_Check_spec):=⟨@md_Check_spec⟩
def bq(a0:(List Int))(a1:Int):Option Int:=bindX (av (be a0) ( az (λ(i1:Nat) (e1:Int) (v1:Unit)=>rF ([dL (eInt .i64) a0,dI a1,U,U,U,U,U,dI (a0.length:Int),dI (i1:Int)]++us 10) ⟨[],[]⟩ ( if (a1==e1)=true then some (.ret (.ret (i1:Int)))else some (.go ()))) (λ(v1:Unit)=>some (.go ())) a0 0 ())) λ(v2:Unit)=>jB 0 (us 19) ⟨[],[]⟩ ( some (-1))
instance slices_Index_int64_int64_spec:Sp 76 (∀{a0:(List Int)} {a1:Int},Ct 76 [.d (.list (zA (eInt .i64) a0)),dI a1] (λy:Int=>.d (.int .i64 y)) (bq a0 a1)):=⟨zzF Tryz.func76 (bq.eq_1 ..)⟩
def aU(a0:(List Int))(a1:Int):Option Bool:=ah (bq a0 a1) λ(y1:Int)=>some (decide (y1≥0))
instance slices_Contains_int64_int64_spec:Sp 29 (∀{a0:(List Int)} {a1:Int},Ct 29 [.d (.list (zA (eInt .i64) a0)),dI a1] (λy:Bool=>.d (.bool y)) (aU a0 a1)):=⟨zzF Tryz.func29 (aU.eq_1 ..)⟩
def gL(a0:aa):Option Bool:=bindX (av (be a0.Words) ( az (λ(i1:Nat) (e1:ay) (v1:Unit)=>rF (us 6++[dL aw a0.Words,dI (a0.Words.length:Int),dI (i1:Int)]++us 31) ⟨[(cC a0)],[]⟩ ( bindX (ah (if (e1.Letter==71)=true then some (e1.Letter==71)else if (e1.Letter==84)=true then some (e1.Letter==84)else if (e1.Letter==70)=true then some (e1.Letter==70)else if (e1.Letter==72)=true then some (e1.Letter==72)else if (e1.Letter==78)=true then some (e1.Letter==78)else if (e1.Letter==88)=true then some (e1.Letter==88)else if (e1.Letter==89)=true then some (e1.Letter==89)else if (e1.Letter==90)=true then some (e1.Letter==90)else if (e1.Letter==73)=true then some (e1.Letter==73)else if (e1.Letter==74)=true then some (e1.Letter==74)else if (e1.Letter==81)=true then some (e1.Letter==81)else some (e1.Letter==82)) λ(v2:Bool)=>jC ([U,U,U,U,.ptr 1 0,U,dL aw a0.Words,dI (a0.Words.length:Int),dI (i1:Int),U,U,U,U,.d (.int .u8 e1.Letter),dB v2]++us 25) ⟨[(cC a0),(cK e1)],[]⟩ ( if v2=true then some (.go ())else if (e1.Letter==77)=true then ah (aU [0,1000,3000,4000,5000,6000,8000,9000,30000] e1.Value) λ(y1:Bool)=>if (!y1)=true then some (.ret (.ret (.ret false)))else some (.go ())else if (e1.Letter==83)=true then if (decide (e1.Value<0))=true then some (.ret (.ret (.ret false)))else some (.go ())else some (.ret (.ret (.ret false))))) λ(v3:Unit)=>jB 1 (us 6++[dL aw a0.Words,dI (a0.Words.length:Int),dI (i1:Int)]++us 31) ⟨[(cC a0)],[]⟩ ( some (.go ())))) (λ(v1:Unit)=>some (.go ())) a0.Words 0 ())) λ(v4:Unit)=>jB 0 (us 40) ⟨[(cC a0)],[]⟩ ( some true)
instance inp_known_spec:Sp 69 (∀{a0:aa},Ct 69 [.agg (cC a0)] (λy:Bool=>.d (.bool y)) (gL a0)):=⟨zzF Tryz.func69 (gL.eq_1 ..)⟩
def md_put(a0:aq)(a1:ay):Option aq:=ah (if (a1.Letter==71)=true then ah (ah (my a1.Value) λ(y1:Int)=>av (decide (0≤(zF.wrap (y1-1))∧(zF.wrap (y1-1))<5)) ( if ((zF.wrap (y1-1))==0)=true then some (aq.mk a1.Value a0.Distance a0.Work a0.Length a0.Return a0.Feed a0.Tool a0.Offset)else if ((zF.wrap (y1-1))==1)=true then some (aq.mk a0.Motion a1.Value a0.Work a0.Length a0.Return a0.Feed a0.Tool a0.Offset)else if ((zF.wrap (y1-1))==2)=true then some (aq.mk a0.Motion a0.Distance a1.Value a0.Length a0.Return a0.Feed a0.Tool a0.Offset)else if ((zF.wrap (y1-1))==3)=true then some (aq.mk a0.Motion a0.Distance a0.Work a1.Value a0.Return a0.Feed a0.Tool a0.Offset)else some (aq.mk a0.Motion a0.Distance a0.Work a0.Length a1.Value a0.Feed a0.Tool a0.Offset))) λ(v1:aq)=>jR 4 ([U,U,.ptr 0 0,U,.ptr 2 0]++us 37) ⟨[(cA v1),(cK a1),cX,[.ptr 0 0,.ptr 0 1,.ptr 0 2,.ptr 0 3,.ptr 0 4]],[]⟩ ( some v1)else if (a1.Letter==70)=true then some (aq.mk a0.Motion a0.Distance a0.Work a0.Length a0.Return a1.Value a0.Tool a0.Offset)else if (a1.Letter==84)=true then some (aq.mk a0.Motion a0.Distance a0.Work a0.Length a0.Return a0.Feed a1.Value a0.Offset)else if (a1.Letter==72)=true then some (aq.mk a0.Motion a0.Distance a0.Work a0.Length a0.Return a0.Feed a0.Tool a1.Value)else some a0) λ(v2:aq)=>jB 0 ([U,U,.ptr 0 0,U,.ptr 2 0]++us 37) ⟨[(cA v2),(cK a1),cX],[]⟩ ( some v2)
theorem md_put_spec{a0:aq}{a1:ay}{y:aq}(h:md_put a0 a1=some y):Spec gP 119 [.agg (cA a0),.agg (cK a1)] (.agg [.d (.int .i64 y.Motion),.d (.int .i64 y.Distance),.d (.int .i64 y.Work),.d (.int .i64 y.Length),.d (.int .i64 y.Return),.d (.int .i64 y.Feed),.d (.int .i64 y.Tool),.d (.int .i64 y.Offset)]):=by
 refine auA Tryz.func119 (λy:aq=>.agg [.d (.int .i64 y.Motion),.d (.int .i64 y.Distance),.d (.int .i64 y.Work),.d (.int .i64 y.Length),.d (.int .i64 y.Return),.d (.int .i64 y.Feed),.d (.int .i64 y.Tool),.d (.int .i64 y.Offset)]) ?_ h
 unfold md_put
 refine .sA ?_
 refine .seqK (.sA ?_)
 refine Mir.jOB (λ_=>rfl) ?_ ?_
 refine .block (.sA ?_)
 refine .cond rfl (λhb12=>?_) (λhb12=>?_)
 refine .sR λe h=>?_
 simp only[seval,EMA,(oL 5)]
 refine mU e (Mir.jOR (λ_=>rfl) ?_ ?_) h
 refine .bind λy1 hy13=>.guard λqi14=>.ite (λhb15=>?_) (λhb15=>?_)
 exact zzA
 refine .ite (λhb16=>?_) (λhb16=>?_)
 exact zzA
 refine .ite (λhb17=>?_) (λhb17=>?_)
 exact zzA
 refine .ite (λhb18=>?_) (λhb18=>?_)
 exact zzA
 have hz19:zF.wrap (y1-1)=4:=by have h0:=oj qi14;have h1:=bk hb15;have h2:=bk hb16;have h3:=bk hb17;have h4:=bk hb18;omega
 exact zzA
 exact zzA
 exact zzA
 exact zzA
instance:Sp 119 (type_of% @md_put_spec):=⟨@md_put_spec⟩
def md_Apply(a0:aq)(a1:aa):Option (aq×Int):=ah (kM a1) λ(y1:Int)=>if (y1 != 0)=true then some (aq.mk 0 0 0 0 0 0 0 0,y1)else ah (av (be a1.Words) ( az (λ(i1:Nat) (e1:ay) (v1:aq)=>rF ([U,U,.ptr 0 0,U,.ptr 2 0]++us 11++[dL aw a1.Words,dI (a1.Words.length:Int),dI (i1:Int)]++us 8) ⟨[(cA v1),(cC a1),cX],[]⟩ ( ah (md_put v1 e1) λ(y2:aq)=>some (.go y2))) (λ(v1:aq)=>some v1) a1.Words 0 a0)) λ(v2:aq)=>jB 0 ([U,U,.ptr 0 0,U,.ptr 2 0]++us 22) ⟨[(cA v2),(cC a1),cX],[]⟩ ( some (v2,0))
instance md_Apply_spec:Sp 70 (∀{a0:aq} {a1:aa},Ct 70 [.agg (cA a0),.agg (cC a1)] (λy:aq×Int=>.tuple [.agg [.d (.int .i64 y.1.Motion),.d (.int .i64 y.1.Distance),.d (.int .i64 y.1.Work),.d (.int .i64 y.1.Length),.d (.int .i64 y.1.Return),.d (.int .i64 y.1.Feed),.d (.int .i64 y.1.Tool),.d (.int .i64 y.1.Offset)],.d (.int .i64 y.2)]) (md_Apply a0 a1)):=⟨zzF Tryz.func70 (md_Apply.eq_1 ..)⟩
def dD(a0:Int):Option Bool:=jV 1 ([U,U,dB ((a0==81000)||((a0==82000)||(a0==83000)))]++us 10) ⟨[],[]⟩ ( some ((a0==81000)||((a0==82000)||(a0==83000))))
instance inp_cycles_spec:Sp 71 (∀{a0:Int},Ct 71 [dI a0] (λy:Bool=>.d (.bool y)) (dD a0)):=⟨zzF Tryz.func71 (dD.eq_1 ..)⟩
def ji(a0:aa)(a1:Int):Option (Int×Bool):=bindX (av (be a0.Words) ( az (λ(i1:Nat) (e1:ay) (v1:Unit)=>rF ([U,.d (.int .u8 a1)]++us 7++[dL aw a0.Words,dI (a0.Words.length:Int),dI (i1:Int)]++us 10) ⟨[(cC a0)],[]⟩ ( if (e1.Letter==a1)=true then some (.ret (.ret (e1.Value,true)))else some (.go ()))) (λ(v1:Unit)=>some (.go ())) a0.Words 0 ())) λ(v2:Unit)=>jB 0 (us 22) ⟨[(cC a0)],[]⟩ ( some (0,false))
instance bk_Find_spec:Sp 120 (∀{a0:aa} {a1:Int},Ct 120 [.agg (cC a0),.d (.int .u8 a1)] (λy:Int×Bool=>.tuple [.d (.int .i64 y.1),.d (.bool y.2)]) (ji a0 a1)):=⟨zzF Tryz.func120 (ji.eq_1 ..)⟩
def gX(a0:aa)(a1:(List UInt8)):Option Bool:=bindX (av (be a1) ( az (λ(i1:Nat) (c1:UInt8) (v1:Unit)=>rF ([U,dS a1,.ptr 0 0]++us 6++[dI (a1.length:Int),dI (i1:Int)]++us 12) ⟨[(cC a0)],[]⟩ ( ah (ji a0 (c1.toNat:Int)) λ(y1:Int×Bool)=>if y1.2=true then some (.ret (.ret true))else some (.go ()))) (λ(v1:Unit)=>some (.go ())) a1 0 ())) λ(v2:Unit)=>jB 0 (us 23) ⟨[(cC a0)],[]⟩ ( some false)
instance inp_has_spec:Sp 72 (∀{a0:aa} {a1:(List UInt8)},Ct 72 [.agg (cC a0),dS a1] (λy:Bool=>.d (.bool y)) (gX a0 a1)):=⟨zzF Tryz.func72 (gX.eq_1 ..)⟩
def tb_slot(a0:Int):Option (Int×Int):=jV 1 ([dI a0]++us 13++[dB (((zE a0 1000) != 0)||((decide (a0<54000))||(decide (a0>59000)))),U,U,U]) ⟨[],[]⟩ ( if (((zE a0 1000) != 0)||((decide (a0<54000))||(decide (a0>59000))))=true then some (0,4)else some (zF.wrap ((zF.wrap (zB a0 1000))-54),0))
instance tb_slot_spec:Sp 151 (∀{a0:Int},Ct 151 [dI a0] (λy:Int×Int=>.tuple [.d (.int .i64 y.1),.d (.int .i64 y.2)]) (tb_slot a0)):=⟨zzF Tryz.func151 (tb_slot.eq_1 ..)⟩
def dZ(a0:Int):Option Bool:=some (a0 != a0)
instance cmp_isNaN_int64_spec:Sp 211 (∀{a0:Int},Ct 211 [dI a0] (λy:Bool=>.d (.bool y)) (dZ a0)):=⟨zzF Tryz.func211 (dZ.eq_1 ..)⟩
def df(a0:Int)(a1:Int):Option Int:=ah (dZ a0) λ(y1:Bool)=>ah (dZ a1) λ(y2:Bool)=>if y1=true then if y2=true then some 0 else some (-1)else if y2=true then some 1 else if (decide (a0<a1))=true then some (-1)else if (decide (a0>a1))=true then some 1 else some 0
instance cmp_Compare_int64_spec:Sp 203 (∀{a0:Int} {a1:Int},Ct 203 [dI a0,dI a1] (λy:Int=>.d (.int .i64 y)) (df a0 a1)):=⟨zzF Tryz.func203 (df.eq_1 ..)⟩
def eV(a0:bi)(a1:Int):Option Int:=ah (df a0.Number a1) λ(y1:Int)=>some y1
instance tb_find_c1_spec:Sp 202 (∀{a0:bi} {a1:Int},Ct 202 [.agg (cJ a0),dI a1] (λy:Int=>.d (.int .i64 y)) (eV a0 a1)):=⟨zzF Tryz.func202 (eV.eq_1 ..)⟩
def nu(a0:aC)(a1:Int):Option (Int×Bool):=ah (iF 201 (λv1:Int×Bool=>.tuple [dI v1.1,dB v1.2]) (λv1:Int×Bool=>⟨[(w6 a0.Work [dL au a0.Lengths])],[]⟩) (ah (bt (λ(v2:Int×Int)=>lF ([dL au a0.Lengths,dI a1,.fn 202 [],U,U,U,U,U,dI (a0.Lengths.length:Int),dI v2.1,dI v2.2]++us 38) ⟨[(w6 a0.Work [dL au a0.Lengths])],[]⟩ ( if (decide (v2.1<v2.2))=true then ah (gt a0.Lengths (zF.wrap (shrI .u64 (zG.wrap (zF.wrap (v2.1+v2.2))) 1))) λ(e1:bi)=>ah (eV e1 a1) λ(y1:Int)=>if (decide (y1<0))=true then some (.go (zF.wrap ((zF.wrap (shrI .u64 (zG.wrap (zF.wrap (v2.1+v2.2))) 1))+1),v2.2))else some (.go (v2.1,zF.wrap (shrI .u64 (zG.wrap (zF.wrap (v2.1+v2.2))) 1)))else some (.ret v2.1))) fuel (0,(a0.Lengths.length:Int))) λ(v3:Int)=>jB 0 ([dL au a0.Lengths,dI a1,.fn 202 [],U,U,U,U,U,dI (a0.Lengths.length:Int),dI v3]++us 39) ⟨[(w6 a0.Work [dL au a0.Lengths])],[]⟩ ( ah (if (decide (v3<(a0.Lengths.length:Int)))=true then ah (gt a0.Lengths v3) λ(e2:bi)=>ah (eV e2 a1) λ(y2:Int)=>some (y2==0)else some false) λ(v4:Bool)=>jR 8 (us 6++[dI v3,dB v4]++us 41) ⟨[(w6 a0.Work [dL au a0.Lengths])],[]⟩ ( some (v3,v4))))) λ(v1:Int×Bool)=>some (v1.1,v1.2)
instance tb_find_spec:Sp 179 (∀{a0:aC} {a1:Int},Ct 179 [.agg (w6 a0.Work [.d (.list (zA au a0.Lengths))]),dI a1] (λy:Int×Bool=>.tuple [.d (.int .i64 y.1),.d (.bool y.2)]) (nu a0 a1)):=⟨zzF Tryz.func179 (nu.eq_1 ..)⟩
def gu(a0:aC)(a1:Int):Option (Int×Int):=if (a1==0)=true then some (0,0)else ah (nu a0 a1) λ(y1:Int×Bool)=>if (!y1.2)=true then some (0,4)else ah (gt a0.Lengths y1.1) λ(e1:bi)=>some (e1.Length,0)
instance tb_length_spec:Sp 152 (∀{a0:aC} {a1:Int},Ct 152 [.agg (w6 a0.Work [.d (.list (zA au a0.Lengths))]),dI a1] (λy:Int×Int=>.tuple [.d (.int .i64 y.1),.d (.int .i64 y.2)]) (gu a0 a1)):=⟨zzF Tryz.func152 (gu.eq_1 ..)⟩
def gq(a0:aC)(a1:Int)(a2:Int):Option (ag×Int):=ah (di a0) λ(y1:Int)=>if (y1 != 0)=true then some (ag.mk 0 0 0,y1)else ah (tb_slot a1) λ(y2:Int×Int)=>ah (gu a0 a2) λ(y3:Int×Int)=>jV 6 ([U,U,U,.ptr 0 0,U,U,.ptr 1 0,U,U,dI y2.1,U,dI y3.1]++us 24++[dB ((y2.2 != 0)||(y3.2 != 0))]++us 11) ⟨[(w6 a0.Work [dL au a0.Lengths]),dA],[]⟩ ( if ((y2.2 != 0)||(y3.2 != 0))=true then some (ag.mk 0 0 0,4)else ah (av (decide (0≤y2.1∧y2.1<6)) ( if (y2.1==0)=true then some a0.Work.e0 else if (y2.1==1)=true then some a0.Work.e1 else if (y2.1==2)=true then some a0.Work.e2 else if (y2.1==3)=true then some a0.Work.e3 else if (y2.1==4)=true then some a0.Work.e4 else some a0.Work.e5)) λ(v1:ag)=>jR 8 (us 6++[.ptr 1 0,U,U,U,U,dI y3.1,U,.ptr 2 0]++us 34) ⟨[(w6 a0.Work [dL au a0.Lengths]),dA,(cE v1)],[]⟩ ( some (ag.mk v1.X v1.Y (zF.wrap (v1.Z+y3.1)),0)))
theorem mV{a0:aC}{a1:Int}{a2:Int}{y:ag×Int}(h:gq a0 a1 a2=some y):Spec gP 121 [.agg (w6 a0.Work [.d (.list (zA au a0.Lengths))]),dI a1,dI a2] (.tuple [.agg [.d (.int .i64 y.1.X),.d (.int .i64 y.1.Y),.d (.int .i64 y.1.Z)],.d (.int .i64 y.2)]):=by
 refine auA Tryz.func121 (λy:ag×Int=>.tuple [.agg [.d (.int .i64 y.1.X),.d (.int .i64 y.1.Y),.d (.int .i64 y.1.Z)],.d (.int .i64 y.2)]) ?_ h
 unfold gq
 refine .sA ?_
 refine .seqK (.seqK (.bind λy1 hy1=>.region λe h=>WA ?_))
 refine .byA (tb_Valid_spec.1 _ hy1) (mA ?_ h)
 refine .sA ?_
 refine .cond rfl (λhb3=>?_) (λhb3=>?_)
 exact zzA
 refine .skip (Mir.toK (.seqK (.bind λy2 hy4=>.region λe h=>WA ?_)))
 refine .byA (tb_slot_spec.1 _ hy4) (mA ?_ h)
 refine .seqK (.bind λy3 hy5=>.region λe h=>WA ?_)
 refine .byA (tb_length_spec.1 _ hy5) (mA ?_ h)
 refine .seqK (.seqK (Mir.jV rfl ?_ ?_))
 exact zzA
 refine Mir.toK (.cond rfl (λhb8=>?_) (λhb8=>?_))
 exact zzA
 refine .skip (Mir.toK (.seqK (Mir.jOR (λ_=>rfl) ?_ ?_)))
 refine .guard λqi9=>.ite (λhb10=>?_) (λhb10=>?_)
 exact zzA
 refine .ite (λhb11=>?_) (λhb11=>?_)
 exact zzA
 refine .ite (λhb12=>?_) (λhb12=>?_)
 exact zzA
 refine .ite (λhb13=>?_) (λhb13=>?_)
 exact zzA
 refine .ite (λhb14=>?_) (λhb14=>?_)
 exact zzA
 have hz15:y2.1=5:=by have h0:=oj qi9;have h1:=bk hb10;have h2:=bk hb11;have h3:=bk hb12;have h4:=bk hb13;have h5:=bk hb14;omega
 exact zzA
 exact zzA
instance:Sp 121 (type_of% @mV):=⟨@mV⟩
def jm(a0:ag)(a1:ag)(a2:Int):Option (ag×Int):=ah (k7 a0) λ(y1:Bool)=>if y1=true then some (ag.mk 0 0 0,11)else ah (k7 (ag.mk (zF.wrap (a0.X+(zF.wrap (a2*a1.X)))) (zF.wrap (a0.Y+(zF.wrap (a2*a1.Y)))) (zF.wrap (a0.Z+(zF.wrap (a2*a1.Z)))))) λ(y2:Bool)=>if y2=true then some (ag.mk 0 0 0,11)else some (ag.mk (zF.wrap (a0.X+(zF.wrap (a2*a1.X)))) (zF.wrap (a0.Y+(zF.wrap (a2*a1.Y)))) (zF.wrap (a0.Z+(zF.wrap (a2*a1.Z)))),0)
instance tb_moved_spec:Sp 122 (∀{a0:ag} {a1:ag} {a2:Int},Ct 122 [.agg (cE a0),.agg (cE a1),dI a2] (λy:ag×Int=>.tuple [.agg [.d (.int .i64 y.1.X),.d (.int .i64 y.1.Y),.d (.int .i64 y.1.Z)],.d (.int .i64 y.2)]) (jm a0 a1 a2)):=⟨zzF Tryz.func122 (jm.eq_1 ..)⟩
def nv(a0:aC)(a1:Int)(a2:Int)(a3:ag):Option (ag×Int):=ah (gq a0 a1 a2) λ(y1:ag×Int)=>if (y1.2 != 0)=true then some (ag.mk 0 0 0,y1.2)else ah (jm a3 y1.1 (-1)) λ(y2:ag×Int)=>some (y2.1,y2.2)
instance tb_Work_spec:Sp 73 (∀{a0:aC} {a1:Int} {a2:Int} {a3:ag},Ct 73 [.agg (w6 a0.Work [.d (.list (zA au a0.Lengths))]),dI a1,dI a2,.agg (cE a3)] (λy:ag×Int=>.tuple [.agg [.d (.int .i64 y.1.X),.d (.int .i64 y.1.Y),.d (.int .i64 y.1.Z)],.d (.int .i64 y.2)]) (nv a0 a1 a2 a3)):=⟨zzF Tryz.func73 (nv.eq_1 ..)⟩
def fY(a0:aq)(a1:aa)(a2:ag):Option ag:=ah (ah (ah (ji a1 88) λ(y1:Int×Bool)=>if (!y1.2)=true then some a2.X else if (a0.Distance==90000)=true then some y1.1 else some (zF.wrap (a2.X+y1.1))) λ(v1:Int)=>jB 1 ([U,U,U,.ptr 0 0,.ptr 1 0,.ptr 2 0,.ptr 3 0]++us 10++[.sl 4 0 3 3,dI 3,dI 0]++us 30) ⟨[(cA a0),(cC a1),[dI v1,dI a2.Y,dI a2.Z],dA,[.d (.int .u8 88),.ptr 2 0,.d (.int .u8 89),.ptr 2 1,.d (.int .u8 90),.ptr 2 2]],[]⟩ ( ah (ah (ji a1 89) λ(y2:Int×Bool)=>if (!y2.2)=true then some a2.Y else if (a0.Distance==90000)=true then some y2.1 else some (zF.wrap (a2.Y+y2.1))) λ(v2:Int)=>jB 1 ([U,U,U,.ptr 0 0,.ptr 1 0,.ptr 2 0,.ptr 3 0]++us 10++[.sl 4 0 3 3,dI 3,dI 1]++us 30) ⟨[(cA a0),(cC a1),[dI v1,dI v2,dI a2.Z],dA,[.d (.int .u8 88),.ptr 2 0,.d (.int .u8 89),.ptr 2 1,.d (.int .u8 90),.ptr 2 2]],[]⟩ ( ah (ah (ji a1 90) λ(y3:Int×Bool)=>if (!y3.2)=true then some a2.Z else if (a0.Distance==90000)=true then some y3.1 else some (zF.wrap (a2.Z+y3.1))) λ(v3:Int)=>jB 1 ([U,U,U,.ptr 0 0,.ptr 1 0,.ptr 2 0,.ptr 3 0]++us 10++[.sl 4 0 3 3,dI 3,dI 2]++us 30) ⟨[(cA a0),(cC a1),[dI v1,dI v2,dI v3],dA,[.d (.int .u8 88),.ptr 2 0,.d (.int .u8 89),.ptr 2 1,.d (.int .u8 90),.ptr 2 2]],[]⟩ ( some (ag.mk v1 v2 v3))))) λ(v4:ag)=>jB 0 ([U,U,U,U,U,.ptr 2 0,.ptr 3 0]++us 43) ⟨[(cA a0),(cC a1),(cE v4),dA,[.d (.int .u8 88),.ptr 2 0,.d (.int .u8 89),.ptr 2 1,.d (.int .u8 90),.ptr 2 2]],[]⟩ ( some v4)
instance inp_target_spec:Sp 123 (∀{a0:aq} {a1:aa} {a2:ag},Ct 123 [.agg (cA a0),.agg (cC a1),.agg (cE a2)] (λy:ag=>.agg [.d (.int .i64 y.X),.d (.int .i64 y.Y),.d (.int .i64 y.Z)]) (fY a0 a1 a2)):=⟨zzF Tryz.func123 (fY.eq_1 ..)⟩
def dG(a0:Int)(a1:Int)(a2:aa):Option Int:=ah (ji a2 a0) λ(y1:Int×Bool)=>if y1.2=true then some y1.1 else some a1
instance cy_Read_c1_spec:Sp 180 (∀{a0:Int} {a1:Int} {a2:aa},Ct 180 [.d (.int .u8 a0),dI a1,.iptr [.bool a2.Skip,.list (zA aw a2.Words),.str a2.Comment] 0] (λy:Int=>.d (.int .i64 y)) (dG a0 a1 a2)):=⟨zzF Tryz.func180 (dG.eq_1 ..)⟩
def jf(a0:Int):Option Bool:=jV 1 ([U,U,dB ((decide (a0>10000000))||(decide (a0<(-10000000))))]++us 6) ⟨[],[]⟩ ( some ((decide (a0>10000000))||(decide (a0<(-10000000)))))
instance cy_far_spec:Sp 183 (∀{a0:Int},Ct 183 [dI a0] (λy:Bool=>.d (.bool y)) (jf a0)):=⟨zzF Tryz.func183 (jf.eq_1 ..)⟩
def jD(a0:ao):Option Int:=jV 2 ([U,.ptr 0 0,U,dB (a0.Code==83000)]++us 46++[dB (if (a0.Code==83000)=true then (decide (a0.Z≥a0.R))||((decide (a0.R>a0.Initial))||((decide (a0.Rate<1))||((decide (a0.Rate>1000000000000))||(decide (a0.Q≤0)))))else if (a0.Code != 81000)=true then (a0.Code != 82000)||((decide (a0.Z≥a0.R))||((decide (a0.R>a0.Initial))||((decide (a0.Rate<1))||(decide (a0.Rate>1000000000000)))))else (decide (a0.Z≥a0.R))||((decide (a0.R>a0.Initial))||((decide (a0.Rate<1))||(decide (a0.Rate>1000000000000)))))]++us 34) ⟨[(cB a0)],[]⟩ ( if (if (a0.Code==83000)=true then (decide (a0.Z≥a0.R))||((decide (a0.R>a0.Initial))||((decide (a0.Rate<1))||((decide (a0.Rate>1000000000000))||(decide (a0.Q≤0)))))else if (a0.Code != 81000)=true then (a0.Code != 82000)||((decide (a0.Z≥a0.R))||((decide (a0.R>a0.Initial))||((decide (a0.Rate<1))||(decide (a0.Rate>1000000000000)))))else (decide (a0.Z≥a0.R))||((decide (a0.R>a0.Initial))||((decide (a0.Rate<1))||(decide (a0.Rate>1000000000000)))))=true then some 1 else ah (ah (jf a0.R) λ(y1:Bool)=>if y1=true then some true else ah (jf a0.Z) λ(y2:Bool)=>if y2=true then some true else ah (jf a0.Initial) λ(y3:Bool)=>if y3=true then some true else if (a0.Code==83000)=true then ah (jf a0.Q) λ(y4:Bool)=>some y4 else some false) λ(v1:Bool)=>jR 4 ([U,.ptr 0 0,U,dB (a0.Code==83000)]++us 67++[dB v1]++us 13) ⟨[(cB a0)],[]⟩ ( if v1=true then some 11 else ah (if (a0.Code==83000)=true then av (!(a0.Q==0)) ( some (decide ((zF.wrap (zB (zF.wrap ((zF.wrap (a0.R-a0.Z))-1)) a0.Q))>999)))else some false) λ(v2:Bool)=>jR 6 (us 84++[dB v2]) ⟨[(cB a0)],[]⟩ ( if v2=true then some 3 else some 0)))
instance cy_Valid_spec:Sp 181 (∀{a0:ao},Ct 181 [.agg (cB a0)] (λy:Int=>.d (.int .i64 y)) (jD a0)):=⟨zzF Tryz.func181 (jD.eq_1 ..)⟩
def n5(a0:aa)(a1:Int)(a2:Int)(a3:Int)(a4:Bool)(a5:ao):Option (ao×Int):=ah (dG 82 a5.R a0) λ(y1:Int)=>ah (dG 90 a5.Z a0) λ(y2:Int)=>ah (dG 81 a5.Q a0) λ(y3:Int)=>ah (dG 70 a2 a0) λ(y4:Int)=>ah (jD (ao.mk a1 y1 y2 y3 y4 a3 a4)) λ(y5:Int)=>if (y5 != 0)=true then some (ao.mk 0 0 0 0 0 0 false,y5)else some (ao.mk a1 y1 y2 y3 y4 a3 a4,0)
theorem cy_Read_spec{a0:aa}{a1:Int}{a2:Int}{a3:Int}{a4:Bool}{a5:ao}{y:ao×Int}(h:n5 a0 a1 a2 a3 a4 a5=some y):Spec gP 153 [.agg (cC a0),dI a1,dI a2,dI a3,dB a4,.agg (cB a5)] (.tuple [.agg [.d (.int .i64 y.1.Code),.d (.int .i64 y.1.R),.d (.int .i64 y.1.Z),.d (.int .i64 y.1.Q),.d (.int .i64 y.1.Rate),.d (.int .i64 y.1.Initial),.d (.bool y.1.High)],.d (.int .i64 y.2)]):=by
 refine auA Tryz.func153 (λy:ao×Int=>.tuple [.agg [.d (.int .i64 y.1.Code),.d (.int .i64 y.1.R),.d (.int .i64 y.1.Z),.d (.int .i64 y.1.Q),.d (.int .i64 y.1.Rate),.d (.int .i64 y.1.Initial),.d (.bool y.1.High)],.d (.int .i64 y.2)]) ?_ h
 unfold n5
 refine .seqK (.regionW λe h=>regW.alt 0 rfl ?_)
 simp only[seval,EMA]
 refine kZ [.bool a0.Skip,.list (zA aw a0.Words),.str a0.Comment] _ rfl rfl (regW.of ?_)
 exact zzA
instance:Sp 153 (type_of% @cy_Read_spec):=⟨@cy_Read_spec⟩
def gO(a0:ao):Option ((List Int)×Int):=ah (jD a0) λ(y1:Int)=>if (y1 != 0)=true then some ([],y1)else gF [.slot 5 2] ( ah (if (a0.Code==83000)=true then bt (λ(v1:(List Int)×Int)=>lF ([U,.ptr 0 0,U,U,U,.own 0 (zA (eInt .i64) v1.1),dI v1.2]++us 30) ⟨[(cB a0)],[(2,v1.1.length)]⟩ ( if (decide (v1.2>a0.Z))=true then av (bo (v1.1.length+1)) ( some (.go (v1.1++[v1.2],zF.wrap (v1.2-a0.Q))))else some (.ret v1.1))) fuel ([],zF.wrap (a0.R-a0.Q))else some []) λ(v2:(List Int))=>jC ([U,.ptr 0 0,U,U,U,.own 0 (zA (eInt .i64) v2)]++us 31) ⟨[(cB a0)],[(2,v2.length)]⟩ ( av (bo (v2.length+1)) ( some (v2++[a0.Z],0))))
instance cy_Depths_spec:Sp 182 (∀{a0:ao},Ct 182 [.agg (cB a0)] (λy:(List Int)×Int=>.tuple [.d (.list (zA (eInt .i64) y.1)),.d (.int .i64 y.2)]) (gO a0)):=⟨zzF Tryz.func182 (gO.eq_1 ..)⟩
def jg(a0:ao)(a1:ag)(a2:(List aO)):Option ((List ar)×Int):=ah (gO a0) λ(y1:(List Int)×Int)=>if (y1.2 != 0)=true then some ([],y1.2)else ah (ah (jf a1.X) λ(y2:Bool)=>if y2=true then some true else ah (jf a1.Y) λ(y3:Bool)=>if y3=true then some true else ah (jf a1.Z) λ(y4:Bool)=>some y4) λ(v1:Bool)=>jR 4 ([U,U,dL br a2,.ptr 0 0,.ptr 1 0,U,U,U,dL (eInt .i64) y1.1,U,dB v1]++us 125) ⟨[(cB a0),(cE a1)],[]⟩ ( ah (av (be a2) ( az (λ(i1:Nat) (e1:aO) (v2:Bool)=>rF ([U,U,dL br a2,.ptr 0 0,.ptr 1 0,U,U,U,dL (eInt .i64) y1.1,U,dB v2]++us 30++[dL br a2,dI (a2.length:Int),dI (i1:Int)]++us 92) ⟨[(cB a0),(cE a1)],[]⟩ ( ah (if v2=true then some true else ah (jf e1.X) λ(y5:Bool)=>if y5=true then some true else ah (jf e1.Y) λ(y6:Bool)=>some y6) λ(v3:Bool)=>jR 8 ([U,U,dL br a2,.ptr 0 0,.ptr 1 0,U,U,U,dL (eInt .i64) y1.1,U,dB v3]++us 30++[dL br a2,dI (a2.length:Int),dI (i1:Int)]++us 92) ⟨[(cB a0),(cE a1),(cL e1)],[]⟩ ( some (.go v3)))) (λ(v2:Bool)=>some v2) a2 0 v1)) λ(v4:Bool)=>jB 0 ([U,U,dL br a2,.ptr 0 0,.ptr 1 0,U,U,U,dL (eInt .i64) y1.1,U,dB v4]++us 125) ⟨[(cB a0),(cE a1)],[]⟩ ( if v4=true then some ([],11)else gF [.cell 2 0 194] ( bindX (av (be a2) ( az (λ(i2:Nat) (e2:aO) (v5:ag×(List ar))=>rF ([U,U,U,.ptr 0 0,.ptr 1 0,U,U,U,dL (eInt .i64) y1.1,U,U,U,U,.ptr 2 0,.fn 184 [.ptr 1 0,.ptr 2 0]]++us 46++[dL br a2,dI (a2.length:Int),dI (i2:Int)]++us 72) ⟨[(cB a0),(cE v5.1),[.own 0 (zA aA v5.2)]],[(194,v5.2.length)]⟩ ( bindX (ah (if (decide (v5.1.Z<a0.R))=true then ah (iF 184 (λv6:Int×(List ar)=>.tuple []) (λv6:Int×(List ar)=>⟨[(cB a0),[dI v5.1.X,dI v5.1.Y,dI v6.1],[.own 0 (zA aA v6.2)],(cL e2)],[(194,v6.2.length)]⟩) (if (!((v5.1.X==v5.1.X)&&((v5.1.Y==v5.1.Y)&&(a0.R==v5.1.Z))))=true then av (bo (v5.2.length+1)) ( some (a0.R,v5.2++[ar.mk 1 (ag.mk v5.1.X v5.1.Y a0.R) (aO.mk 0 0) 0]))else some (v5.1.Z,v5.2))) λ(v6:Int×(List ar))=>some (v6.1,v6.2)else some (v5.1.Z,v5.2)) λ(v7:Int×(List ar))=>jC ([U,U,U,.ptr 0 0,.ptr 1 0,U,U,U,dL (eInt .i64) y1.1,U,U,U,U,.ptr 2 0,.fn 184 [.ptr 1 0,.ptr 2 0],U,.ptr 3 0]++us 44++[dL br a2,dI (a2.length:Int),dI (i2:Int)]++us 72) ⟨[(cB a0),[dI v5.1.X,dI v5.1.Y,dI v7.1],[.own 0 (zA aA v7.2)],(cL e2)],[(194,v7.2.length)]⟩ ( ah (iF 184 (λv8:ag×(List ar)=>.tuple []) (λv8:ag×(List ar)=>⟨[(cB a0),(cE v8.1),[.own 0 (zA aA v8.2)],(cL e2)],[(194,v8.2.length)]⟩) (if (!((e2.X==v5.1.X)&&((e2.Y==v5.1.Y)&&(v7.1==v7.1))))=true then av (bo (v7.2.length+1)) ( some (ag.mk e2.X e2.Y v7.1,v7.2++[ar.mk 1 (ag.mk e2.X e2.Y v7.1) (aO.mk 0 0) 0]))else some (ag.mk v5.1.X v5.1.Y v7.1,v7.2))) λ(v8:ag×(List ar))=>ah (iF 184 (λv9:ag×(List ar)=>.tuple []) (λv9:ag×(List ar)=>⟨[(cB a0),(cE v9.1),[.own 0 (zA aA v9.2)],(cL e2),[dI e2.X,dI e2.Y,dI a0.R]],[(194,v9.2.length)]⟩) (if (!((e2.X==v8.1.X)&&((e2.Y==v8.1.Y)&&(a0.R==v8.1.Z))))=true then av (bo (v8.2.length+1)) ( some (ag.mk e2.X e2.Y a0.R,v8.2++[ar.mk 1 (ag.mk e2.X e2.Y a0.R) (aO.mk 0 0) 0]))else some (v8.1,v8.2))) λ(v9:ag×(List ar))=>ah (av (be y1.1) ( az (λ(i3:Nat) (e3:Int) (v10:ag×(List ar))=>rF ([U,U,U,.ptr 0 0,.ptr 1 0,U,U,U,dL (eInt .i64) y1.1,U,U,U,U,.ptr 2 0,.fn 184 [.ptr 1 0,.ptr 2 0],U,.ptr 3 0,.ptr 4 0]++us 43++[dL br a2,dI (a2.length:Int),dI (i2:Int)]++us 36++[dL (eInt .i64) y1.1,dI (y1.1.length:Int),dI (i3:Int)]++us 33) ⟨[(cB a0),(cE v10.1),[.own 0 (zA aA v10.2)],(cL e2),[dI e2.X,dI e2.Y,dI a0.R]],[(194,v10.2.length)]⟩ ( ah (iF 184 (λv11:ag×(List ar)=>.tuple []) (λv11:ag×(List ar)=>⟨[(cB a0),(cE v11.1),[.own 0 (zA aA v11.2)],(cL e2),[dI e2.X,dI e2.Y,dI a0.R]],[(194,v11.2.length)]⟩) (if (!((e2.X==v10.1.X)&&((e2.Y==v10.1.Y)&&(e3==v10.1.Z))))=true then av (bo (v10.2.length+1)) ( some (ag.mk e2.X e2.Y e3,v10.2++[ar.mk 2 (ag.mk e2.X e2.Y e3) (aO.mk 0 0) a0.Rate]))else some (v10.1,v10.2))) λ(v11:ag×(List ar))=>ah (iF 184 (λv12:ag×(List ar)=>.tuple []) (λv12:ag×(List ar)=>⟨[(cB a0),(cE v12.1),[.own 0 (zA aA v12.2)],(cL e2),[dI e2.X,dI e2.Y,dI a0.R]],[(194,v12.2.length)]⟩) (if (!((e2.X==v11.1.X)&&((e2.Y==v11.1.Y)&&(a0.R==v11.1.Z))))=true then av (bo (v11.2.length+1)) ( some (ag.mk e2.X e2.Y a0.R,v11.2++[ar.mk 1 (ag.mk e2.X e2.Y a0.R) (aO.mk 0 0) 0]))else some (v11.1,v11.2))) λ(v12:ag×(List ar))=>some (.go (v12.1,v12.2)))) (λ(v10:ag×(List ar))=>some (v10.1,v10.2)) y1.1 0 (v9.1,v9.2))) λ(v13:ag×(List ar))=>jB 4 ([U,U,U,.ptr 0 0,.ptr 1 0,U,U,U,dL (eInt .i64) y1.1,U,U,U,U,.ptr 2 0,.fn 184 [.ptr 1 0,.ptr 2 0],U,.ptr 3 0]++us 44++[dL br a2,dI (a2.length:Int),dI (i2:Int)]++us 72) ⟨[(cB a0),(cE v13.1),[.own 0 (zA aA v13.2)],(cL e2),[dI e2.X,dI e2.Y,dI a0.R]],[(194,v13.2.length)]⟩ ( ah (if a0.High=true then ah (iF 184 (λv14:ag×(List ar)=>.tuple []) (λv14:ag×(List ar)=>⟨[(cB a0),(cE v14.1),[.own 0 (zA aA v14.2)],(cL e2),[dI e2.X,dI e2.Y,dI a0.R]],[(194,v14.2.length)]⟩) (if (!((e2.X==v13.1.X)&&((e2.Y==v13.1.Y)&&(a0.Initial==v13.1.Z))))=true then av (bo (v13.2.length+1)) ( some (ag.mk e2.X e2.Y a0.Initial,v13.2++[ar.mk 1 (ag.mk e2.X e2.Y a0.Initial) (aO.mk 0 0) 0]))else some (v13.1,v13.2))) λ(v14:ag×(List ar))=>some (v14.1,v14.2)else some (v13.1,v13.2)) λ(v15:ag×(List ar))=>jC ([U,U,U,.ptr 0 0,.ptr 1 0,U,U,U,dL (eInt .i64) y1.1,U,U,U,U,.ptr 2 0,.fn 184 [.ptr 1 0,.ptr 2 0]]++us 46++[dL br a2,dI (a2.length:Int),dI (i2:Int)]++us 72) ⟨[(cB a0),(cE v15.1),[.own 0 (zA aA v15.2)],(cL e2),[dI e2.X,dI e2.Y,dI a0.R]],[(194,v15.2.length)]⟩ ( if (decide ((v15.2.length:Int)>20000))=true then some (.ret (.ret (.ret ([],3))))else some (.go (v15.1,v15.2)))))) λ(v16:ag×(List ar))=>jB 3 ([U,U,U,.ptr 0 0,.ptr 1 0,U,U,U,dL (eInt .i64) y1.1,U,U,U,U,.ptr 2 0,.fn 184 [.ptr 1 0,.ptr 2 0]]++us 46++[dL br a2,dI (a2.length:Int),dI (i2:Int)]++us 72) ⟨[(cB a0),(cE v16.1),[.own 0 (zA aA v16.2)]],[(194,v16.2.length)]⟩ ( some (.go (v16.1,v16.2))))) (λ(v5:ag×(List ar))=>some (.go (v5.1,v5.2))) a2 0 (a1,[]))) λ(v17:ag×(List ar))=>jB 2 (us 13++[.ptr 2 0]++us 122) ⟨[(cB a0),(cE v17.1),[.own 0 (zA aA v17.2)]],[(194,v17.2.length)]⟩ ( some (v17.2,0)))))
theorem nh{a0:ao}{a1:ag}{a2:(List aO)}{y:(List ar)×Int}(h:jg a0 a1 a2=some y):Spec gP 154 [.agg (cB a0),.agg (cE a1),.d (.list (zA br a2))] (.tuple [.d (.list (zA aA y.1)),.d (.int .i64 y.2)]):=by
 refine auA Tryz.func154 (λy:(List ar)×Int=>.tuple [.d (.list (zA aA y.1)),.d (.int .i64 y.2)]) ?_ h
 unfold jg
 refine .sA ?_
 refine .seqK (.bind λy1 hy1=>.region λe h=>WA ?_)
 refine .byA (cy_Depths_spec.1 _ hy1) (mA ?_ h)
 refine .seqK (.sA ?_)
 refine .cond rfl (λhb3=>?_) (λhb3=>?_)
 exact zzA
 refine .skip (Mir.toK (.seqK (Mir.jOR (λ_=>rfl) ?_ ?_)))
 exact zzA
 intro v1
 refine Mir.toK (.seqK (.sA ?_))
 refine Mir.jOB (λ_=>rfl) ?_ ?_
 refine .block (.guard λqg94=>Mir.rF qg94 (λ_ _=>rfl) (by simp only[seval,FMA,zNI]) (by simp only[seval,FMA,zNI]) ?_ ?_)
 intro i1 e1 v2 qr92
 refine .sR λe h=>?_
 simp only[seval,EMA,qr92]
 exact zzA
 exact zzA
 intro v4
 refine Mir.toK (.seqK (.sA ?_))
 refine .cond rfl (λh4=>?_) (λh4=>?_)
 exact zzA
 refine .skip (Mir.toK (.sA ?_))
 refine .sA ?_
 refine .seqK (.sA ?_)
 refine Mir.gF rfl (Mir.jXB (λ_=>rfl) ?_ ?_)
 refine .block (.guard λq1=>Mir.rF q1 (λ_ _=>rfl) (by simp only[seval,FMA,zNI]) (by simp only[seval,FMA,zNI]) ?_ ?_)
 intro i2 e2 v5 q2
 refine .sR λe h=>?_
 simp only[seval,EMA,q2]
 refine mU e (.seqK (.condT rfl (.skip (Mir.toK (.seqK (Mir.jXB (λ_=>rfl) ?_ ?_)))))) h
 refine .block (.sR λe h=>?_)
 simp only[seval,EMA,q2,zD]
 refine mU e (.seqK (.sA ?_)) h
 refine Mir.jOC (λ_=>rfl) ?_ ?_
 exact zzA
 intro v7
 refine Mir.toK (.seqK (.bind λv8 h8=>.region λe h=>WA ?_))
 refine aY.inlA h8 ?_ ?_
 exact zzA
 simp only[seval,EMA]
 refine mU e (.sA ?_) h
 refine .seqK (.bind λv9 h10=>.region λe h=>WA ?_)
 refine aY.inlA h10 ?_ ?_
 exact zzA
 simp only[seval,EMA]
 refine mU e (.seqK (.sA ?_)) h
 refine Mir.jOB (λ_=>rfl) ?_ ?_
 refine .block (.guard λq6=>Mir.rF q6 (λ_ _=>rfl) (by simp only[seval,FMA,zNI]) (by simp only[seval,FMA,zNI]) ?_ ?_)
 intro i3 e3 v10 q7
 refine .sR λe h=>?_
 simp only[seval,EMA,q7]
 refine mU e (.seqK (.condT rfl (.skip (Mir.toK (.seqK (.block (.sR λe h=>?_))))))) h
 simp only[seval,EMA,q7,zD]
 refine mU e (.seqK (.bind λv11 h12=>.region λe h=>WA ?_)) h
 exact zzA
 exact zzA
 exact zzA
 exact zzA
 exact zzA
 exact zzA
instance:Sp 154 (type_of% @nh):=⟨@nh⟩
def fh(a0:aq)(a1:ao)(a2:aa)(a3:ag)(a4:ag):Option ((List ap)×ao×Int):=ah (if (!((a1.Code==0)&&((a1.R==0)&&((a1.Z==0)&&((a1.Q==0)&&((a1.Rate==0)&&((a1.Initial==0)&&(a1.High==false))))))))=true then some a1.Initial else some a3.Z) λ(v1:Int)=>jC ([U,U,U,U,U,.ptr 0 0,.ptr 1 0,.ptr 2 0,.ptr 3 0,.ptr 4 0,U,.ptr 5 0,U,dI v1]++us 64) ⟨[(cA a0),(cB a1),(cC a2),(cE a3),(cE a4),cY],[]⟩ ( ah (n5 a2 a0.Motion a0.Feed v1 (a0.Return==98000) a1) λ(y1:ao×Int)=>if (y1.2 != 0)=true then some ([],ao.mk 0 0 0 0 0 0 false,y1.2)else ah (jg y1.1 a3 [aO.mk a4.X a4.Y]) λ(y2:(List ar)×Int)=>if (y2.2 != 0)=true then some ([],ao.mk 0 0 0 0 0 0 false,y2.2)else gF [.slot 17 148] ( ah (av (be y2.1) ( az (λ(i1:Nat) (e1:ar) (v2:(List ap))=>rF (us 11++[.ptr 5 0,U,U,.ptr 6 0,U,U,.own 0 (zA aX v2)]++us 43++[dL aA y2.1,dI (y2.1.length:Int),dI (i1:Int)]++us 14) ⟨[(cA a0),(cB a1),(cC a2),(cE a3),(cE a4),cY,(cB y1.1)],[(148,v2.length)]⟩ ( av (bo (v2.length+1)) ( some (.go (v2++[ap.mk e1.To e1.Rate]))))) (λ(v2:(List ap))=>some v2) y2.1 0 [])) λ(v3:(List ap))=>jB 0 (us 11++[.ptr 5 0,U,U,.ptr 6 0,U,U,.own 0 (zA aX v3)]++us 60) ⟨[(cA a0),(cB a1),(cC a2),(cE a3),(cE a4),cY,(cB y1.1)],[(148,v3.length)]⟩ ( some (v3,y1.1,0))))
instance inp_canned_spec:Sp 124 (∀{a0:aq} {a1:ao} {a2:aa} {a3:ag} {a4:ag},Ct 124 [.agg (cA a0),.agg (cB a1),.agg (cC a2),.agg (cE a3),.agg (cE a4)] (λy:(List ap)×ao×Int=>.tuple [.d (.list (zA aX y.1)),.agg [.d (.int .i64 y.2.1.Code),.d (.int .i64 y.2.1.R),.d (.int .i64 y.2.1.Z),.d (.int .i64 y.2.1.Q),.d (.int .i64 y.2.1.Rate),.d (.int .i64 y.2.1.Initial),.d (.bool y.2.1.High)],.d (.int .i64 y.2.2)]) (fh a0 a1 a2 a3 a4)):=⟨zzF Tryz.func124 (fh.eq_1 ..)⟩
def kj(a0:aa)(a1:Int):Option Int:=ah (ji a0 a1) λ(y1:Int×Bool)=>some y1.1
instance inp_value_spec:Sp 155 (∀{a0:aa} {a1:Int},Ct 155 [.agg (cC a0),.d (.int .u8 a1)] (λy:Int=>.d (.int .i64 y)) (kj a0 a1)):=⟨zzF Tryz.func155 (kj.eq_1 ..)⟩
def im(a0:ar):Option Bool:=jV 1 ([U,U,dB ((a0.Kind==3)||(a0.Kind==4))]++us 8) ⟨[(cM a0)],[]⟩ ( some ((a0.Kind==3)||(a0.Kind==4)))
instance ip_isArc_spec:Sp 204 (∀{a0:ar},Ct 204 [.agg (cM a0)] (λy:Bool=>.d (.bool y)) (im a0)):=⟨zzF Tryz.func204 (im.eq_1 ..)⟩
def ct(a0:Int)(a1:Int):Option Int:=ah (if (decide (a0<a1))=true then some (a1,a0)else some (a0,a1)) λ(v1:Int×Int)=>jC ([dI v1.1,dI v1.2]++us 13) ⟨[],[]⟩ ( some (zG.wrap ((zG.wrap v1.1)-(zG.wrap v1.2))))
instance ip_apart_spec:Sp 206 (∀{a0:Int} {a1:Int},Ct 206 [dI a0,dI a1] (λy:Int=>.d (.int .u64 y)) (ct a0 a1)):=⟨zzF Tryz.func206 (ct.eq_1 ..)⟩
def cz(a0:ag)(a1:aO):Option (Int×Int):=jV 1 ([U,U,.ptr 0 0,.ptr 1 0,U,U,dB ((a0.Y==a1.Y)&&(decide (a0.X>a1.X)))]++us 71) ⟨[(cE a0),(cL a1)],[]⟩ ( if ((a0.Y==a1.Y)&&(decide (a0.X>a1.X)))=true then ah (ct a0.X a1.X) λ(y1:Int)=>some (0,y1)else jV 3 ([U,U,.ptr 0 0,.ptr 1 0]++us 20++[dB ((a0.X==a1.X)&&(decide (a0.Y>a1.Y)))]++us 53) ⟨[(cE a0),(cL a1)],[]⟩ ( if ((a0.X==a1.X)&&(decide (a0.Y>a1.Y)))=true then ah (ct a0.Y a1.Y) λ(y2:Int)=>some (1,y2)else jV 5 ([U,U,.ptr 0 0,.ptr 1 0]++us 38++[dB ((a0.Y==a1.Y)&&(decide (a0.X<a1.X)))]++us 35) ⟨[(cE a0),(cL a1)],[]⟩ ( if ((a0.Y==a1.Y)&&(decide (a0.X<a1.X)))=true then ah (ct a0.X a1.X) λ(y3:Int)=>some (2,y3)else jV 7 ([U,U,.ptr 0 0,.ptr 1 0]++us 56++[dB ((a0.X==a1.X)&&(decide (a0.Y<a1.Y)))]++us 17) ⟨[(cE a0),(cL a1)],[]⟩ ( if ((a0.X==a1.X)&&(decide (a0.Y<a1.Y)))=true then ah (ct a0.Y a1.Y) λ(y4:Int)=>some (3,y4)else some (0,0)))))
instance ip_point_spec:Sp 186 (∀{a0:ag} {a1:aO},Ct 186 [.agg (cE a0),.agg (cL a1)] (λy:Int×Int=>.tuple [.d (.int .i64 y.1),.d (.int .u64 y.2)]) (cz a0 a1)):=⟨zzF Tryz.func186 (cz.eq_1 ..)⟩
def il(a0:ag)(a1:ar):Option Bool:=if (a1.Kind==1)=true then some (a1.Rate==0)else if (a1.Kind==2)=true then some (decide (a1.Rate>0))else ah (cz a0 a1.Center) λ(y1:Int×Int)=>ah (cz a1.To a1.Center) λ(y2:Int×Int)=>ah (ah (im a1) λ(y3:Bool)=>if y3=true then if (decide (a1.Rate>0))=true then if (decide (y1.2>0))=true then some (y1.2==y2.2)else some false else some false else some false) λ(v1:Bool)=>jR 8 ([U,U,U,U,dB v1]++us 47) ⟨[(cE a0),(cM a1)],[]⟩ ( some v1)
instance ip_right_spec:Sp 212 (∀{a0:ag} {a1:ar},Ct 212 [.agg (cE a0),.agg (cM a1)] (λy:Bool=>.d (.bool y)) (il a0 a1)):=⟨zzF Tryz.func212 (il.eq_1 ..)⟩
def io(a0:ag)(a1:ar):Option Int:=ah (il a0 a1) λ(y1:Bool)=>if (!y1)=true then some 1 else ah (im a1) λ(y2:Bool)=>bindX (if y2=true then ah (cz a0 a1.Center) λ(y3:Int×Int)=>ah (if (decide (y3.2>10000000))=true then some true else ah (ct a1.Center.X 0) λ(y4:Int)=>if (decide (y4>10000000))=true then some true else ah (ct a1.Center.Y 0) λ(y5:Int)=>some (decide (y5>10000000))) λ(v1:Bool)=>jR 6 ([U,U,U,.ptr 1 0,U,.full (zA (eInt .i64) [a0.X,a0.Y,a0.Z,a1.To.X,a1.To.Y,a1.To.Z]),U,.d (.int .u64 y3.2)]++us 47++[dB v1]++us 35) ⟨[(cE a0),(cM a1)],[]⟩ ( if v1=true then some (.ret 11)else some (.go [a0.X,a0.Y,a0.Z,a1.To.X,a1.To.Y,a1.To.Z,zF.wrap (a1.Center.X+(zF.wrap y3.2)),zF.wrap (a1.Center.X-(zF.wrap y3.2)),zF.wrap (a1.Center.Y+(zF.wrap y3.2)),zF.wrap (a1.Center.Y-(zF.wrap y3.2))]))else some (.go [a0.X,a0.Y,a0.Z,a1.To.X,a1.To.Y,a1.To.Z])) λ(v2:(List Int))=>jC ([U,U,U,U,U,dL (eInt .i64) v2]++us 85) ⟨[(cE a0),(cM a1)],[]⟩ ( bindX (av (be v2) ( az (λ(i1:Nat) (e1:Int) (v3:Unit)=>rF (us 81++[dL (eInt .i64) v2,dI (v2.length:Int),dI (i1:Int)]++us 7) ⟨[(cE a0),(cM a1)],[]⟩ ( ah (ct e1 0) λ(y6:Int)=>if (decide (y6>10000000))=true then some (.ret (.ret 11))else some (.go ()))) (λ(v3:Unit)=>some (.go ())) v2 0 ())) λ(v4:Unit)=>jB 0 (us 91) ⟨[(cE a0),(cM a1)],[]⟩ ( some 0))
instance ip_Valid_spec:Sp 205 (∀{a0:ag} {a1:ar},Ct 205 [.agg (cE a0),.agg (cM a1)] (λy:Int=>.d (.int .i64 y)) (io a0 a1)):=⟨zzF Tryz.func205 (io.eq_1 ..)⟩
def b8(a0:ag)(a1:ar):Option (Int×Int):=ah (im a1) λ(y1:Bool)=>if (!y1)=true then some (0,1)else ah (io a0 a1) λ(y2:Int)=>if (y2 != 0)=true then some (0,y2)else ah (cz a0 a1.Center) λ(y3:Int×Int)=>ah (cz a1.To a1.Center) λ(y4:Int×Int)=>ah (if (a1.Kind==3)=true then some (zF.wrap (0-(zF.wrap (y4.1-y3.1))))else some (zF.wrap (y4.1-y3.1))) λ(v1:Int)=>jC (us 11++[dI v1]++us 37) ⟨[(cE a0),(cM a1)],[]⟩ ( ah (if (decide (v1≤0))=true then some (zF.wrap (v1+4))else some v1) λ(v2:Int)=>jC (us 11++[dI v2]++us 37) ⟨[(cE a0),(cM a1)],[]⟩ ( some (v2,0)))
instance ip_Quarters_spec:Sp 185 (∀{a0:ag} {a1:ar},Ct 185 [.agg (cE a0),.agg (cM a1)] (λy:Int×Int=>.tuple [.d (.int .i64 y.1),.d (.int .i64 y.2)]) (b8 a0 a1)):=⟨zzF Tryz.func185 (b8.eq_1 ..)⟩
def ja(a0:Int):Option Int:=if (decide (a0≤0))=true then some 0 else ah (bt (λ(v1:Int×Int)=>lF ([U,U,U,dI (zF.wrap ((zF.wrap (zB (zF.wrap (a0-1)) 10))+1)),dI v1.1,dI v1.2]++us 23) ⟨[],[]⟩ ( if (decide (v1.1<v1.2))=true then if (decide ((zF.wrap ((zF.wrap (zB (zF.wrap (v1.1+v1.2)) 2))*(zF.wrap (zB (zF.wrap (v1.1+v1.2)) 2))))≥(zF.wrap ((zF.wrap (zB (zF.wrap (a0-1)) 10))+1))))=true then some (.go (v1.1,zF.wrap (zB (zF.wrap (v1.1+v1.2)) 2)))else some (.go (zF.wrap ((zF.wrap (zB (zF.wrap (v1.1+v1.2)) 2))+1),v1.2))else some (.ret v1.1))) fuel (1,1073741824)) λ(v2:Int)=>jB 0 ([U,U,U,U,dI v2]++us 24) ⟨[],[]⟩ ( some v2)
instance ip_Chords_spec:Sp 187 (∀{a0:Int},Ct 187 [dI a0] (λy:Int=>.d (.int .i64 y)) (ja a0)):=⟨zzF Tryz.func187 (ja.eq_1 ..)⟩
def gK(a0:Int)(a1:Int)(a2:Int):Option (Int×Int):=ah (bt (λ(v1:Int×Int×Int)=>lF ([dI v1.1,dI v1.2.1]++us 7++[dI (andI .i64 a2 3),dI v1.2.2]++us 7) ⟨[],[]⟩ ( if (decide (v1.2.2<(andI .i64 a2 3)))=true then some (.go (zF.wrap (0-v1.2.1),v1.1,zF.wrap (v1.2.2+1)))else some (.ret (v1.1,v1.2.1)))) fuel (a0,a1,0)) λ(v2:Int×Int)=>jB 0 ([dI v2.1,dI v2.2]++us 16) ⟨[],[]⟩ ( some (v2.1,v2.2))
instance ip_turned_spec:Sp 188 (∀{a0:Int} {a1:Int} {a2:Int},Ct 188 [dI a0,dI a1,dI a2] (λy:Int×Int=>.tuple [.d (.int .i64 y.1),.d (.int .i64 y.2)]) (gK a0 a1 a2)):=⟨zzF Tryz.func188 (gK.eq_1 ..)⟩
def kP(a0:Int)(a1:Int):Option Int:=av (!(a1==0)) ( av (!(a1==0)) ( ah (if (decide ((zE a0 a1)<0))=true then some (zF.wrap ((zF.wrap (zB a0 a1))-1))else some (zF.wrap (zB a0 a1))) λ(v1:Int)=>jC ([U,U,U,U,U,dI v1]++us 10) ⟨[],[]⟩ ( some v1)))
instance ip_floor_spec:Sp 189 (∀{a0:Int} {a1:Int},Ct 189 [dI a0,dI a1] (λy:Int=>.d (.int .i64 y)) (kP a0 a1)):=⟨zzF Tryz.func189 (kP.eq_1 ..)⟩
def nf(a0:ag)(a1:ar):Option ((List ag)×Int):=ah (b8 a0 a1) λ(y1:Int×Int)=>if (y1.2 != 0)=true then some ([],y1.2)else ah (cz a0 a1.Center) λ(y2:Int×Int)=>ah (ja (zF.wrap y2.2)) λ(y3:Int)=>if (decide ((zF.wrap (y3*y1.1))>20000))=true then some ([],3)else gF [.slot 13 23] ( ah (bt (λ(v1:(List ag)×Int)=>lF ([U,U,.ptr 0 0,.ptr 1 0,U,U,U,U,dI y2.1,U,dI (zF.wrap y2.2),dI y3,dI (zF.wrap (y3*y1.1)),.own 0 (zA bN v1.1)]++us 30++[dI y1.1,dI v1.2]++us 93) ⟨[(cE a0),(cM a1)],[(23,v1.1.length)]⟩ ( if (decide (v1.2<y1.1))=true then ah (bt (λ(v2:(List ag)×Int)=>lF ([U,U,.ptr 0 0,.ptr 1 0,U,U,U,U,dI y2.1,U,dI (zF.wrap y2.2),dI y3,dI (zF.wrap (y3*y1.1)),.own 0 (zA bN v2.1),dI v1.2,dI v2.2]++us 28++[dI y1.1,dI v1.2]++us 93) ⟨[(cE a0),(cM a1)],[(23,v2.1.length)]⟩ ( if (decide (v2.2≤y3))=true then av (!((zF.wrap ((zF.wrap (y3*y3))+(zF.wrap (v2.2*v2.2))))==0)) ( av (!((zF.wrap ((zF.wrap (y3*y3))+(zF.wrap (v2.2*v2.2))))==0)) ( ah (if (a1.Kind==3)=true then ah (gK (zF.wrap (zB (zF.wrap ((zF.wrap y2.2)*(zF.wrap ((zF.wrap (y3*y3))-(zF.wrap (v2.2*v2.2)))))) (zF.wrap ((zF.wrap (y3*y3))+(zF.wrap (v2.2*v2.2)))))) (zF.wrap (0-(zF.wrap (zB (zF.wrap ((zF.wrap ((zF.wrap (2*(zF.wrap y2.2)))*v2.2))*y3)) (zF.wrap ((zF.wrap (y3*y3))+(zF.wrap (v2.2*v2.2)))))))) (zF.wrap ((zF.wrap (y2.1-v1.2))+4))) λ(y4:Int×Int)=>some (y4.1,y4.2)else ah (gK (zF.wrap (zB (zF.wrap ((zF.wrap y2.2)*(zF.wrap ((zF.wrap (y3*y3))-(zF.wrap (v2.2*v2.2)))))) (zF.wrap ((zF.wrap (y3*y3))+(zF.wrap (v2.2*v2.2)))))) (zF.wrap (zB (zF.wrap ((zF.wrap ((zF.wrap (2*(zF.wrap y2.2)))*v2.2))*y3)) (zF.wrap ((zF.wrap (y3*y3))+(zF.wrap (v2.2*v2.2)))))) (zF.wrap (y2.1+v1.2))) λ(y5:Int×Int)=>some (y5.1,y5.2)) λ(v3:Int×Int)=>jC ([U,U,.ptr 0 0,.ptr 1 0,U,U,U,U,dI y2.1,U,dI (zF.wrap y2.2),dI y3,dI (zF.wrap (y3*y1.1)),.own 0 (zA bN v2.1),dI v1.2,dI v2.2,dI v3.1,dI v3.2]++us 26++[dI y1.1,dI v1.2]++us 93) ⟨[(cE a0),(cM a1)],[(23,v2.1.length)]⟩ ( ah (kP (zF.wrap ((zF.wrap (a1.To.Z-a0.Z))*(zF.wrap ((v2.1.length:Int)+1)))) (zF.wrap (y3*y1.1))) λ(y6:Int)=>av (bo (v2.1.length+1)) ( some (.go (v2.1++[ag.mk (zF.wrap (a1.Center.X+v3.1)) (zF.wrap (a1.Center.Y+v3.2)) (zF.wrap (a0.Z+y6))],zF.wrap (v2.2+1)))))))else some (.ret v2.1))) fuel (v1.1,1)) λ(v4:(List ag))=>jB 1 ([U,U,.ptr 0 0,.ptr 1 0,U,U,U,U,dI y2.1,U,dI (zF.wrap y2.2),dI y3,dI (zF.wrap (y3*y1.1)),.own 0 (zA bN v4)]++us 30++[dI y1.1,dI v1.2]++us 93) ⟨[(cE a0),(cM a1)],[(23,v4.length)]⟩ ( some (.go (v4,zF.wrap (v1.2+1))))else some (.ret v1.1))) fuel ([],0)) λ(v5:(List ag))=>jB 0 (us 13++[.own 0 (zA bN v5)]++us 125) ⟨[(cE a0),(cM a1)],[(23,v5.length)]⟩ ( some (v5,0)))
instance ip_Arc_spec:Sp 156 (∀{a0:ag} {a1:ar},Ct 156 [.agg (cE a0),.agg (cM a1)] (λy:(List ag)×Int=>.tuple [.d (.list (zA bN y.1)),.d (.int .i64 y.2)]) (nf a0 a1)):=⟨zzF Tryz.func156 (nf.eq_1 ..)⟩
def lY(a0:aq)(a1:aa)(a2:ag)(a3:ag):Option ((List ap)×Int):=ah (kj a1 73) λ(y1:Int)=>ah (kj a1 74) λ(y2:Int)=>ah (if (a0.Motion==3000)=true then some 4 else some 3) λ(v1:Int)=>jC ([U,U,U,U,.ptr 0 0,U,.ptr 2 0,U,U,U,.ptr 4 0]++us 46) ⟨[(cA a0),(cC a1),(cE a2),(cE a3),[dI v1,dI a3.X,dI a3.Y,dI a3.Z,dI (zF.wrap (a2.X+y1)),dI (zF.wrap (a2.Y+y2)),dI a0.Feed]],[]⟩ ( ah (nf a2 (ar.mk v1 a3 (aO.mk (zF.wrap (a2.X+y1)) (zF.wrap (a2.Y+y2))) a0.Feed)) λ(y3:(List ag)×Int)=>gF [.slot 13 148] ( ah (av (be y3.1) ( az (λ(i1:Nat) (e1:ag) (v2:(List ap))=>rF ([U,U,U,U,.ptr 0 0]++us 7++[dI y3.2,.own 0 (zA aX v2)]++us 27++[dL bN y3.1,dI (y3.1.length:Int),dI (i1:Int)]++us 13) ⟨[(cA a0),(cC a1),(cE a2),(cE a3),[dI v1,dI a3.X,dI a3.Y,dI a3.Z,dI (zF.wrap (a2.X+y1)),dI (zF.wrap (a2.Y+y2)),dI a0.Feed]],[(148,v2.length)]⟩ ( av (bo (v2.length+1)) ( some (.go (v2++[ap.mk e1 a0.Feed]))))) (λ(v2:(List ap))=>some v2) y3.1 0 [])) λ(v3:(List ap))=>jB 0 (us 12++[dI y3.2,.own 0 (zA aX v3)]++us 43) ⟨[(cA a0),(cC a1),(cE a2),(cE a3),[dI v1,dI a3.X,dI a3.Y,dI a3.Z,dI (zF.wrap (a2.X+y1)),dI (zF.wrap (a2.Y+y2)),dI a0.Feed]],[(148,v3.length)]⟩ ( some (v3,y3.2))))
instance inp_arc_spec:Sp 125 (∀{a0:aq} {a1:aa} {a2:ag} {a3:ag},Ct 125 [.agg (cA a0),.agg (cC a1),.agg (cE a2),.agg (cE a3)] (λy:(List ap)×Int=>.tuple [.d (.list (zA aX y.1)),.d (.int .i64 y.2)]) (lY a0 a1 a2 a3)):=⟨zzF Tryz.func125 (lY.eq_1 ..)⟩
def dq(a0:aq)(a1:ao)(a2:aa)(a3:ag):Option ((List ap)×ao×Int):=ah (fY a0 a2 a3) λ(y1:ag)=>if (a0.Motion==0)=true then some ([ap.mk y1 0],ao.mk 0 0 0 0 0 0 false,0)else if (a0.Motion==1000)=true then some ([ap.mk y1 a0.Feed],ao.mk 0 0 0 0 0 0 false,0)else ah (dD a0.Motion) λ(y2:Bool)=>if y2=true then ah (fh a0 a1 a2 a3 y1) λ(y3:(List ap)×ao×Int)=>some (y3.1,y3.2.1,y3.2.2)else ah (lY a0 a2 a3 y1) λ(y4:(List ap)×Int)=>some (y4.1,ao.mk 0 0 0 0 0 0 false,y4.2)
instance inp_positions_spec:Sp 74 (∀{a0:aq} {a1:ao} {a2:aa} {a3:ag},Ct 74 [.agg (cA a0),.agg (cB a1),.agg (cC a2),.agg (cE a3)] (λy:(List ap)×ao×Int=>.tuple [.d (.list (zA aX y.1)),.agg [.d (.int .i64 y.2.1.Code),.d (.int .i64 y.2.1.R),.d (.int .i64 y.2.1.Z),.d (.int .i64 y.2.1.Q),.d (.int .i64 y.2.1.Rate),.d (.int .i64 y.2.1.Initial),.d (.bool y.2.1.High)],.d (.int .i64 y.2.2)]) (dq a0 a1 a2 a3)):=⟨zzF Tryz.func74 (dq.eq_1 ..)⟩
def d7(a0:aC)(a1:Int)(a2:Int)(a3:ag):Option (ag×Int):=ah (gq a0 a1 a2) λ(y1:ag×Int)=>if (y1.2 != 0)=true then some (ag.mk 0 0 0,y1.2)else ah (jm a3 y1.1 1) λ(y2:ag×Int)=>some (y2.1,y2.2)
instance tb_Machine_spec:Sp 75 (∀{a0:aC} {a1:Int} {a2:Int} {a3:ag},Ct 75 [.agg (w6 a0.Work [.d (.list (zA au a0.Lengths))]),dI a1,dI a2,.agg (cE a3)] (λy:ag×Int=>.tuple [.agg [.d (.int .i64 y.1.X),.d (.int .i64 y.1.Y),.d (.int .i64 y.1.Z)],.d (.int .i64 y.2)]) (d7 a0 a1 a2 a3)):=⟨zzF Tryz.func75 (d7.eq_1 ..)⟩
end Go.Proofs.YtjemmjpdmbenkaaGreatDoor
