import Derived.Test.YtjemmjpdmbenkaaGreatDoorDr
import Derived.Test.YtjemmjpdmbenkaaGreatDoorMLInterpreterRun
open Bool renaming false_eq_true → zA
namespace Go.Proofs.YtjemmjpdmbenkaaGreatDoor
open Go.RowKit
set_option linter.unusedVariables false
set_option linter.unusedSimpArgs false
theorem r47_Run_eq{s:List UInt8}{ex:List aa×Int}(hx:dW s=some ex)(t:bg)(p:ag)(e:Int)(he:bF (aF t) p=some e)(ht:t.Lengths.length≤1000) :
  r47_Run s t p=if (e != 0)=true then some ([],bE.mk 0 0,e)else if (ex.2 != 0)=true then some ([],bE.mk 0 0,ex.2)else ah (ix ex.1 t p) λy=>some (y.1,y.2,0):=by
 obtain⟨ev,hev,hev2⟩:=ii t ht
 have hev':di (aF t)=some ev:=by rw[iv t ht,hev]
 unfold bF at he
 (first | rw[show aC.mk (aF t).Work (aF t).Lengths=aF t from rfl,hev',ae,dt,ae]at he | rw[hev',ae,dt,ae]at he)
 unfold r47_Run
 rw[hev,ae,jG,ae]
 by_cases v0:ev=0
 ·rw[oc (by simpa using v0)]at he
  rw[oc (by simpa using v0)]
  by_cases hp:inR p
  ·rw[oh hp,oc (by simp)]at he
   injection he with he
   rw[oh hp,oc (by simp),←he,oc (by simp),hx,ae]
  ·rw[oi hp,od (by simp)]at he
   injection he with he
   rw[oi hp,od (by simp),←he,od (by simp)]
 ·rw[od (by simpa using v0)]at he
  injection he with he
  rw[od (by simpa using v0),←he,od (by simp)]
theorem same_nil(a b:Int):mC [] (aL.mk a b) [] (bE.mk a b)=some true:=by
 (unfold mC;try delta jR)
 rw[same_self _ (by simp),ae,od rfl,od (by simp),ae]
 simp
theorem mP(s:List UInt8)(g:fm)(_:inStr s)(_:inL47Setting g):dM s g=some true:=by
 (unfold dM;try delta jR)
 simp only[awake47,ae,og]
 by_cases h1:s.length≤1000
 ·rw[oi (by omega)]
  simp only[zA,oe,ae]
  by_cases h2:g.Table.Lengths.length≤20
  ·rw[oi (by omega)]
   simp only[zA,oe]
   obtain⟨ex,hx,hv,hrun⟩:=text_exp s h1
   rw[hx,ae]
   have ht':(aF g.Table).Lengths.length≤1000:=by simp[aF];omega
   obtain⟨e,hce,hc0⟩:=lX (aF g.Table) g.From ht'
   have hth:=l47_theirs_eq g.Table (by omega)
   have hri:=hrun (aF g.Table) g.From
   rw[hce,ae]at hri
   have hrr:=r47_Run_eq hx g.Table g.From e hce (by omega)
   by_cases h0:ex.2=0
   ·rw[show (ex.2==0)=true by simp[h0],od rfl]
    obtain⟨y4,hy4,hfew⟩:=l47_few_tot ex.1 g (by have:=(hv h0).1;omega)
    rw[hy4,ae,ae]
    cases hyy:y4 with
    | false=>rfl
    | true =>
     obtain⟨hf,_⟩:=hfew hyy
     simp only[Bool.not_true,zA,oe]
     rw[hth,ae,hri,hrr]
     by_cases he:e=0
     ·rw[show (e != 0)=false by simp[he],show (ex.2 != 0)=false by simp[h0]]
      simp only[zA,oe]
      have hbs:∀b∈ex.1,okS b:=λb hb=>⟨λw hw=>by
       obtain⟨_,_,h3,_⟩:=(hv h0).2 b hb
       obtain⟨q1,q2,_⟩:=h3 w hw
       exact⟨by omega,by omega⟩,by have:=(hf.2 b hb).1;omega,by have:=(hf.2 b hb).2;omega⟩
      have hll:=hf.1
      rw[inp_Blocks_eq ex.1 _ _ e hce (by omega) hbs ht',ae,r47_Blocks_eq ex.1 _ _ e hce (by omega) hbs (by omega),ae,oc (show ¬(e≠0) by simpa using he),oc (show ¬(e≠0) by simpa using he)]
      obtain⟨a,b⟩:=runB_ok (aF g.Table) ex.1.length g.From ht' ex.1 0 ([],g.From,newS,zC) hbs (by simp) ⟨⟨rfl,by simp,hc0 he⟩,by simp,by simp,by simp⟩ rfl
      have hlen2:=a.2.2.2
      generalize runB (aF g.Table) ex.1.length 0 ex.1 ([],g.From,newS,zC)=r at hlen2
      (unfold mC;try delta jR)
      simp only[ae]
      rw[same_self _ (by omega)]
      simp[ae]
     ·rw[show (e != 0)=true by simp[he]]
      simp only[og,ae]
      rw[same_nil]
      simp[ae]
   ·rw[show (ex.2==0)=false by simp[h0]]
    simp only[zA,oe,ae]
    rw[hth,ae,hri,hrr]
    by_cases he:e=0
    ·rw[show (e != 0)=false by simp[he],show (ex.2 != 0)=true by simp[h0]]
     simp only[zA,oe,og,ae]
     rw[same_nil]
     simp[ae]
    ·rw[show (e != 0)=true by simp[he]]
     simp only[og,ae]
     rw[same_nil]
     simp[ae]
  ·rw[oh (by omega),od rfl]
 ·rw[oh (by omega)]
  rfl
end Go.Proofs.YtjemmjpdmbenkaaGreatDoor
