/-
  Bx, Pmo, Pkn, Pqt in one text.
-/
import Derived.Test.YtplhejpjnfjopaaGreatDoorAall
import Derived.Test.YtplhejpjnfjopaaGreatDoorMB
import Derived.Test.YtplhejpjnfjopaaGreatDoorPz
import Derived.Test.YtplhejpjnfjopaaGreatDoorGog
import Derived.Test.YtplhejpjnfjopaaGreatDoorMwe
open Go.IntKind renaming i64 → zA
namespace Go.Proofs.YtplhejpjnfjopaaGreatDoor
open Go.RowKit
set_option linter.unusedVariables false
set_option linter.unusedSimpArgs false
def movW(p:ag)(m:au):List ay :=
 [⟨71,1000*(m.Kind-1)⟩,⟨88,m.To.X⟩,⟨89,m.To.Y⟩,⟨90,m.To.Z⟩]++(if m.Kind=3∨m.Kind=4 then [⟨73,zA.wrap (m.Center.X-p.X)⟩,⟨74,zA.wrap (m.Center.Y-p.Y)⟩]else [])++(if m.Kind=1 then []else [⟨70,m.Rate⟩])
def movB(p:ag)(m:au):ac×Int :=
 if movV p m≠0 then (⟨false,[],[]⟩,movV p m)else if m.Rate>1000000000000 then (⟨false,[],[]⟩,11)else (⟨false,movW p m,[]⟩,0)
theorem iS{c n:Int}(h:-9000000≤n)(h2:n≤9000000):bX c n=some ⟨c,1000*n⟩:=by
 unfold bX ck
 rw[wrap_i64 (by omega) (by omega)];rfl
theorem po_Move_eq{p:ag}{m:au}(hp:okPos p)(hm:okMove m):jN p m=some (movB p m):=by
 unfold jN movB
 rw[show d4 (ag.mk p.X p.Y p.Z) (au.mk m.Kind m.To m.Center m.Rate)=d4 p m from rfl,ll hp hm,aA]
 by_cases h:movV p m=0
 ·rw[if_neg (show ¬(movV p m != 0)=true by simp[h]),if_neg (show ¬movV p m≠0 by simpa using h)]
  by_cases hr:m.Rate>1000000000000
  ·rw[if_pos (show decide (m.Rate>1000000000000)=true by simpa using hr),if_pos hr]
  ·rw[if_neg (show ¬decide (m.Rate>1000000000000)=true by simpa using hr),if_neg hr]
   have w0:bX 71 0=some ⟨71,0⟩:=iS (by omega) (by omega)
   have w1:bX 71 1=some ⟨71,1000⟩:=iS (by omega) (by omega)
   have w2:bX 71 2=some ⟨71,2000⟩:=iS (by omega) (by omega)
   have w3:bX 71 3=some ⟨71,3000⟩:=iS (by omega) (by omega)
   rcases movV_kind h with k | k | k | k<;>simp[movW,k,w0,w1,w2,w3,ck,dI,bA]
 ·rw[if_pos (show (movV p m != 0)=true by simpa using h),if_pos h]
section
variable {ε : Type}
end
def goodB(b:ac):Prop:=goodW [] b.Words=true∧(∀w∈b.Words,u8W w)∧b.Words.length≤7
theorem movV_rate{p:ag}{m:au}(h:movV p m=0)(hk:m.Kind≠1):0≤m.Rate:=by
 unfold movV at h
 split at h
 ·omega
 ·split at h
  ·omega
  ·omega
theorem good_mov{p:ag}{m:au}(h0:(movB p m).2=0):goodB (movB p m).1:=by
 unfold movB at h0 ⊢
 split at h0
 ·exact absurd h0 (by assumption)
 ·rename_i hv
  split at h0
  ·omega
  ·rename_i hr
   rw[if_neg hv,if_neg hr]
   have hv':movV p m=0:=by omega
   have g0:grp 0=1:=by decide
   have g1:grp 1000=1:=by decide
   have g2:grp 2000=1:=by decide
   have g3:grp 3000=1:=by decide
   rcases movV_kind hv' with k | k | k | k
   ·refine⟨?_,?_,?_⟩<;>simp[movW,k,goodW,clsW,fK,g0,u8W]
   ·have:=movV_rate hv' (by omega)
    refine⟨?_,?_,?_⟩<;>simp[movW,k,goodW,clsW,fK,g1,u8W];omega
   ·have:=movV_rate hv' (by omega)
    refine⟨?_,?_,?_⟩<;>simp[movW,k,goodW,clsW,fK,g2,u8W];omega
   ·have:=movV_rate hv' (by omega)
    refine⟨?_,?_,?_⟩<;>simp[movW,k,goodW,clsW,fK,g3,u8W];omega
def hasV(b:ac)(c n:Int):Bool:=b.Words.any λw=>(w.Letter==c)&&(w.Value==n)
def letV(b:ac)(c:Int):Bool:=b.Words.any λw=>w.Letter==c
def fewB(b:ac):Prop:=b.Words.length≤1000
def callB:ac:=⟨false,[⟨77,98000⟩,⟨80,1000000⟩],[]⟩
def markB(c n:Int):ac:=⟨false,[⟨c,n⟩],[]⟩
def numB(n k:Int)(b:ac):ac×Int:=if (!letV b 79&&!hasV b 77 99000)=true then (⟨b.Skip,[⟨78,zA.wrap (1000*zA.wrap (k+n))⟩]++b.Words,b.Comment⟩,zA.wrap (k+n))else (b,k)
def numV(n:Int):Int→List ac→List ac
 | _,[]=>[]
 | k,b::r=>(numB n k b).1::numV n (numB n k b).2 r
structure EndB (b:ac):Prop where
 few:fewB b
 o:letV b 79=false
 m:hasV b 77 30000=true
 r:hasV b 77 99000=false
structure FreeB (b:ac):Prop where
 few:fewB b
 o:letV b 79=false
 m:hasV b 77 30000=false
 r:hasV b 77 99000=false
def StdB(b:ac):Prop:=b.Words.length≤7∧∀w∈b.Words,w.Letter≠78∧w.Letter≠79∧(w.Letter=77→w.Value=6000)
def endBB:ac:=markB 77 30000
theorem any_not{l:List ay}{q:ay→Bool}(h:∀w∈l,q w=false):l.any q=false:=by
 rw[List.any_eq_false]
 intro w hw
 simp[h w hw]
theorem StdB.has{b:ac}(h:StdB b){n:Int}(hn:n≠6000):hasV b 77 n=false:=any_not λw hw=>by
 by_cases e:w.Letter=77
 ·have:=(h.2 w hw).2.2 e
  simp[e,this];omega
 ·simp[e]
theorem StdB.let{b:ac}(h:StdB b):letV b 79=false∧letV b 78=false:=⟨any_not λw hw=>by simp[(h.2 w hw).2.1],any_not λw hw=>by simp[(h.2 w hw).1]⟩
def Num(b' b:ac):Prop:=b'=b∨((letV b 79=false∧hasV b 77 99000=false)∧∃v,b'=⟨b.Skip,[⟨78,v⟩]++b.Words,b.Comment⟩)
inductive NumL:List ac→List ac→Prop
 | nil:NumL [] []
 | cons {b' b:ac} {A X:List ac} (h:Num b' b) (t:NumL A X):NumL (b'::A) (b::X)
theorem NumL.refl:∀X:List ac,NumL X X
 | []=>.nil
 | _::X=>.cons (.inl rfl) (NumL.refl X)
theorem NumL.of(n:Int):∀(l:List ac) (k:Int),NumL (numV n k l) l
 | [],_=>.nil
 | b::r,k=>by
  rw[numV]
  refine .cons ?_ (NumL.of n r _)
  unfold numB
  split
  ·rename_i h
   simp only[Bool.and_eq_true,Bool.not_eq_true']at h
   exact .inr ⟨h,_,rfl⟩
  ·exact .inl rfl
theorem NumL.split:∀(X:List ac) {A Y:List ac},NumL A (X++Y)→∃A1 A2,A=A1++A2∧NumL A1 X∧NumL A2 Y
 | [],A,Y,h=>⟨[],A,rfl,.nil,h⟩
 | x::X,A,Y,h=>by
  cases h with
  | cons h1 t =>
   obtain⟨A1,A2,e,g1,g2⟩:=NumL.split X t
   exact⟨_::A1,A2,by rw[e];rfl,.cons h1 g1,g2⟩
theorem NumL.one{A:List ac}{x:ac}(h:NumL A [x]):∃y,A=[y]∧Num y x:=by
 cases h with
 | cons h1 t=>cases t with | nil=>exact⟨_,rfl,h1⟩
theorem NumL.len{A X:List ac}(h:NumL A X):A.length=X.length:=by
 induction h with
 | nil=>rfl
 | cons h1 t ih=>simp[ih]
theorem Num.has{b' b:ac}(h:Num b' b){x:Int}:hasV b' 77 x=hasV b 77 x:=by
 rcases h with rfl | ⟨_,v,rfl⟩
 ·rfl
 ·simp[hasV]
theorem Num.let{b' b:ac}(h:Num b' b):letV b' 79=letV b 79:=by
 rcases h with rfl | ⟨_,v,rfl⟩
 ·rfl
 ·simp[letV]
theorem Num.len{b' b:ac}(h:Num b' b)(hl:b.Words.length≤7):b'.Words.length≤8:=by
 rcases h with rfl | ⟨_,v,rfl⟩
 ·omega
 ·simp;omega
def bareB(b:ac):ac:=⟨b.Skip,b.Words.filter (λw=>w.Letter != 78),b.Comment⟩
theorem Num.bare{b' b:ac}(h:Num b' b):bareB b'=bareB b:=by
 rcases h with rfl | ⟨_,v,rfl⟩
 ·rfl
 ·simp[bareB]
theorem Num.free{b' b:ac}(h:Num b' b)(hs:StdB b∨b=callB):FreeB b':=by
 rcases hs with hs | rfl
 ·exact⟨by have:=h.len hs.1;unfold fewB;omega,by rw[h.let];exact hs.let.1,by rw[h.has];exact hs.has (by omega),by rw[h.has];exact hs.has (by omega)⟩
 ·exact⟨by have:=h.len (by simp[callB]);unfold fewB;omega,by rw[h.let];rfl,by rw[h.has];rfl,by rw[h.has];rfl⟩
theorem Num.end{b':ac}(h:Num b' endBB):EndB b':=⟨by have:=h.len (by simp[endBB,markB]);unfold fewB;omega,by rw[h.let];rfl,by rw[h.has];rfl,by rw[h.has];rfl⟩
end Go.Proofs.YtplhejpjnfjopaaGreatDoor
