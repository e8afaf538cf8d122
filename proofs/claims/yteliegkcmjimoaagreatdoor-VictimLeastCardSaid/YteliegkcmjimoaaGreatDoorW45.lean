/- part 45 of the proof -/
import Derived.Test.YteliegkcmjimoaaGreatDoorW41
set_option linter.all false
open Go Go.Abs Go.Proofs
set_option maxRecDepth 100000
namespace Go.Rd
set_option maxHeartbeats 8000000
open Nat (le_succ)
open Tryz
theorem VF:prog.cellsOf 3=1:=by kernel_rfl
theorem sz9:prog.cellsOf 9=1:=by kernel_rfl
theorem Acl:prog.cellsOf 22=1:=by kernel_rfl
theorem Acm:prog.cellsOf 23=1:=by kernel_rfl
theorem Acr:prog.cellsOf 71=1:=by kernel_rfl
theorem Acp:prog.cellsOf 62=1:=by kernel_rfl
theorem yh:prog.cellsOf 63=1:=by kernel_rfl
theorem UY:prog.cellsOf 51=3:=by kernel_rfl
theorem fN:prog.cellsOf 68=2:=by kernel_rfl
theorem tS:prog.cellsOf 70=3:=by kernel_rfl
theorem tT:prog.cellsOf 73=5:=by kernel_rfl
theorem yg:prog.cellsOf 61=4:=by kernel_rfl
theorem Acq:prog.cellsOf 65=8:=by kernel_rfl
theorem Acs:prog.cellsOf 75=9:=by kernel_rfl
theorem tQ:prog.cellsOf 119=5:=by kernel_rfl
theorem tR:prog.cellsOf 121=7:=by kernel_rfl
theorem AfO:prog.cellsOf 25=2:=by kernel_rfl
def gT(N:Nat):D8 prog N 3 (λn:Int=>[I n]):=(av (k:=.i64) (by simp)).toN N
def cz9(N:Nat):D8 prog N 9 (λs:Bs=>[.v (.string (str s))]):=((gN (by simp)).toN N).map λs=>⟨s.toList,by
 have:str s.toList=s:=by
  have h:s=str s.data.toList:=rfl;rw[h,XL]
 rw[this]⟩
def qw(N:Nat):D8 prog N 51 Ac.c:=(D8.mono (KC (l:=[(3,0),(3,1),(3,2)]) (by kernel_rfl) (by grind[UY,VF]) (Bm (gT N) VF (Bm (gT N) VF (Bm (gT N) VF Gz)))) (le_succ N)).map fun(a,b,c,_)=>⟨⟨a,b,c⟩,rfl⟩
def zY(N:Nat):D8 prog N 68 BR.c:=(D8.mono (KC (l:=[(3,0),(3,1)]) (by kernel_rfl) (by grind[fN,VF]) (Bm (gT N) VF (Bm (gT N) VF Gz))) (le_succ N)).map fun(a,b,_)=>⟨⟨a,b⟩,rfl⟩
def Ad2(N:Nat):D8 prog N 119 A9.c:=(D8.mono (KC (l:=[(51,0),(68,3)]) (by kernel_rfl) (by grind[tQ,UY,fN]) (Bm (qw N) UY (Bm (zY N) fN Gz))) (le_succ N)).map fun(a,b,_)=>⟨⟨a,b⟩,rfl⟩
def Ad3(N:Nat):D8 prog N 121 Bh.c:=(D8.mono (KC (l:=[(51,0),(68,3),(3,5),(3,6)]) (by kernel_rfl) (by simp_all[tR,UY,fN,VF]) (Bm (qw N) UY (Bm (zY N) fN (Bm (gT N) VF (Bm (gT N) VF Gz))))) (le_succ N)).map fun(a,b,c,d,_)=>⟨⟨a,b,c,d⟩,rfl⟩
def Ag5(N:Nat):D8 prog N 61 BE.c:=(D8.mono (KC (l:=[(9,0),(3,1),(3,2),(3,3)]) (by kernel_rfl) (by simp_all[yg,sz9,VF]) (Bm (cz9 N) sz9 (Bm (gT N) VF (Bm (gT N) VF (Bm (gT N) VF Gz))))) (le_succ N)).map fun(a,b,c,d,_)=>⟨⟨a,b,c,d⟩,rfl⟩
def Ag6(N:Nat):D8 prog N 62 (λl:List A9=>[Bg l]):=D8.mono (IQ (Ad2 N) (by simp) tQ (by omega)) (le_succ N)
def Ad4(N:Nat):D8 prog N 63 (λl:List Bh=>[Ct l]):=D8.mono (IQ (Ad3 N) (by simp) tR (by omega)) (le_succ N)
def Ag7(N:Nat):D8 prog N 65 Queue.c:=(D8.mono (KC (l:=[(61,0),(62,4),(63,5),(63,6),(3,7)]) (by kernel_rfl) (by simp_all[Acq,yg,Acp,yh,VF]) (Bm (Ag5 N) yg (Bm (Ag6 N) Acp (Bm (Ad4 N) yh (Bm (Ad4 N) yh (Bm (gT N) VF Gz)))))) (le_succ N)).map fun(a,b,c,d,e,_)=>⟨⟨a,b,c,d,e⟩,rfl⟩
def Ad5(N:Nat):D8 prog N 70 Atom.c:=(D8.mono (KC (l:=[(9,0),(68,1)]) (by kernel_rfl) (by grind[tS,sz9,fN]) (Bm (cz9 N) sz9 (Bm (zY N) fN Gz))) (le_succ N)).map fun(a,b,_)=>⟨⟨a,b⟩,rfl⟩
def Ad6:∀ N:Nat,D8 prog N 73 Expr.c
 | 0=>nc
 | N+1=>(KC (l:=[(3,0),(70,1),(71,4)]) (by kernel_rfl) (by grind[tT,VF,tS,Acr]) (Bm (gT N) VF (Bm (Ad5 N) tS (Bm (D8.mono (IQ (Ad6 N) (by simp) tT (by omega)) (le_succ N)) Acr Gz)))).map fun(a,b,c,_)=>⟨.mk a b c,by rw[Expr.Dg];rfl⟩
def Ag8(N:Nat):D8 prog N 75 Need.c:=(D8.mono (KC (l:=[(51,0),(73,3),(3,8)]) (by kernel_rfl) (by grind[Acs,UY,tT,VF]) (Bm (qw N) UY (Bm (Ad6 N) tT (Bm (gT N) VF Gz)))) (le_succ N)).map fun(a,b,c,_)=>⟨⟨a,b,c⟩,by simp only[Need.c,Expr.Dg];rfl⟩
def Ag1(N:Nat):D8 prog N 22 (λl:List Queue=>[AN l]):=D8.mono (IQ (Ag7 N) (by simp) Acq (by omega)) (le_succ N)
def Ag2(N:Nat):D8 prog N 23 (λl:List Need=>[Io l]):=D8.mono (IQ (Ag8 N) (by simp) Acs (by omega)) (le_succ N)
def Ag3(N:Nat):D8 prog N 25 WS.c:=(D8.mono (KC (l:=[(22,0),(23,1)]) (by kernel_rfl) (by grind[AfO,Acl,Acm]) (Bm (Ag1 N) Acl (Bm (Ag2 N) Acm Gz))) (le_succ N)).map fun(a,b,_)=>⟨⟨a,b⟩,rfl⟩
theorem AdQ:Arg prog 25 (λs:WS=>.agg s.c) (λ_=>0) (λ_=>True):=AdT (l:=[(22,0),(23,1)]) Ag3 (by kernel_rfl)
def AiM:Arg prog 26 (λl:List Ac=>AL l) (λ_=>0) (λ_=>True):=(SB (D8.zG qw) (n:=3) (by simp) UY (by omega)).map λa _=>⟨a,trivial,by simp,rfl⟩
def jR:Arg prog 27 (λl:List Int=>Ju l) (λl=>(l.map λ_=>1).sum+1) (λl=>∀ x∈l,(Lit.int .i64 x).wf=true):=SB (av (t:=3) (by simp)) (n:=1) (by simp) (by kernel_rfl) (by omega)
def AdS:Arg prog 39 (λn:Int=>.v (.int .u16 n)) (λ_=>1) (λn=>(Lit.int .u16 n).wf=true):=uQ (by simp)
theorem Acn:prog.cellsOf 52=1:=by kernel_rfl
theorem Aco:prog.cellsOf 54=6:=by kernel_rfl
def Ag4(N:Nat):D8 prog N 54 C1.c:=(D8.mono (KC (l:=[(51,0),(3,3),(3,4),(52,5)]) (by kernel_rfl) (by simp_all[Aco,UY,VF,Acn]) (Bm (qw N) UY (Bm (gT N) VF (Bm (gT N) VF (Bm (D8.mono (IQ (Ad5 N) (by simp) tS (by omega)) (le_succ N)) Acn Gz))))) (le_succ N)).map fun(a,b,c,d,_)=>⟨⟨a,b,c,d⟩,rfl⟩
def AdR:Arg prog 38 (λl:List C1=>Cw l) (λ_=>0) (λ_=>True):=(SB (D8.zG Ag4) (n:=6) (by simp) Aco (by omega)).map λa _=>⟨a,trivial,by simp,rfl⟩
def rows:List (List Bool):=[[true,true,true,true,false],[true,true,false,false,false],[true,false,true,false,false],[true,false,false,false,false],[false,false,false,false,false]]
def dbD{H:Type}:DataW H:=.agg (Go.Lib.deBruijn64tab.map λn=>.lit (.int .u8 (n:Nat)))
def Holds(W:World)(g:Nat)(cs:List AV):Prop:=0<cs.length/\CK (nJ W) g/\EG (CK (nJ W)) W cs ⟨g,0,none⟩ 0
def holds_of{W:World}{g:Nat}{vs:Array Value}{cs:List AV}(hv:∀ i,W.cell? ⟨g,i,none⟩=vs[i]?)(hl:vs.toList.length=cs.length)(hp:0<cs.length)(h:CR (CK (nJ W)) W cs vs.toList):Holds W g cs:=by
 have Hb:0<vs.size:=by grind
 refine⟨hp,?_,Xn (us:=vs.toList) h λk _=>?_⟩
 ·have h0:=hv 0;rw[Array.getElem?_eq_getElem Hb]at h0;rw[WN];exact GM h0
 simp_all[add_lit]
theorem oe{W:World}{p:List MemPlace}{cs:Array Value}{fuel:Nat}(xo:W.var? prog "clusterlocks/mode.together" = some cs)(hd:DataW.trod (λ_=>()) prog W 0 (λ_=>true) false fuel 337 cs.toList=some (Acu rows,p)):Holds W 1 tog:=by
 have h:=pn (n:=5) (m:=5) (e:=336) (b:=4) (by simp) (by simp) (by simp) (by kernel_rfl) (by kernel_rfl) (by kernel_rfl) hd;refine holds_of (World.var?_cell (g:=1) (by kernel_rfl) xo) (by rw[h];rfl) (by decide) ?_;rw[h];exact⟨⟨rfl,rfl⟩,⟨rfl,rfl⟩,⟨rfl,rfl⟩,⟨rfl,rfl⟩,⟨rfl,rfl⟩,⟨rfl,rfl⟩,⟨rfl,rfl⟩,⟨rfl,rfl⟩,⟨rfl,rfl⟩,⟨rfl,rfl⟩,⟨rfl,rfl⟩,⟨rfl,rfl⟩,⟨rfl,rfl⟩,⟨rfl,rfl⟩,⟨rfl,rfl⟩,⟨rfl,rfl⟩,⟨rfl,rfl⟩,⟨rfl,rfl⟩,⟨rfl,rfl⟩,⟨rfl,rfl⟩,⟨rfl,rfl⟩,⟨rfl,rfl⟩,⟨rfl,rfl⟩,⟨rfl,rfl⟩,⟨rfl,rfl⟩,trivial⟩
def Aea{W:World}{ro:Nat->Prop}:∀ l:List Nat,CR ro W (l.map λn=>.v (.int .u8 (n:Nat))) (l.map λn=>Value.int .u8 (n:Nat))
 |[]=>trivial
 |_::l=>⟨⟨rfl,rfl⟩,Aea l⟩
theorem rQ{W:World}{p:List MemPlace}{cs:Array Value}{fuel:Nat}(xo:W.var? prog "math/bits.deBruijn64tab" = some cs)(hd:DataW.trod (λ_=>()) prog W 0 (λ_=>true) false fuel 210 cs.toList=some (dbD,p)):Holds W 0 u7:=by
 have h:cs.toList=Go.Lib.deBruijn64tab.map λn=>Value.int .u8 (n:Nat):=by
  have h1:=VM (n:=64) (e:=5) (f:=Go.Lib.deBruijn64tab.map λn=>[Value.int .u8 (n:Nat)]) (by simp) (by kernel_rfl) hd (by simp) λi d c hd hc fuel N7 p' hx=>by
   rw[gm]at hd hc;cases hr:Go.Lib.deBruijn64tab[i]? with
   |none=>grind
   |some v =>
    rw[hr]at hd hc;simp at hd hc;subst hd;subst hc;obtain⟨n,rfl,h2,_⟩:=DataW.trod_int (k:=.u8) (by simp) hx;grind
  rw[h1];generalize Go.Lib.deBruijn64tab=l
  induction l with
  | nil=>rfl
  | cons x l ih=>simp[ih]
 refine holds_of (World.var?_cell (g:=0) (by kernel_rfl) xo) (by rw[h];rfl) (by decide) ?_;rw[h];exact Aea _
theorem ru{W:World}(h1:Holds W 1 tog)(h2:Holds W 0 u7):Glob C0 (nJ W) W:=by
 intro i cs hi;simp only at hi;split at hi
 ·rename_i h;simp at hi;rw[h,<- hi];exact h1
 ·split at hi
  ·rename_i h;simp at hi;rw[h,<- hi];exact h2
  grind
def lE{W:World}{rest:List (String × DataW Unit)}(h:laidMet prog (("clusterlocks/mode.together",Acu rows)::("math/bits.deBruijn64tab",dbD)::rest) W):Glob C0 (nJ W) W:=by
 obtain⟨ps,⟨g,t,cs,fuel,p,q,hg,ht,xo,hd,⟨g2,t2,cs2,Ai4,p2,q2,iE,IE,AjZ,cj,_,_⟩,_⟩,_⟩:=h;obtain rfl:g=1:=Option.some.inj (hg.symm.trans (show prog.globalNamed "clusterlocks/mode.together" = some 1 by kernel_rfl));obtain rfl:t=337:=Option.some.inj (ht.symm.trans (show (prog.globals[1]?).map (·.type)=some 337 by kernel_rfl));obtain rfl:g2=0:=Option.some.inj (iE.symm.trans (show prog.globalNamed "math/bits.deBruijn64tab" = some 0 by kernel_rfl));obtain rfl:t2=210:=Option.some.inj (IE.symm.trans (show (prog.globals[0]?).map (·.type)=some 210 by kernel_rfl));grind[ru,oe,rQ]
end Go.Rd
