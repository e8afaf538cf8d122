/- part 39 of the proof -/
import Derived.Test.YteliegkcmjimoaaGreatDoorV37
set_option linter.all false
open Go Go.Abs Go.Proofs
set_option maxRecDepth 100000
namespace Go.Rd
set_option maxHeartbeats 8000000
open List (map_cons map_nil)
open Nat (le_succ)
open Tryz
theorem iQ:prog.cellsOf 3=1:=by kernel_rfl
theorem sz9:prog.cellsOf 9=1:=by kernel_rfl
theorem Afn:prog.cellsOf 22=1:=by kernel_rfl
theorem Afo:prog.cellsOf 23=1:=by kernel_rfl
theorem AfC:prog.cellsOf 71=1:=by kernel_rfl
theorem Afx:prog.cellsOf 62=1:=by kernel_rfl
theorem Afy:prog.cellsOf 63=1:=by kernel_rfl
theorem Ab0:prog.cellsOf 51=3:=by kernel_rfl
theorem AfA:prog.cellsOf 68=2:=by kernel_rfl
theorem AfB:prog.cellsOf 70=3:=by kernel_rfl
theorem AfD:prog.cellsOf 73=5:=by kernel_rfl
theorem Afw:prog.cellsOf 61=4:=by kernel_rfl
theorem Afz:prog.cellsOf 65=8:=by kernel_rfl
theorem AfE:prog.cellsOf 75=9:=by kernel_rfl
theorem Adm:prog.cellsOf 119=5:=by kernel_rfl
theorem Adn:prog.cellsOf 121=7:=by kernel_rfl
theorem Afp:prog.cellsOf 25=2:=by kernel_rfl
def cz3(N:Nat):L3 prog N 3 (λn:Int=>[I n]):=(yj (k:=.i64) (by kernel_rfl)).toN N
def cz9(N:Nat):L3 prog N 9 (λs:Bs=>[.v (.string (str s))]):=((xx (by kernel_rfl)).toN N).map λs=>⟨s.toList,by
 have:str s.toList=s:=by
  have h:s=str s.data.toList:=rfl;rw[h,cV]
 rw[this]⟩
def Aax(N:Nat):L3 prog N 51 Ad.c:=(L3.mono (Aas (l:=[(3,0),(3,1),(3,2)]) (by kernel_rfl) (by simp only[map_cons,map_nil,List.sum_cons,List.sum_nil,Ab0,iQ];rfl) (vA (cz3 N) iQ (vA (cz3 N) iQ (vA (cz3 N) iQ xa)))) (le_succ N)).map fun(a,b,c,_)=>⟨⟨a,b,c⟩,rfl⟩
def AaB(N:Nat):L3 prog N 68 BO.c:=(L3.mono (Aas (l:=[(3,0),(3,1)]) (by kernel_rfl) (by simp only[map_cons,map_nil,List.sum_cons,List.sum_nil,AfA,iQ];rfl) (vA (cz3 N) iQ (vA (cz3 N) iQ xa))) (le_succ N)).map fun(a,b,_)=>⟨⟨a,b⟩,rfl⟩
def AaE(N:Nat):L3 prog N 119 AX.c:=(L3.mono (Aas (l:=[(51,0),(68,3)]) (by kernel_rfl) (by simp only[map_cons,map_nil,List.sum_cons,List.sum_nil,Adm,Ab0,AfA];rfl) (vA (Aax N) Ab0 (vA (AaB N) AfA xa))) (le_succ N)).map fun(a,b,_)=>⟨⟨a,b⟩,rfl⟩
def AaM(N:Nat):L3 prog N 121 Ba.c:=(L3.mono (Aas (l:=[(51,0),(68,3),(3,5),(3,6)]) (by kernel_rfl) (by simp only[map_cons,map_nil,List.sum_cons,List.sum_nil,Adn,Ab0,AfA,iQ];rfl) (vA (Aax N) Ab0 (vA (AaB N) AfA (vA (cz3 N) iQ (vA (cz3 N) iQ xa))))) (le_succ N)).map fun(a,b,c,d,_)=>⟨⟨a,b,c,d⟩,rfl⟩
def Abl(N:Nat):L3 prog N 61 Bo.c:=(L3.mono (Aas (l:=[(9,0),(3,1),(3,2),(3,3)]) (by kernel_rfl) (by simp only[map_cons,map_nil,List.sum_cons,List.sum_nil,Afw,sz9,iQ];rfl) (vA (cz9 N) sz9 (vA (cz3 N) iQ (vA (cz3 N) iQ (vA (cz3 N) iQ xa))))) (le_succ N)).map fun(a,b,c,d,_)=>⟨⟨a,b,c,d⟩,rfl⟩
def Abm(N:Nat):L3 prog N 62 (λl:List AX=>[AY l]):=L3.mono (sA (AaE N) (by kernel_rfl) Adm (by omega)) (le_succ N)
def AaN(N:Nat):L3 prog N 63 (λl:List Ba=>[BZ l]):=L3.mono (sA (AaM N) (by kernel_rfl) Adn (by omega)) (le_succ N)
def Abn(N:Nat):L3 prog N 65 Queue.c:=(L3.mono (Aas (l:=[(61,0),(62,4),(63,5),(63,6),(3,7)]) (by kernel_rfl) (by simp only[map_cons,map_nil,List.sum_cons,List.sum_nil,Afz,Afw,Afx,Afy,iQ];rfl) (vA (Abl N) Afw (vA (Abm N) Afx (vA (AaN N) Afy (vA (AaN N) Afy (vA (cz3 N) iQ xa)))))) (le_succ N)).map fun(a,b,c,d,e,_)=>⟨⟨a,b,c,d,e⟩,rfl⟩
def Abp(N:Nat):L3 prog N 70 Atom.c:=(L3.mono (Aas (l:=[(9,0),(68,1)]) (by kernel_rfl) (by simp only[map_cons,map_nil,List.sum_cons,List.sum_nil,AfB,sz9,AfA];rfl) (vA (cz9 N) sz9 (vA (AaB N) AfA xa))) (le_succ N)).map fun(a,b,_)=>⟨⟨a,b⟩,rfl⟩
def AaR:∀ N:Nat,L3 prog N 73 Expr.c
 | 0=>vB
 | N+1=>(Aas (l:=[(3,0),(70,1),(71,4)]) (by kernel_rfl) (by simp only[map_cons,map_nil,List.sum_cons,List.sum_nil,AfD,iQ,AfB,AfC];rfl) (vA (cz3 N) iQ (vA (Abp N) AfB (vA (L3.mono (sA (AaR N) (by kernel_rfl) AfD (by omega)) (le_succ N)) AfC xa)))).map fun(a,b,c,_)=>⟨.mk a b c,by rw[Expr.Cf];rfl⟩
def Abr(N:Nat):L3 prog N 75 Need.c:=(L3.mono (Aas (l:=[(51,0),(73,3),(3,8)]) (by kernel_rfl) (by simp only[map_cons,map_nil,List.sum_cons,List.sum_nil,AfE,Ab0,AfD,iQ];rfl) (vA (Aax N) Ab0 (vA (AaR N) AfD (vA (cz3 N) iQ xa)))) (le_succ N)).map fun(a,b,c,_)=>⟨⟨a,b,c⟩,by simp only[Need.c,Expr.Cf];rfl⟩
def Abb(N:Nat):L3 prog N 22 (λl:List Queue=>[AW l]):=L3.mono (sA (Abn N) (by kernel_rfl) Afz (by omega)) (le_succ N)
def Abc(N:Nat):L3 prog N 23 (λl:List Need=>[MP l]):=L3.mono (sA (Abr N) (by kernel_rfl) AfE (by omega)) (le_succ N)
def Abd(N:Nat):L3 prog N 25 WS.c:=(L3.mono (Aas (l:=[(22,0),(23,1)]) (by kernel_rfl) (by simp only[map_cons,map_nil,List.sum_cons,List.sum_nil,Afp,Afn,Afo];rfl) (vA (Abb N) Afn (vA (Abc N) Afo xa))) (le_succ N)).map fun(a,b,_)=>⟨⟨a,b⟩,rfl⟩
theorem AaC:Arg prog 25 (λs:WS=>.agg s.c) (λ_=>0) (λ_=>True):=Aca (l:=[(22,0),(23,1)]) Abd (by kernel_rfl)
def AaD:Arg prog 26 (λl:List Ad=>AA l) (λ_=>0) (λ_=>True):=(pM (L3.AdC Aax) (n:=3) (by kernel_rfl) Ab0 (by omega)).map λa _=>⟨a,trivial,by simp,rfl⟩
def Aaz:Arg prog 27 (λl:List Int=>JN l) (λl=>(l.map λ_=>1).sum+1) (λl=>∀ x∈l,(Lit.int .i64 x).wf=true):=pM (yj (t:=3) (by kernel_rfl)) (n:=1) (by kernel_rfl) (by kernel_rfl) (by omega)
def rows:List (List Bool):=[[true,true,true,true,false],[true,true,false,false,false],[true,false,true,false,false],[true,false,false,false,false],[false,false,false,false,false]]
def dbD{H:Type}:DataW H:=.agg (Go.Lib.deBruijn64tab.map λn=>.lit (.int .u8 (n:Nat)))
def Holds(W:World)(g:Nat)(cs:List AV):Prop:=0<cs.length/\BX (kr W) g/\Cu (BX (kr W)) W cs ⟨g,0,none⟩ 0
def holds_of{W:World}{g:Nat}{vs:Array Value}{cs:List AV}(hv:∀ i,W.cell? ⟨g,i,none⟩=vs[i]?)(hl:vs.toList.length=cs.length)(hp:0<cs.length)(h:B3 (BX (kr W)) W cs vs.toList):Holds W g cs:=by
 have Ec:0<vs.size:=by rw[<- Array.length_toList,hl];exact hp
 refine⟨hp,?_,Ut (us:=vs.toList) h λk _=>?_⟩
 ·have h0:=hv 0;rw[Array.getElem?_eq_getElem Ec]at h0;rw[T5];exact FK h0
 ·rw[Array.getElem?_toList,Nat.zero_add,<- hv k,add_lit,Nat.zero_add]
def Aaj{W:World}{p:List MemPlace}{cs:Array Value}{fuel:Nat}(AbD:W.var? prog "clusterlocks/mode.together" = some cs)(hd:DataW.trod (λ_=>()) prog W 0 (λ_=>true) false fuel 337 cs.toList=some (ze rows,p)):Holds W 1 tog:=by
 have h:=iG (n:=5) (m:=5) (e:=336) (b:=4) (by kernel_rfl) (by kernel_rfl) (by kernel_rfl) (by kernel_rfl) (by kernel_rfl) (by kernel_rfl) hd;refine holds_of (World.var?_cell (g:=1) (by kernel_rfl) AbD) (by rw[h];rfl) (by decide) ?_;rw[h];exact⟨⟨rfl,rfl⟩,⟨rfl,rfl⟩,⟨rfl,rfl⟩,⟨rfl,rfl⟩,⟨rfl,rfl⟩,⟨rfl,rfl⟩,⟨rfl,rfl⟩,⟨rfl,rfl⟩,⟨rfl,rfl⟩,⟨rfl,rfl⟩,⟨rfl,rfl⟩,⟨rfl,rfl⟩,⟨rfl,rfl⟩,⟨rfl,rfl⟩,⟨rfl,rfl⟩,⟨rfl,rfl⟩,⟨rfl,rfl⟩,⟨rfl,rfl⟩,⟨rfl,rfl⟩,⟨rfl,rfl⟩,⟨rfl,rfl⟩,⟨rfl,rfl⟩,⟨rfl,rfl⟩,⟨rfl,rfl⟩,⟨rfl,rfl⟩,trivial⟩
def AaU{W:World}{ro:Nat->Prop}:∀ l:List Nat,B3 ro W (l.map λn=>.v (.int .u8 (n:Nat))) (l.map λn=>Value.int .u8 (n:Nat))
 |[]=>trivial
 |_::l=>⟨⟨rfl,rfl⟩,AaU l⟩
def Aaw{W:World}{p:List MemPlace}{cs:Array Value}{fuel:Nat}(AbD:W.var? prog "math/bits.deBruijn64tab" = some cs)(hd:DataW.trod (λ_=>()) prog W 0 (λ_=>true) false fuel 210 cs.toList=some (dbD,p)):Holds W 0 sF:=by
 have h:cs.toList=Go.Lib.deBruijn64tab.map λn=>Value.int .u8 (n:Nat):=by
  have h1:=YK (n:=64) (e:=5) (f:=Go.Lib.deBruijn64tab.map λn=>[Value.int .u8 (n:Nat)]) (by kernel_rfl) (by kernel_rfl) hd (by simp) λi d c hd hc fuel Mp p' hx=>by
   rw[gm]at hd hc;cases hr:Go.Lib.deBruijn64tab[i]? with
   |none=>rw[hr]at hd;cases hd
   |some v =>
    rw[hr]at hd hc;simp at hd hc;subst hd;subst hc;obtain⟨n,rfl,h2,_⟩:=DataW.trod_int (k:=.u8) (by kernel_rfl) hx;simp at h2;rw[h2.1]
  rw[h1];generalize Go.Lib.deBruijn64tab=l
  induction l with
  | nil=>rfl
  | cons x l ih=>simp only[map_cons,List.flatten_cons,List.singleton_append,ih]
 refine holds_of (World.var?_cell (g:=0) (by kernel_rfl) AbD) (by rw[h];rfl) (by decide) ?_;rw[h];exact AaU _
def Aao{W:World}(h1:Holds W 1 tog)(h2:Holds W 0 sF):Glob C0 (kr W) W:=by
 intro i cs hi;simp only at hi;split at hi
 ·rename_i h;simp only[Option.some.injEq]at hi;rw[h,<- hi];exact h1
 ·split at hi
  ·rename_i h;simp only[Option.some.injEq]at hi;rw[h,<- hi];exact h2
  ·cases hi
def AaW{W:World}{rest:List (String × DataW Unit)}(h:laidMet prog (("clusterlocks/mode.together",ze rows)::("math/bits.deBruijn64tab",dbD)::rest) W):Glob C0 (kr W) W:=by
 obtain⟨ps,⟨g,t,cs,fuel,p,q,hg,ht,AbD,hd,⟨g2,t2,cs2,AcT,p2,q2,eM,GP,AaX,bS,_,_⟩,_⟩,_⟩:=h;obtain rfl:g=1:=Option.some.inj (hg.symm.trans (show prog.globalNamed "clusterlocks/mode.together" = some 1 by kernel_rfl));obtain rfl:t=337:=Option.some.inj (ht.symm.trans (show (prog.globals[1]?).map (·.type)=some 337 by kernel_rfl));obtain rfl:g2=0:=Option.some.inj (eM.symm.trans (show prog.globalNamed "math/bits.deBruijn64tab" = some 0 by kernel_rfl));obtain rfl:t2=210:=Option.some.inj (GP.symm.trans (show (prog.globals[0]?).map (·.type)=some 210 by kernel_rfl));exact Aao (Aaj AbD hd) (Aaw AaX bS)
end Go.Rd
