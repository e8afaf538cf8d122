/- part 19 of the proof -/
import Derived.Test.YthachdiockkofaaGreatDoorW18
set_option linter.all false
open Go Go.Abs Go.Proofs
set_option maxRecDepth 100000
namespace Go.Rd
set_option maxHeartbeats 8000000
open List (take_add_one take_length)
open Tryz
theorem f24_ok(l m:List Ae)(hl:l.length≤1000000)(hm:m.length≤1000000):Ad C0 24 [Ax l,Ax m] [] (B (decide (l=m))) []:=by
 refine Ad.go f24 ?_;unfold f24
 by_cases hn:l.length=m.length
 rotate_left
 ·have e1:((l.length:Int) !=m.length)=true:=by simp only[bne_iff_ne,ne_eq];omega
  have e2:l≠m:=fun h=>hn (by rw[h])
  simp(disch:=omega)only[go_sem,e1];refine Ap _ ?_;exact wb (by simp[e2])
 have e1:((l.length:Int) !=m.length)=false:=by simp[hn]
 simp(disch:=omega)only[go_sem,e1];refine Ab (α:=Nat) (fun i=>⟨[(5,I i),(0,Ax l),(1,Ax m)],[]⟩) (fun i=>i≤(l).length∧l.take i=m.take i) (fun i=>(l).length-i) 0 ⟨by omega,rfl⟩ ?_ ?_
 ·exact BB
 rintro i ⟨hi,hP⟩ J hJ;refine gO ?_;refine ⟨fun hlt=>?_,fun hge=>?_⟩;rotate_left;have hil:i=(l).length:=by simp at hge;omega
 rotate_left;obtain⟨b,hb⟩:∃ b,(l)[i]?=some b:=⟨_,gE (by simp at hlt;omega)⟩;have hbm:=mG hb;have hlt2:i<(l).length:=by simp at hlt;omega
 refine Aq 8 [([],[0]),([],[5]),([],[17,18]),([],[19]),([],[1]),([],[5]),([],[21,22]),([],[23])] fol ?_;simp(disch:=omega)only[go_sem,gm,hb]
 ·obtain⟨c,hc⟩:∃ c,m[i]?=some c:=⟨_,gE (by omega)⟩;simp(disch:=omega)only[go_sem,gm,hb,hc]
  by_cases hbc:b=c
  ·simp(disch:=omega)only[go_sem,hbc,decide_true];refine hJ _ (i+1) ⟨by simp at hlt;omega,(by rw[take_add_one,take_add_one,hb,hc,hP,hbc])⟩ (by simp at hlt;omega) AR
  ·simp(disch:=omega)only[go_sem,hbc,decide_false];refine Ap _ ?_;refine wb ?_;have:l≠m:=fun h=>hbc (by rw[h,hc]at hb;simpa using hb.symm)
   simp[this]
 ·subst hil;rw[take_length,hn,take_length]at hP;refine Ap _ ?_;exact wb (by simp[hP])
def ae(q:Queue):Bool:=decide (q.holds.length≤12)&&decide (q.An.length≤12)&&decide (q.waits.length≤12)
def af(s:WS):Bool:=decide (s.Aa.length≤12)&&decide (s.Ao.length≤12)&&s.Aa.all ae
theorem Yu{s:WS}(h:af s=true):Few s:=by
 simp only[af,ae,Bool.and_eq_true,decide_eq_true_eq,List.all_eq_true]at h;refine⟨by omega,by omega,fun q hq=>?_⟩;have:=h.2 q hq;unfold BC BQ;omega
def Pj(n m:Int):Int:=if m<1 then 0 else if n.tmod m<0 then n.tmod m+m else n.tmod m
theorem cX(n:Int):0≤Pj n 8∧Pj n 8<8:=by
 have h1:=Int.tmod_lt_of_pos n (show (0:Int)<8 by decide);have h2:-8<n.tmod 8:=by
  rw[Int.tmod_eq_emod];split<;>omega
 unfold Pj;rw[if_neg (by decide)];split<;>omega
theorem eM(n:Int):Ad C0 51 [I n,I 8] [] (I (Pj n 8)) []:=by
 have z:((8:Int)=0)=False:=by simp
 have z2:((8:Int)<1)=False:=by simp
 have h1:=Int.tmod_lt_of_pos n (show (0:Int)<8 by decide);have h2:-8<n.tmod 8:=by
  rw[Int.tmod_eq_emod];split<;>omega
 refine Ad.go f51 ?_;unfold f51
 by_cases h:n.tmod 8<0
 ·have e:Pj n 8=n.tmod 8+8:=by simp[Pj,h]
  have z3:(n.tmod 8<0)=True:=eq_true h;simp(disch:=omega)only[go_sem,z,z2,if_false,decide_false,z3,e];exact AE _
 ·have e:Pj n 8=n.tmod 8:=by simp[Pj,h]
  have z3:(n.tmod 8<0)=False:=eq_false h;simp(disch:=omega)only[go_sem,z,z2,if_false,decide_false,z3,e];exact AE _
def FP(n:Int):Ae:=⟨(Pj n 8).tmod 4,1,1+(Pj n 8).tdiv 4⟩
theorem f22_ok(n:Int):Ad C0 22 [I n] [] (.agg (FP n).c) []:=by
 have z:((4:Int)=0)=False:=by simp
 have hm:=cX n;have hd:0≤(Pj n 8).tdiv 4∧(Pj n 8).tdiv 4≤2:=by
  rw[Int.tdiv_eq_ediv_of_nonneg hm.1];omega
 refine Ad.go f22 ?_;unfold f22;refine gO ?_;refine Ac (eM n) ?_;simp(disch:=omega)only[go_sem,z,if_false];refine Ap _ ?_;simp(disch:=omega)only[go_sem,FP]
def wA:Amt:=⟨5,0⟩
def Nd(name:Bs)(p q:Ae):Queue:=⟨⟨name,1,1,0⟩,[⟨p,wA⟩],[],[⟨q,wA,0,0⟩],0⟩
def QG(p:Ae)(name:Bs):Need:=⟨p,.mk 0 ⟨name,wA⟩ [],0⟩
def DG:WS:=⟨[Nd [97] (FP 0) (FP 1),Nd [98] (FP 1) (FP 0)],[QG (FP 0) [98],QG (FP 1) [97]]⟩
theorem aG:Few wsE:=⟨by simp[wsE],by simp[wsE],by simp[wsE]⟩
theorem FY{s:WS}(h:Few s)(l:List Ae):Few (AP s l).1:=by
 unfold AP;split
 ·exact Lp h l
 ·exact aG
end Go.Rd
