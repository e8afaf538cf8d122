/- part 23 of the proof -/
import Derived.Test.YteliegkcmjimoaaGreatDoorW22
set_option linter.all false
open Go Go.Abs Go.Proofs
set_option maxRecDepth 100000
namespace Go.Rd
set_option maxHeartbeats 8000000
open List (nil_append)
open Nat (le_trans)
open Tryz
def EK(t:List Queue)(p:Ac)(a:Atom)(prio:Int):List Queue × List Ev × Int:=if !IH t then ([],[],2) else match CG t a.name with
 |none=>([],[],10)
 |some i=>if decide ((AM t).length=8)&&!Br (AM t) p then ([],[],4) else if (BA (t.getD i q0) p a.AH prio).2.2 !=0 then ([],[],(BA (t.getD i q0) p a.AH prio).2.2) else (t.set i (BA (t.getD i q0) p a.AH prio).1,Dy a.name (BA (t.getD i q0) p a.AH prio).2.1,0)
def Du(t:List Queue)(p:Ac)(name:Bs):List Queue × List Ev × Int:=if !IH t then ([],[],2) else match CG t name with
 |none=>([],[],10)
 |some i=>if (Bd (t.getD i q0) p).2.2 !=0 then ([],[],(Bd (t.getD i q0) p).2.2) else (t.set i (Bd (t.getD i q0) p).1,Dy name (Bd (t.getD i q0) p).2.1,0)
def BH(t:List Queue)(p:Ac)(a:Atom):List Queue × List Ev × Int:=if !IH t then ([],[],2) else match CG t a.name with
 |none=>([],[],10)
 |some i=>if (AD (t.getD i q0) p a.AH).2.2 !=0 then ([],[],(AD (t.getD i q0) p a.AH).2.2) else (t.set i (AD (t.getD i q0) p a.AH).1,(if decide (Am (t.getD i q0).holds p=a.AH) then [] else [⟨3,p,a.name,a.AH⟩])++Dy a.name (AD (t.getD i q0) p a.AH).2.1,0)
def cC:∀ (n:Nat) (q:Queue),(aa n q).2.length<=n
 | 0,q=>by simp[aa]
 | n+1,q=>by
  unfold aa;cases BZ q with
  |none=>simp
  |some w =>
   simp only;split
   ·have:=cC n (DH q w);simp;omega
   ·simp
theorem U1(q:Queue):(Co q).2.length<=B7 q:=cC _ q
def TO(q:Queue)(p:Ac):(Bd q p).2.1.length<=BS q:=by grind[U1,Dw,Cq,B7,Bd,BS]
def W5(q:Queue)(p:Ac)(a:BR):(AD q p a).2.1.length<=BS q:=by grind[U1,Hc,B7,AD,BS]
def VY(q:Queue)(p:Ac)(a:BR)(prio:Int):(BA q p a prio).2.1.length<=BS q+1:=by grind[U1,HJ,Ik,B7,Xs,BA,BS]
theorem fc(q:Queue)(p:Ac):(Ge q p).2.1.length<=BS q:=by grind[U1,B8,Cq,B7,Ge,BS]
def ln(t:List Queue)(p:Ac)(name:Bs)(h:Fa t):Ad C0 296 [AN t,.agg p.c,.v (.string (str name))] [] (.BC [AN (Du t p name).1,dh (Du t p name).2.1,I (Du t p name).2.2]) []:=by
 have hn:=h.n;refine Ad.go f296 ?_;unfold f296;refine gO ?_;refine Ab (Rw t h) ?_;cases ht:IH t
 ·have e:Du t p name=([],[],2):=by simp[Du,ht]
  refine gS ?_;exact Gw _
 refine gO ?_;refine Ab (IT t name (by omega)) ?_;cases hf:CG t name with
 |none =>
  have e:Du t p name=([],[],10):=by grind[Du]
  simp only[go_sem,e,XZ];exact Gw _
 |some i =>
 obtain⟨hi,b,hb,_⟩:=D2 hf;have hg:t.getD i q0=b:=by grind
 have e:Du t p name=if (Bd b p).2.2 !=0 then ([],[],(Bd b p).2.2) else (t.set i (Bd b p).1,Dy name (Bd b p).2.1,0):=by grind[Du]
 rw[e];have hq:=qW b p (h.q b (mG hb));have WE:(Bd b p).2.1.length<=1000000:=le_trans (TO b p) (le_trans (h.q b (mG hb)) (by omega));generalize Bd b p=R at hq WE;obtain⟨q',g,x⟩:=R;simp only at hq WE;simp only[go_sem,XZ,eq_false (show ¬ ((i:Int)<0) by omega)];refine Dj 16383 [(0,1,0),(1,2,0),(2,4,3),(3,8,4),(4,16,0),(5,32,24),(6,64,32),(7,128,64),(8,256,64),(9,512,64),(10,1024,0),(11,2048,1279),(12,4096,3583),(13,8192,8191)] [0,1,2,16,1024,3,17,1025,18,1026,1040,7,19,1027,1041,1042,15,23,1031,1043,31,1039,1047,63,1055,127,1087,255,383,639,1151,511,767,1279,895,1407,1663,1023,1535,1791,3327,1919,2047,3583,3839,4095,7679,8191,16383] (λm=>⟨XE m [(1,22,AN t),(2,23,I i),(4,24,.ep .no i b.c 0),(8,25,.agg b.c),(16,26,.agg p.c),(32,27,.BC [.agg q'.c,Bg g,I x]),(64,21,.BC [.agg q'.c,Bg g,I x]),(128,28,.agg q'.c),(256,29,Bg g),(512,30,I x),(1024,10,.ptr 640 0),(4096,11,Bg g),(8192,12,I x)]++[(9,I i),(0,AN t),(4,.ptr 256 0),(2,.v (.string (str name)))],((if m / 1024%2=1 then [(640,(if m / 2048%2=1 then q'.c else q0.c))] else [])++[(256,p.c)])⟩) ?_ ?_ ?_ B6
 ·exact AK
 ·simp (maxSteps:=100000000)only[Di,Dh,D0,DZ,and_true,Nat.reduceDiv,Nat.reduceMod,Nat.reduceAnd,Nat.reduceEqDiff,reduceIte,true_and,and_false,and_self]
  repeat'(with_reducible refine And.intro ?_ ?_)
  all_goals simp(disch:=omega)only[go_sem,gm,hb,nil_append,q0]
  all_goals first|exact AT.Aq gI (by simp(disch:=omega)only[go_sem])|(refine Ab hq ?_;simp(disch:=omega)only[go_sem];exact AT.Aq gI (by simp(disch:=omega)only[go_sem]))
 cases hx:(x !=0);rotate_left
 ·simp only[go_sem,hx];exact Gw _
 simp only[go_sem,hx];refine Ab (RD t i q' hn hi) (gO ?_);refine Ab (PA name g WE) (gO ?_);exact AQ _
def kY(t:List Queue)(p:Ac)(a:Atom)(prio:Int)(h:Fa t):Ad C0 268 [AN t,.agg p.c,.agg a.c,I prio] [] (.BC [AN (EK t p a prio).1,dh (EK t p a prio).2.1,I (EK t p a prio).2.2]) []:=by
 have hn:=h.n;refine Ad.go f268 ?_;unfold f268;refine gO ?_;refine Ab (Rw t h) ?_;cases ht:IH t
 ·have e:EK t p a prio=([],[],2):=by simp[EK,ht]
  refine gS ?_;exact Gw _
 refine gO ?_;refine Ab (IT t a.name (by omega)) ?_;cases hf:CG t a.name with
 |none =>
  have e:EK t p a prio=([],[],10):=by grind[EK]
  simp only[go_sem,e,XZ];exact Gw _
 |some i =>
 obtain⟨hi,b,hb,_⟩:=D2 hf;have hg:t.getD i q0=b:=by grind
 have e:EK t p a prio=if decide ((AM t).length=8)&&!Br (AM t) p then ([],[],4) else if (BA b p a.AH prio).2.2 !=0 then ([],[],(BA b p a.AH prio).2.2) else (t.set i (BA b p a.AH prio).1,Dy a.name (BA b p a.AH prio).2.1,0):=by grind[EK]
 rw[e];have hq:=wJ b p a.AH prio (h.q b (mG hb));have WE:(BA b p a.AH prio).2.1.length<=1000000:=le_trans (VY b p a.AH prio) (le_trans (Nat.succ_le_succ (h.q b (mG hb))) (by omega));generalize BA b p a.AH prio=R at hq WE;obtain⟨q',g,x⟩:=R;simp only at hq WE;simp only[go_sem,XZ,eq_false (show ¬ ((i:Int)<0) by omega)];refine By ⟨⟨[],[],[]⟩,[(0,1664)],[]⟩ (aW t h.n h.q) gI rfl trivial (.inl rfl) ?_;cases rG:(decide ((AM t).length=8)&&!Br (AM t) p);rotate_left
 ·simp only[Bool.and_eq_true,decide_eq_true_eq]at rG;have e8:(((AM t).length:Int)==8)=true:=by grind
  simp only[go_sem,e8];refine B4 [1664] (KG (AM t) p (by omega)) gI rfl trivial ?_;simp only[go_sem,rG.2];exact Gw _
 have Lp:((AM t).length=8/\Br (AM t) p=true)\/(AM t).length≠8:=by grind
 rcases Lp with ⟨h8,hh⟩|h8
 all_goals first
  |(have e8:(((AM t).length:Int)==8)=true:=by simp[h8]
    simp only[go_sem,e8];refine B4 [1664] (KG (AM t) p (by omega)) gI rfl trivial ?_;simp only[go_sem,hh])
  |(have e8:(((AM t).length:Int)==8)=false:=by grind
    refine gS ?_)
 all_goals
  refine Dj 131071 [(0,1,0),(1,2,0),(2,4,3),(3,8,4),(4,16,0),(5,32,0),(6,64,32),(7,128,0),(8,256,216),(9,512,256),(10,1024,512),(11,2048,512),(12,4096,512),(13,8192,0),(14,16384,10239),(15,32768,28671),(16,65536,65535)] [0,1,2,16,32,128,8192,3,17,33,129,8193,18,34,130,8194,48,144,8208,96,160,8224,8320,7,19,35,131,8195,49,145,8209,97,161,8225,8321,50,146,8210,98,162,8226,8322,112,176,8240,8336,224,8288,8352,15,23,39,135,8199,51,147,8211,99,163,8227,8323,113,177,8241,8337,225,8289,8353,114,178,8242,8338,226,8290,8354,240,8304,8368,8416,31,47,143,8207,55,151,8215,103,167,8231,8327,115,179,8243,8339,227,8291,8355,241,8305,8369,8417,242,8306,8370,8418,8432,63,159,8223,111,175,8239,8335,119,183,8247,8343,231,8295,8359,243,8307,8371,8419,8433,8434,127,191,8255,8351,239,8303,8367,247,8311,8375,8423,8435,255,8319,8383,8431,8439,511,8447,1023,8703,2047,3071,5119,9215,4095,6143,10239,7167,11263,13311,8191,12287,14335,26623,15359,16383,28671,30719,32767,61439,65535,131071] (λm=>⟨XE m [(1,37,AN t),(2,38,I i),(4,39,.ep .no i b.c 0),(8,40,.agg b.c),(16,41,.agg p.c),(32,42,.ptr 384 1),(64,43,.agg a.AH.c),(128,44,I prio),(256,45,.BC [.agg q'.c,Bg g,I x]),(512,36,.BC [.agg q'.c,Bg g,I x]),(1024,46,.agg q'.c),(2048,47,Bg g),(4096,48,I x),(8192,13,.ptr 832 0),(32768,14,Bg g),(65536,15,I x)]++[(11,I i),(0,AN t),(5,.ptr 320 0),(6,.ptr 384 0),(3,I prio)],((if m / 8192%2=1 then [(832,(if m / 16384%2=1 then q'.c else q0.c))] else [])++[(320,p.c),(384,a.c)])⟩) ?_ ?_ ?_ B6
  ·exact AK
  ·simp (maxSteps:=100000000)only[Di,Dh,D0,DZ,and_true,Nat.reduceDiv,Nat.reduceMod,Nat.reduceAnd,Nat.reduceEqDiff,reduceIte,true_and,and_false,and_self]
   repeat'(with_reducible refine And.intro ?_ ?_)
   all_goals simp(disch:=omega)only[go_sem,gm,hb,nil_append,q0]
   all_goals first|exact AT.Aq gI (by simp(disch:=omega)only[go_sem])|(refine Ab hq ?_;simp(disch:=omega)only[go_sem];exact AT.Aq gI (by simp(disch:=omega)only[go_sem]))
  cases hx:(x !=0);rotate_left
  ·simp(disch:=omega)only[go_sem,hx,nil_append,List.cons_append];exact Gw _
  simp(disch:=omega)only[go_sem,hx,nil_append,List.cons_append];refine Ay 7 [([],[0]),([],[11]),([],[13]),([],[52,53,54]),([],[6]),([],[56]),([],[14])] B6 (gO ?_)
  first|(refine Ab (RD t i q' hn hi) ?_)|(refine Ax (RD t i q' hn hi) ?_)
  refine gO ?_
  first|(refine Ab (PA a.name g WE) ?_)|(refine Ax (PA a.name g WE) ?_)
  refine gO ?_;exact AQ _
end Go.Rd
