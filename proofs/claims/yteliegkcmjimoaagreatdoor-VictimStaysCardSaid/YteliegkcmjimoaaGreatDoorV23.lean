/- part 23 of the proof -/
import Derived.Test.YteliegkcmjimoaaGreatDoorV22
set_option linter.all false
open Go Go.Abs Go.Proofs
set_option maxRecDepth 100000
namespace Go.Rd
set_option maxHeartbeats 8000000
open List (cons_append length_nil map_nil nil_append)
open Nat (le_trans)
open Tryz
def Et(t:List Queue)(p:Ad)(a:Atom)(prio:Int):List Queue × List Ev × Int:=if !Ik t then ([],[],2) else match CA t a.name with
 |none=>([],[],10)
 |some i=>if decide ((AT t).length=8)&&!BL (AT t) p then ([],[],4) else if (BV (t.getD i q0) p a.AN prio).2.2 !=0 then ([],[],(BV (t.getD i q0) p a.AN prio).2.2) else (t.set i (BV (t.getD i q0) p a.AN prio).1,CP a.name (BV (t.getD i q0) p a.AN prio).2.1,0)
def Dd(t:List Queue)(p:Ad)(name:Bs):List Queue × List Ev × Int:=if !Ik t then ([],[],2) else match CA t name with
 |none=>([],[],10)
 |some i=>if (Bb (t.getD i q0) p).2.2 !=0 then ([],[],(Bb (t.getD i q0) p).2.2) else (t.set i (Bb (t.getD i q0) p).1,CP name (Bb (t.getD i q0) p).2.1,0)
def BB(t:List Queue)(p:Ad)(a:Atom):List Queue × List Ev × Int:=if !Ik t then ([],[],2) else match CA t a.name with
 |none=>([],[],10)
 |some i=>if (AO (t.getD i q0) p a.AN).2.2 !=0 then ([],[],(AO (t.getD i q0) p a.AN).2.2) else (t.set i (AO (t.getD i q0) p a.AN).1,(if decide (Ap (t.getD i q0).holds p=a.AN) then [] else [⟨3,p,a.name,a.AN⟩])++CP a.name (AO (t.getD i q0) p a.AN).2.1,0)
def YD:∀ (n:Nat) (q:Queue),(W4 n q).2.length<=n
 | 0,q=>by simp[W4]
 | n+1,q=>by
  unfold W4;cases BE q with
  |none=>simp
  |some w =>
   simp only;split
   ·have:=YD n (CS q w);simp;omega
   ·simp
def O2(q:Queue):(B0 q).2.length<=BJ q:=YD _ q
def Rx(q:Queue)(p:Ad):(Bb q p).2.1.length<=BC q:=by
 have h1:=O2 (CF q p);have h2:=Bx q.waits p;have h3:=Bx q.Ak p;simp only[BJ,CF]at h1;unfold Bb BC BJ
 repeat' split
 all_goals first|(simp only[length_nil];omega)|(simp only[CF];omega)
def Ui(q:Queue)(p:Ad)(a:BO):(AO q p a).2.1.length<=BC q:=by
 have h1:=O2 (FJ q p a);simp only[BJ,FJ]at h1;unfold AO BC BJ
 repeat' split
 all_goals first|(simp only[length_nil];omega)|(simp only[FJ];omega)
def Tl(q:Queue)(p:Ad)(a:BO)(prio:Int):(BV q p a prio).2.1.length<=BC q+1:=by
 have h1:=O2 (Iz q p a);have h2:=O2 (JO q p a prio);simp only[BJ,Iz,JO,Ux,List.length_append,List.length_singleton]at h1 h2;unfold BV BC BJ
 repeat' split
 all_goals first|(simp only[length_nil];omega)|(simp only[Iz,JO];omega)
def ak(q:Queue)(p:Ad):(FN q p).2.1.length<=BC q:=by
 have h1:=O2 (B2 q p);have h2:=Bx q.waits p;have h3:=Bx q.Ak p;simp only[BJ,B2]at h1;unfold FN BC BJ
 repeat' split
 all_goals first|(simp only[length_nil];omega)|(simp only[B2];omega)
def ek(t:List Queue)(p:Ad)(name:Bs)(h:Ei t):Ac C0 296 [AW t,.agg p.c,.v (.string (str name))] [] (.Bl [AW (Dd t p name).1,Zf (Dd t p name).2.1,I (Dd t p name).2.2]) []:=by
 have hn:=h.n;refine Ac.go f296 ?_;unfold f296;refine gO ?_;refine Ab (Ps t h) ?_;cases ht:Ik t
 ·have e:Dd t p name=([],[],2):=by simp[Dd,ht]
  simp(disch:=omega)only[go_sem,Bool.not_false,e,map_nil];exact Fy _
 simp(disch:=omega)only[go_sem,Bool.not_true];refine Ab (HE t name (by omega)) ?_;cases hf:CA t name with
 |none =>
  have e:Dd t p name=([],[],10):=by simp[Dd,ht,hf]
  simp(disch:=omega)only[go_sem,e,map_nil,UY];exact Fy _
 |some i =>
 obtain⟨hi,b,hb,_⟩:=DB hf;have hg:t.getD i q0=b:=by simp[List.getD,hb]
 have e:Dd t p name=if (Bb b p).2.2 !=0 then ([],[],(Bb b p).2.2) else (t.set i (Bb b p).1,CP name (Bb b p).2.1,0):=by simp only[Dd,ht,hf,hg];rfl
 rw[e];have hq:=th b p (h.q b (mG hb));have TW:(Bb b p).2.1.length<=1000000:=le_trans (Rx b p) (le_trans (h.q b (mG hb)) (by omega));generalize Bb b p=R at hq TW;obtain⟨q',g,x⟩:=R;simp only at hq TW;simp(disch:=omega)only[go_sem,UY,eq_false (show ¬ ((i:Int)<0) by omega),decide_false];refine C8 16383 [(0,1,0),(1,2,0),(2,4,3),(3,8,4),(4,16,0),(5,32,24),(6,64,32),(7,128,64),(8,256,64),(9,512,64),(10,1024,0),(11,2048,1279),(12,4096,3583),(13,8192,8191)] [0,1,2,16,1024,3,17,1025,18,1026,1040,7,19,1027,1041,1042,15,23,1031,1043,31,1039,1047,63,1055,127,1087,255,383,639,1151,511,767,1279,895,1407,1663,1023,1535,1791,3327,1919,2047,3583,3839,4095,7679,8191,16383] (λm=>⟨Vm m [(1,22,AW t),(2,23,I i),(4,24,.ep .no i b.c 0),(8,25,.agg b.c),(16,26,.agg p.c),(32,27,.Bl [.agg q'.c,AY g,I x]),(64,21,.Bl [.agg q'.c,AY g,I x]),(128,28,.agg q'.c),(256,29,AY g),(512,30,I x),(1024,10,.ptr 640 0),(4096,11,AY g),(8192,12,I x)]++[(9,I i),(0,AW t),(4,.ptr 256 0),(2,.v (.string (str name)))],((if m / 1024%2=1 then [(640,(if m / 2048%2=1 then q'.c else q0.c))] else [])++[(256,p.c)])⟩) ?_ ?_ ?_ B7
 ·exact AS
 ·simp (maxSteps:=100000000)only[C7,C6,DS,DR,and_true,Nat.reduceDiv,Nat.reduceMod,Nat.reduceAnd,Nat.reduceEqDiff,reduceIte,true_and,and_false,false_and,and_self]
  repeat'(with_reducible refine And.intro ?_ ?_)
  all_goals simp(disch:=omega)only[go_sem,gm,hb,nil_append,q0]
  all_goals first|exact AQ.An gI (by simp(disch:=omega)only[go_sem,nil_append,cons_append,q0])|(refine Ab hq ?_;simp(disch:=omega)only[go_sem];exact AQ.An gI (by simp(disch:=omega)only[go_sem,nil_append,cons_append,q0]))
 cases hx:(x !=0);rotate_left
 ·simp(disch:=omega)only[go_sem,hx,nil_append,cons_append,map_nil];exact Fy _
 simp(disch:=omega)only[go_sem,hx,nil_append,cons_append];refine Ab (Pz t i q' hn hi) ?_;refine gO ?_;refine Ab (Nu name g TW) ?_;refine gO ?_;exact AM _
def dW(t:List Queue)(p:Ad)(a:Atom)(prio:Int)(h:Ei t):Ac C0 268 [AW t,.agg p.c,.agg a.c,I prio] [] (.Bl [AW (Et t p a prio).1,Zf (Et t p a prio).2.1,I (Et t p a prio).2.2]) []:=by
 have hn:=h.n;refine Ac.go f268 ?_;unfold f268;refine gO ?_;refine Ab (Ps t h) ?_;cases ht:Ik t
 ·have e:Et t p a prio=([],[],2):=by simp[Et,ht]
  simp(disch:=omega)only[go_sem,Bool.not_false,e,map_nil];exact Fy _
 simp(disch:=omega)only[go_sem,Bool.not_true];refine Ab (HE t a.name (by omega)) ?_;cases hf:CA t a.name with
 |none =>
  have e:Et t p a prio=([],[],10):=by simp[Et,ht,hf]
  simp(disch:=omega)only[go_sem,e,map_nil,UY];exact Fy _
 |some i =>
 obtain⟨hi,b,hb,_⟩:=DB hf;have hg:t.getD i q0=b:=by simp[List.getD,hb]
 have e:Et t p a prio=if decide ((AT t).length=8)&&!BL (AT t) p then ([],[],4) else if (BV b p a.AN prio).2.2 !=0 then ([],[],(BV b p a.AN prio).2.2) else (t.set i (BV b p a.AN prio).1,CP a.name (BV b p a.AN prio).2.1,0):=by simp only[Et,ht,hf,hg];rfl
 rw[e];have NP:(AT t).length<=8:=by simp only[Ik,Bool.and_eq_true,decide_eq_true_eq]at ht;exact ht.2
 have hq:=oV b p a.AN prio (h.q b (mG hb));have TW:(BV b p a.AN prio).2.1.length<=1000000:=le_trans (Tl b p a.AN prio) (le_trans (Nat.succ_le_succ (h.q b (mG hb))) (by omega));generalize BV b p a.AN prio=R at hq TW;obtain⟨q',g,x⟩:=R;simp only at hq TW;simp(disch:=omega)only[go_sem,UY,eq_false (show ¬ ((i:Int)<0) by omega),decide_false];refine Bh ⟨⟨[],[],[]⟩,[(0,1664)],[]⟩ (XH t h.n h.q) gI rfl trivial (.inl rfl) ?_;cases V2:(decide ((AT t).length=8)&&!BL (AT t) p);rotate_left
 ·simp only[Bool.and_eq_true,decide_eq_true_eq]at V2;have e8:(((AT t).length:Int)==8)=true:=by simp[V2.1]
  simp(disch:=omega)only[go_sem,e8];refine Cb [1664] (Oy (AT t) p (by omega)) gI rfl trivial ?_;simp(disch:=omega)only[go_sem,V2.2,map_nil];exact Fy _
 have Jf:((AT t).length=8/\BL (AT t) p=true)\/(AT t).length≠8:=by
  by_cases h8:(AT t).length=8
  ·exact .inl ⟨h8,by simpa [h8]using V2⟩
  ·exact .inr h8
 rcases Jf with ⟨h8,hh⟩|h8
 all_goals first
  |(have e8:(((AT t).length:Int)==8)=true:=by simp[h8]
    simp(disch:=omega)only[go_sem,e8];refine Cb [1664] (Oy (AT t) p (by omega)) gI rfl trivial ?_;simp(disch:=omega)only[go_sem,hh,Bool.not_true])
  |(have e8:(((AT t).length:Int)==8)=false:=by simp;omega
    simp(disch:=omega)only[go_sem,e8])
 all_goals
  refine C8 131071 [(0,1,0),(1,2,0),(2,4,3),(3,8,4),(4,16,0),(5,32,0),(6,64,32),(7,128,0),(8,256,216),(9,512,256),(10,1024,512),(11,2048,512),(12,4096,512),(13,8192,0),(14,16384,10239),(15,32768,28671),(16,65536,65535)] [0,1,2,16,32,128,8192,3,17,33,129,8193,18,34,130,8194,48,144,8208,96,160,8224,8320,7,19,35,131,8195,49,145,8209,97,161,8225,8321,50,146,8210,98,162,8226,8322,112,176,8240,8336,224,8288,8352,15,23,39,135,8199,51,147,8211,99,163,8227,8323,113,177,8241,8337,225,8289,8353,114,178,8242,8338,226,8290,8354,240,8304,8368,8416,31,47,143,8207,55,151,8215,103,167,8231,8327,115,179,8243,8339,227,8291,8355,241,8305,8369,8417,242,8306,8370,8418,8432,63,159,8223,111,175,8239,8335,119,183,8247,8343,231,8295,8359,243,8307,8371,8419,8433,8434,127,191,8255,8351,239,8303,8367,247,8311,8375,8423,8435,255,8319,8383,8431,8439,511,8447,1023,8703,2047,3071,5119,9215,4095,6143,10239,7167,11263,13311,8191,12287,14335,26623,15359,16383,28671,30719,32767,61439,65535,131071] (λm=>⟨Vm m [(1,37,AW t),(2,38,I i),(4,39,.ep .no i b.c 0),(8,40,.agg b.c),(16,41,.agg p.c),(32,42,.ptr 384 1),(64,43,.agg a.AN.c),(128,44,I prio),(256,45,.Bl [.agg q'.c,AY g,I x]),(512,36,.Bl [.agg q'.c,AY g,I x]),(1024,46,.agg q'.c),(2048,47,AY g),(4096,48,I x),(8192,13,.ptr 832 0),(32768,14,AY g),(65536,15,I x)]++[(11,I i),(0,AW t),(5,.ptr 320 0),(6,.ptr 384 0),(3,I prio)],((if m / 8192%2=1 then [(832,(if m / 16384%2=1 then q'.c else q0.c))] else [])++[(320,p.c),(384,a.c)])⟩) ?_ ?_ ?_ B7
  ·exact AS
  ·simp (maxSteps:=100000000)only[C7,C6,DS,DR,and_true,Nat.reduceDiv,Nat.reduceMod,Nat.reduceAnd,Nat.reduceEqDiff,reduceIte,true_and,and_false,false_and,and_self]
   repeat'(with_reducible refine And.intro ?_ ?_)
   all_goals simp(disch:=omega)only[go_sem,gm,hb,nil_append,q0]
   all_goals first|exact AQ.An gI (by simp(disch:=omega)only[go_sem,nil_append,cons_append,q0])|(refine Ab hq ?_;simp(disch:=omega)only[go_sem];exact AQ.An gI (by simp(disch:=omega)only[go_sem,nil_append,cons_append,q0]))
  cases hx:(x !=0);rotate_left
  ·simp(disch:=omega)only[go_sem,hx,nil_append,cons_append,map_nil];exact Fy _
  simp(disch:=omega)only[go_sem,hx,nil_append,cons_append];refine Av 7 [([],[0]),([],[11]),([],[13]),([],[52,53,54]),([],[6]),([],[56]),([],[14])] B7 ?_;refine gO ?_
  first|(refine Ab (Pz t i q' hn hi) ?_)|(refine Aq (Pz t i q' hn hi) ?_)
  refine gO ?_
  first|(refine Ab (Nu a.name g TW) ?_)|(refine Aq (Nu a.name g TW) ?_)
  refine gO ?_;exact AM _
end Go.Rd
