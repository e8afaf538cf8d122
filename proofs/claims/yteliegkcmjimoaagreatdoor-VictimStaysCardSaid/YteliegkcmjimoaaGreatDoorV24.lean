/- part 24 of the proof -/
import Derived.Test.YteliegkcmjimoaaGreatDoorV23
set_option linter.all false
open Go Go.Abs Go.Proofs
set_option maxRecDepth 100000
namespace Go.Rd
set_option maxHeartbeats 8000000
open List (cons_append map_nil nil_append)
open Tryz
def GO(n:Bs)(l:List AX):(CP n l).length=l.length:=by simp[CP]
def JK(t:List Queue)(p:Ad)(a:Atom)(h:Ei t):Ac C0 275 [AW t,.agg p.c,.agg a.c] [] (.Bl [AW (BB t p a).1,Zf (BB t p a).2.1,I (BB t p a).2.2]) []:=by
 have hn:=h.n;refine Ac.go f275 ?_;unfold f275;refine gO ?_;refine Ab (Ps t h) ?_;cases ht:Ik t
 ·have e:BB t p a=([],[],2):=by simp[BB,ht]
  simp(disch:=omega)only[go_sem,Bool.not_false,e,map_nil];exact Fy _
 simp(disch:=omega)only[go_sem,Bool.not_true];refine Ab (HE t a.name (by omega)) ?_;cases hf:CA t a.name with
 |none =>
  have e:BB t p a=([],[],10):=by simp[BB,ht,hf]
  simp(disch:=omega)only[go_sem,e,map_nil,UY];exact Fy _
 |some i =>
 obtain⟨hi,b,hb,_⟩:=DB hf;have hg:t.getD i q0=b:=by simp[List.getD,hb]
 have e:BB t p a=if (AO b p a.AN).2.2 !=0 then ([],[],(AO b p a.AN).2.2) else (t.set i (AO b p a.AN).1,(if decide (Ap b.holds p=a.AN) then [] else [⟨3,p,a.name,a.AN⟩])++CP a.name (AO b p a.AN).2.1,0):=by simp only[BB,ht,hf,hg];rfl
 rw[e];have hq:=ti b p a.AN (h.q b (mG hb));have hh:=EP b p (Bv (h.q b (mG hb))).1;have TW:(AO b p a.AN).2.1.length<=100:=Nat.le_trans (Ui b p a.AN) (h.q b (mG hb));generalize AO b p a.AN=R at hq TW;generalize Ap b.holds p=H at hh;obtain⟨q',g,x⟩:=R;simp only at hq TW;simp(disch:=omega)only[go_sem,UY,eq_false (show ¬ ((i:Int)<0) by omega),decide_false];refine Av 7 [([],[0]),([],[9]),([],[24,25]),([],[26]),([],[4]),([],[27,28]),([],[])] B7 ?_;simp(disch:=omega)only[go_sem,gm,hb]
 first|(refine Ab hh ?_)|(refine Aq hh ?_)
 refine gO ?_;refine C8 65535 [(0,1,0),(1,2,0),(2,4,3),(3,8,4),(4,16,0),(5,32,0),(6,64,32),(7,128,88),(8,256,128),(9,512,256),(10,1024,256),(11,2048,256),(12,4096,0),(13,8192,5119),(14,16384,14335),(15,32768,32767)] [0,1,2,16,32,4096,3,17,33,4097,18,34,4098,48,4112,96,4128,7,19,35,4099,49,4113,97,4129,50,4114,98,4130,112,4144,4192,15,23,39,4103,51,4115,99,4131,113,4145,4193,114,4146,4194,4208,31,47,4111,55,4119,103,4135,115,4147,4195,4209,4210,63,4127,111,4143,119,4151,4199,4211,127,4159,4207,4215,255,4223,511,4351,1023,1535,2559,4607,2047,3071,5119,3583,5631,6655,4095,6143,7167,13311,7679,8191,14335,15359,16383,30719,32767,65535] (λm=>⟨Vm m [(1,31,AW t),(2,32,I i),(4,33,.ep .no i b.c 0),(8,34,.agg b.c),(16,35,.agg p.c),(32,36,.ptr 320 1),(64,37,.agg a.AN.c),(128,38,.Bl [.agg q'.c,AY g,I x]),(256,30,.Bl [.agg q'.c,AY g,I x]),(512,39,.agg q'.c),(1024,40,AY g),(2048,41,I x),(4096,11,.ptr 704 0),(16384,12,AY g),(32768,13,I x)]++[(9,I i),(0,AW t),(4,.ptr 256 0),(5,.ptr 320 0),(10,.ptr 640 0)],((if m / 4096%2=1 then [(704,(if m / 8192%2=1 then q'.c else q0.c))] else [])++[(256,p.c),(320,a.c),(640,H.c)])⟩) ?_ ?_ ?_ B7
 ·exact AS
 ·simp (maxSteps:=100000000)only[C7,C6,DS,DR,and_true,Nat.reduceDiv,Nat.reduceMod,Nat.reduceAnd,Nat.reduceEqDiff,reduceIte,true_and,and_false,false_and,and_self]
  repeat'(with_reducible refine And.intro ?_ ?_)
  all_goals simp(disch:=omega)only[go_sem,gm,hb,nil_append,q0]
  all_goals first|exact AQ.An gI (by simp(disch:=omega)only[go_sem,nil_append,cons_append,q0])|(refine Ab hq ?_;simp(disch:=omega)only[go_sem];exact AQ.An gI (by simp(disch:=omega)only[go_sem,nil_append,cons_append,q0]))
 cases hx:(x !=0);rotate_left
 ·simp(disch:=omega)only[go_sem,hx,nil_append,cons_append,map_nil];exact Fy _
 simp(disch:=omega)only[go_sem,hx,nil_append,cons_append];have AaZ:=GO a.name g;have IY:1+(CP a.name g).length<=4294967296:=by omega
 have Ad9:(CP a.name g).length<=4294967296:=by omega
 cases Ca:decide (H=a.AN)
 all_goals
  simp(disch:=omega)only[go_sem,Ca,Bool.not_false,Bool.not_true];refine Av 9 [([],[0]),([],[9]),([],[11]),([],[58,59,60]),([],[14]),([],[5]),([],[63]),([],[12]),([3],[64,65])] B7 ?_;refine gO ?_
  first|(refine Ab (Pz t i q' hn hi) ?_)|(refine Aq (Pz t i q' hn hi) ?_)
  refine gO ?_
  first|(refine Ab (Nu a.name g (by omega)) ?_)|(refine Aq (Nu a.name g (by omega)) ?_)
  refine gO ?_;refine CK ⟨[],[],[4288]⟩ _ ?_;simp(disch:=omega)only[go_sem,Ca]
  try exact .Bl (Af.AI (by simp(disch:=omega)only[go_sem];exact .sl (by simp[Ev.c])))
def mix{α:Type}(f:α->α)(l:List α)(i:Nat):List α:=(l.take i).map f++l.drop i
section
variable {α:Type}
@[go_sem] theorem qh(f:α->α)(l:List α)(i:Nat):(mix f l i).length=l.length:=by simp[mix];omega
theorem qg{f:α->α}{l:List α}{i:Nat}(h:i<=l.length):(mix f l i)[i]?=l[i]?:=by
 unfold mix;rw[List.getElem?_append_right (by simp;omega)];simp[Nat.min_eq_left h]
def qi{f:α->α}{l:List α}{i:Nat}{b:α}(hb:l[i]?=some b):(mix f l i).set i (f b)=mix f l (i+1):=by
 have hk:=Ay hb;have hd:l.drop i=b::l.drop (i+1):=by rw[List.drop_eq_getElem_cons hk,get_eq hb]
 unfold mix;rw[List.take_add_one,hb,hd,List.set_append_right _ _ (by simp;omega)];simp[Nat.min_eq_left (Nat.le_of_lt hk)]
def qf(f:α->α)(l:List α):mix f l l.length=l.map f:=by simp[mix]
def Up(f:α->α)(l:List α):mix f l 0=l:=by simp[mix]
end
def Dh(p:Ad)(q:Queue):Queue × List Ev:=if TS q p then ((FN q p).1,(if (Ap q.holds p).zero then [] else [⟨3,p,q.res.name,⟨0,0⟩⟩])++CP (FN q p).1.res.name (FN q p).2.1) else (q,[])
def Cy(t:List Queue)(p:Ad):List Queue × List Ev:=if Ik t then (t.map λq=>(Dh p q).1,t.flatMap λq=>(Dh p q).2) else ([],[])
def JR(t:List Queue)(p:Ad)(i:Nat):List Ev:=(t.take i).flatMap λq=>(Dh p q).2
def UB{t:List Queue}{p:Ad}{i:Nat}{b:Queue}(hb:t[i]?=some b):JR t p (i+1)=JR t p i++(Dh p b).2:=by
 simp[JR,List.take_add_one,hb]
def al{p:Ad}{q:Queue}(h:BC q<=100):(Dh p q).2.length<=101:=by
 have:=ak q p;unfold Dh;split
 ·simp only[List.length_append,GO];split
  ·simp;omega
  ·simp;omega
 ·simp
def Rg{t:List Queue}{p:Ad}(h:∀ q∈t,BC q<=100):∀ i,i<=t.length->(JR t p i).length<=101*i
 | 0,_=>by simp[JR]
 | i+1,hi=>by
  obtain⟨b,hb⟩:∃ b,t[i]?=some b:=⟨_,gE (by omega)⟩;have h1:=Rg (p:=p) h i (by omega);have h2:=al (p:=p) (h b (mG hb));rw[UB hb];simp;omega
def eb(t:List Queue)(p:Ad)(h:Ei t):Ac C0 277 [AW t,.agg p.c] [] (.Bl [AW (Cy t p).1,Zf (Cy t p).2]) []:=by
 have hn:=h.n;refine Ac.go f277 ?_;unfold f277;refine gO ?_;refine Ab (Ps t h) ?_;cases ht:Ik t
 ·have e:Cy t p=([],[]):=by simp[Cy,ht]
  simp(disch:=omega)only[go_sem,Bool.not_false,e,map_nil];exact Fy _
 simp(disch:=omega)only[go_sem,Bool.not_true];refine AH (t) (λi=>⟨[(8,I i),(7,.sl (.own 4480 0) 7 ((JR t p i).map Ev.c)),(6,.sl (.own 1088 0) 8 ((mix (λq=>(Dh p q).1) t i).map Queue.c)),(3,.ptr 192 0)],[(192,p.c)]⟩) (λi=>True) trivial ?_ ?_
 ·refine AQ.An ?_ ?_
  all_goals(try simp(disch:=omega)only[go_sem])
  all_goals(try(repeat'(with_reducible apply And.intro)))
  all_goals(first|exact .AU (by omega)|exact .AD (by omega)|exact .sl (by simp[Up,JR])|exact .int (by simp[Up,JR])|exact .eq (by simp[Up,JR]))
 rintro i ⟨hi,hP⟩ J hJ;refine gO ?_;refine Bp hi (λAu b hb Cc AR=>?_) λBf=>?_
 ·have vQ:=h.q b Cc;have hg:=qg (f:=λq=>(Dh p q).1) (l:=t) (i:=i) (by omega);have hs:=qi (f:=λq=>(Dh p q).1) hb;have a6:=Rg (p:=p) h.q i (by omega);have eH:=UB (p:=p) hb;rw[hb]at hg;have XR:=qh (λq=>(Dh p q).1) t i;generalize mix (λq=>(Dh p q).1) t i=M at hg hs XR ⊢;generalize hE:JR t p i=E at a6 eH ⊢;obtain⟨b1,b2,b3⟩:=Bv vQ;refine Av 5 [([],[6]),([],[8]),([],[24,25]),([],[26]),([],[3])] B7 ?_;simp(disch:=omega)only[go_sem,gm,hg]
  first|(refine Ab (SD b p (by omega)) ?_)|(refine Aq (SD b p (by omega)) ?_)
  cases hh:TS b p
  ·simp(disch:=omega)only[go_sem,Bool.not_false];have e1:Dh p b=(b,[]):=by simp[Dh,hh]
   rw[e1]at hs eH;have hMb:M.set i b=M:=by
    apply List.ext_getElem?;intro j;rw[List.getElem?_set];split
    ·rename_i Sg;subst Sg;rw[hg];simp;omega
    ·rfl
   simp only[hMb]at hs;refine hJ _ (i+1) ⟨by omega,trivial⟩ (by omega) (AQ.An ?_ ?_)
   all_goals(try simp(disch:=omega)only[go_sem])
   exact⟨.sl (by rw[eH];simp),.sl (by rw[hs])⟩
  simp(disch:=omega)only[go_sem,Bool.not_true];obtain⟨D,hD⟩:∃ D,D=(if (Ap b.holds p).zero then [] else [(⟨3,p,b.res.name,⟨0,0⟩⟩:Ev)]):=⟨_,rfl⟩;have HH:Dh p b=((FN b p).1,D++CP (FN b p).1.res.name (FN b p).2.1):=by simp[Dh,hh,hD]
  have hDl:D.length<=1:=by rw[hD];split<;>simp
  rw[HH]at hs eH;have hq:=dg b p vQ;have TW:=ak b p;generalize FN b p=R at hs eH hq TW;obtain⟨q',g,x⟩:=R;simp only at hs eH hq TW;have AaZ:=GO q'.res.name g;have AaH:E.length+1<=4294967296:=by omega
  have pq:E.length+D.length+(CP q'.res.name g).length<=4294967296:=by omega
  refine Av 5 [([],[6]),([],[8]),([],[31,32]),([],[33]),([],[3])] B7 ?_;simp(disch:=omega)only[go_sem,gm,hg]
  first|(refine Ab (EP b p b1) ?_)|(refine Aq (EP b p b1) ?_)
  refine gO ?_
  first|(refine Ab (Ga (Ap b.holds p)) ?_)|(refine Aq (Ga (Ap b.holds p)) ?_)
  cases hz:(Ap b.holds p).zero
  all_goals simp(disch:=omega)only[go_sem,Bool.not_false,Bool.not_true]
  rotate_left;rw[hz]at hD;rotate_left;rw[hz]at hD;refine Av 10 [([],[7]),([],[3]),([],[6]),([],[8]),([],[41,42]),([],[43]),([],[44]),([],[45]),([],[40,46]),([],[47])] B7 ?_;simp(disch:=omega)only[go_sem,gm,hg]
  all_goals
   refine C8 16383 [(0,1,0),(1,2,0),(2,4,3),(3,8,4),(4,16,0),(5,32,24),(6,64,32),(7,128,64),(8,256,64),(9,512,64),(10,1024,0),(11,2048,1279),(12,4096,3583),(13,8192,8191)] [0,1,2,16,1024,3,17,1025,18,1026,1040,7,19,1027,1041,1042,15,23,1031,1043,31,1039,1047,63,1055,127,1087,255,383,639,1151,511,767,1279,895,1407,1663,1023,1535,1791,3327,1919,2047,3583,3839,4095,7679,8191,16383] (λm=>⟨Vm m [(1,51,.sl (.own 1088 0) 8 (M.map Queue.c)),(2,52,I i),(4,53,.ep (.own 1088 0) i b.c 0),(8,54,.agg b.c),(16,55,.agg p.c),(32,56,.Bl [.agg q'.c,AY g,I x]),(64,50,.Bl [.agg q'.c,AY g,I x]),(128,57,.agg q'.c),(256,58,AY g),(512,59,I x),(1024,9,.ptr 576 0),(4096,10,AY g),(8192,11,I x)]++[(8,I i),(7,.sl (.own 4480 0) 7 ((E++D).map Ev.c)),(6,.sl (.own 1088 0) 8 (M.map Queue.c)),(3,.ptr 192 0)],((if m / 1024%2=1 then [(576,(if m / 2048%2=1 then q'.c else q0.c))] else [])++[(192,p.c)])⟩) ?_ ?_ ?_ B7
   ·first|exact AQ.An (by simp(disch:=omega)only[go_sem];exact .sl (by simp[hD])) (by simp(disch:=omega)only[go_sem,nil_append])|exact AQ.BS ⟨[(3136,4480),(1088,1088)],[(192,192)],[]⟩ ⟨rfl,rfl⟩ (by simp[lk]) (by simp(disch:=omega)only[go_sem];exact .sl (by simp[hD,Ev.c])) (by simp(disch:=omega)only[go_sem,nil_append])
   ·simp (maxSteps:=100000000)only[C7,C6,DS,DR,and_true,Nat.reduceDiv,Nat.reduceMod,Nat.reduceAnd,Nat.reduceEqDiff,reduceIte,true_and,and_false,false_and,and_self]
    repeat'(with_reducible refine And.intro ?_ ?_)
    all_goals simp(disch:=omega)only[go_sem,gm,hg,nil_append,q0]
    all_goals first|exact AQ.An gI (by simp(disch:=omega)only[go_sem,nil_append,cons_append,q0])|(refine Ab hq ?_;simp(disch:=omega)only[go_sem];exact AQ.An gI (by simp(disch:=omega)only[go_sem,nil_append,cons_append,q0]))
   simp(disch:=omega)only[go_sem,nil_append,cons_append,gm,hg];refine Ab (Nu q'.res.name g (by omega)) ?_;simp(disch:=omega)only[go_sem,List.length_append];refine hJ _ (i+1) ⟨by omega,trivial⟩ (by omega) (AQ.An ?_ ?_)
   all_goals(try simp(disch:=omega)only[go_sem])
   exact⟨.sl (by rw[eH];simp),.sl (by rw[<- hs,List.map_set];rfl)⟩
 ·subst Bf;rw[qf];have e:Cy t p=(t.map λq=>(Dh p q).1,JR t p t.length):=by simp[Cy,ht,JR]
  rw[e];refine CK ⟨[],[],[4480,1088]⟩ _ ?_;refine gO ?_;exact .eq (by simp)
end Go.Rd
