/- part 24 of the proof -/
import Derived.Test.YteliegkcmjimoaaGreatDoorW23
set_option linter.all false
open Go Go.Abs Go.Proofs
set_option maxRecDepth 100000
namespace Go.Rd
set_option maxHeartbeats 8000000
open List (nil_append)
open Tryz
theorem HN(n:Bs)(l:List A9):(Dy n l).length=l.length:=by simp[Dy]
def Lm(t:List Queue)(p:Ac)(a:Atom)(h:Fa t):Ad C0 275 [AN t,.agg p.c,.agg a.c] [] (.BC [AN (BH t p a).1,dh (BH t p a).2.1,I (BH t p a).2.2]) []:=by
 have hn:=h.n;refine Ad.go f275 ?_;unfold f275;refine gO ?_;refine Ab (Rw t h) ?_;cases ht:IH t
 ·have e:BH t p a=([],[],2):=by simp[BH,ht]
  refine gS ?_;exact Gw _
 refine gO ?_;refine Ab (IT t a.name (by omega)) ?_;cases hf:CG t a.name with
 |none =>
  have e:BH t p a=([],[],10):=by grind[BH]
  simp only[go_sem,e,XZ];exact Gw _
 |some i =>
 obtain⟨hi,b,hb,_⟩:=D2 hf;have hg:t.getD i q0=b:=by grind
 have e:BH t p a=if (AD b p a.AH).2.2 !=0 then ([],[],(AD b p a.AH).2.2) else (t.set i (AD b p a.AH).1,(if decide (Am b.holds p=a.AH) then [] else [⟨3,p,a.name,a.AH⟩])++Dy a.name (AD b p a.AH).2.1,0):=by grind[BH]
 rw[e];have hq:=Wl b p a.AH (h.q b (mG hb));have hh:=E0 b p (Bt (h.q b (mG hb))).1;have WE:(AD b p a.AH).2.1.length<=100:=Nat.le_trans (W5 b p a.AH) (h.q b (mG hb));generalize AD b p a.AH=R at hq WE;generalize Am b.holds p=H at hh;obtain⟨q',g,x⟩:=R;simp only at hq WE;simp only[go_sem,XZ,eq_false (show ¬ ((i:Int)<0) by omega)];refine Ay 7 [([],[0]),([],[9]),([],[24,25]),([],[26]),([],[4]),([],[27,28]),([],[])] B6 ?_;simp only[go_sem,hb]
 first|(refine Ab hh ?_)|(refine Ax hh ?_)
 refine gO ?_;refine Dj 65535 [(0,1,0),(1,2,0),(2,4,3),(3,8,4),(4,16,0),(5,32,0),(6,64,32),(7,128,88),(8,256,128),(9,512,256),(10,1024,256),(11,2048,256),(12,4096,0),(13,8192,5119),(14,16384,14335),(15,32768,32767)] [0,1,2,16,32,4096,3,17,33,4097,18,34,4098,48,4112,96,4128,7,19,35,4099,49,4113,97,4129,50,4114,98,4130,112,4144,4192,15,23,39,4103,51,4115,99,4131,113,4145,4193,114,4146,4194,4208,31,47,4111,55,4119,103,4135,115,4147,4195,4209,4210,63,4127,111,4143,119,4151,4199,4211,127,4159,4207,4215,255,4223,511,4351,1023,1535,2559,4607,2047,3071,5119,3583,5631,6655,4095,6143,7167,13311,7679,8191,14335,15359,16383,30719,32767,65535] (λm=>⟨XE m [(1,31,AN t),(2,32,I i),(4,33,.ep .no i b.c 0),(8,34,.agg b.c),(16,35,.agg p.c),(32,36,.ptr 320 1),(64,37,.agg a.AH.c),(128,38,.BC [.agg q'.c,Bg g,I x]),(256,30,.BC [.agg q'.c,Bg g,I x]),(512,39,.agg q'.c),(1024,40,Bg g),(2048,41,I x),(4096,11,.ptr 704 0),(16384,12,Bg g),(32768,13,I x)]++[(9,I i),(0,AN t),(4,.ptr 256 0),(5,.ptr 320 0),(10,.ptr 640 0)],((if m / 4096%2=1 then [(704,(if m / 8192%2=1 then q'.c else q0.c))] else [])++[(256,p.c),(320,a.c),(640,H.c)])⟩) ?_ ?_ ?_ B6
 ·exact AK
 ·simp (maxSteps:=100000000)only[Di,Dh,D0,DZ,and_true,Nat.reduceDiv,Nat.reduceMod,Nat.reduceAnd,Nat.reduceEqDiff,reduceIte,true_and,and_false,and_self]
  repeat'(with_reducible refine And.intro ?_ ?_)
  all_goals simp(disch:=omega)only[go_sem,gm,hb,nil_append,q0]
  all_goals first|exact AT.Aq gI (by simp(disch:=omega)only[go_sem])|(refine Ab hq ?_;simp(disch:=omega)only[go_sem];exact AT.Aq gI (by simp(disch:=omega)only[go_sem]))
 cases hx:(x !=0);rotate_left
 ·simp only[go_sem,hx];exact Gw _
 simp only[go_sem,hx];have AhE:=HN a.name g;have ID:1+(Dy a.name g).length<=4294967296:=by omega
 have Ak9:(Dy a.name g).length<=4294967296:=by omega
 cases CZ:decide (H=a.AH)
 all_goals
  simp(disch:=omega)only[go_sem,Bool.not_false,Bool.not_true];refine Ay 9 [([],[0]),([],[9]),([],[11]),([],[58,59,60]),([],[14]),([],[5]),([],[63]),([],[12]),([3],[64,65])] B6 (gO ?_)
  first|(refine Ab (RD t i q' hn hi) ?_)|(refine Ax (RD t i q' hn hi) ?_)
  refine gO ?_
  first|(refine Ab (PA a.name g (by omega)) ?_)|(refine Ax (PA a.name g (by omega)) ?_)
  refine gO ?_;refine CU ⟨[],[],[4288]⟩ _ ?_;simp(disch:=omega)only[go_sem]
  try exact .BC (Ae.AJ (by refine gO ?_;exact .sl (by simp[Ev.c])))
def mix{α:Type}(f:α->α)(l:List α)(i:Nat):List α:=(l.take i).map f++l.drop i
section
variable {α:Type}
@[go_sem] theorem xJ(f:α->α)(l:List α)(i:Nat):(mix f l i).length=l.length:=by grind[mix]
theorem xI{f:α->α}{l:List α}{i:Nat}(h:i<=l.length):(mix f l i)[i]?=l[i]?:=by grind[mix]
def xK{f:α->α}{l:List α}{i:Nat}{b:α}(hb:l[i]?=some b):(mix f l i).set i (f b)=mix f l (i+1):=by
 have hk:=Au hb;have hd:l.drop i=b::l.drop (i+1):=by grind[List.drop_eq_getElem_cons]
 unfold mix;rw[List.take_add_one,hb,hd,List.set_append_right _ _ (by grind)];simp[Nat.min_eq_left (Nat.le_of_lt hk)]
def xH(f:α->α)(l:List α):mix f l l.length=l.map f:=by simp[mix]
def sE(f:α->α)(l:List α):mix f l 0=l:=by simp[mix]
end
def CN(p:Ac)(q:Queue):Queue × List Ev:=if OH q p then ((Ge q p).1,(if (Am q.holds p).zero then [] else [⟨3,p,q.res.name,⟨0,0⟩⟩])++Dy (Ge q p).1.res.name (Ge q p).2.1) else (q,[])
def Cy(t:List Queue)(p:Ac):List Queue × List Ev:=if IH t then (t.map λq=>(CN p q).1,t.flatMap λq=>(CN p q).2) else ([],[])
def O7(t:List Queue)(p:Ac)(i:Nat):List Ev:=(t.take i).flatMap λq=>(CN p q).2
def Xu{t:List Queue}{p:Ac}{i:Nat}{b:Queue}(hb:t[i]?=some b):O7 t p (i+1)=O7 t p i++(CN p b).2:=by simp[O7,List.take_add_one,hb]
def fe{p:Ac}{q:Queue}(h:BS q<=100):(CN p q).2.length<=101:=by grind[fc,CN,HN]
def Tu{t:List Queue}{p:Ac}(h:∀ q∈t,BS q<=100):∀ i,i<=t.length->(O7 t p i).length<=101*i
 | 0,_=>by simp[O7]
 | i+1,hi=>by
  obtain⟨b,hb⟩:∃ b,t[i]?=some b:=⟨_,gE (by omega)⟩;have h1:=Tu (p:=p) h i (by omega);have h2:=fe (p:=p) (h b (mG hb));rw[Xu hb];simp;omega
def lg(t:List Queue)(p:Ac)(h:Fa t):Ad C0 277 [AN t,.agg p.c] [] (.BC [AN (Cy t p).1,dh (Cy t p).2]) []:=by
 have hn:=h.n;refine Ad.go f277 ?_;unfold f277;refine gO ?_;refine Ab (Rw t h) ?_;cases ht:IH t
 ·have e:Cy t p=([],[]):=by simp[Cy,ht]
  refine gS ?_;exact Gw _
 refine gO ?_;refine AF (t) (λi=>⟨[(8,I i),(7,.sl (.own 4480 0) 7 ((O7 t p i).map Ev.c)),(6,.sl (.own 1088 0) 8 ((mix (λq=>(CN p q).1) t i).map Queue.c)),(3,.ptr 192 0)],[(192,p.c)]⟩) (λi=>True) trivial ?_ ?_
 ·have Q4:=@sE;exact Gd
 rintro i ⟨hi,hP⟩ J hJ;refine gO ?_;refine Bo hi (λAP b hb Cg AX=>?_) λBa=>?_
 ·have hbq:=h.q b Cg;have hg:=xI (f:=λq=>(CN p q).1) (l:=t) (i:=i) (by omega);have hs:=xK (f:=λq=>(CN p q).1) hb;have nW:=Tu (p:=p) h.q i (by omega);have gd:=Xu (p:=p) hb;rw[hb]at hg;have Y2:=xJ (λq=>(CN p q).1) t i;generalize mix (λq=>(CN p q).1) t i=M at hg hs Y2 ⊢;generalize hE:O7 t p i=E at nW gd ⊢;obtain⟨b1,b2,b3⟩:=Bt hbq;refine Ay 5 [([],[6]),([],[8]),([],[24,25]),([],[26]),([],[3])] B6 ?_;simp only[go_sem,hg]
  first|(refine Ab (Vc b p (by omega)) ?_)|(refine Ax (Vc b p (by omega)) ?_)
  cases hh:OH b p
  ·refine gO ?_;have e1:CN p b=(b,[]):=by simp[CN,hh]
   rw[e1]at hs gd;have hMb:M.set i b=M:=by
    apply List.ext_getElem?;grind
   simp[hMb]at hs;refine hJ _ (i+1) ⟨by omega,trivial⟩ (by omega) (AT.Aq ?_ ?_)
   all_goals(try simp(disch:=omega)only[go_sem])
   exact⟨.sl (by grind),.sl (by rw[hs])⟩
  refine gO ?_;obtain⟨D,hD⟩:∃ D,D=(if (Am b.holds p).zero then [] else [(⟨3,p,b.res.name,⟨0,0⟩⟩:Ev)]):=⟨_,rfl⟩;have GR:CN p b=((Ge b p).1,D++Dy (Ge b p).1.res.name (Ge b p).2.1):=by grind[CN]
  have hDl:D.length<=1:=by grind
  rw[GR]at hs gd;have hq:=j7 b p hbq;have WE:=fc b p;generalize Ge b p=R at hs gd hq WE;obtain⟨q',g,x⟩:=R;simp only at hs gd hq WE;have AhE:=HN q'.res.name g;have Ahj:E.length+1<=4294967296:=by omega
  have w7:E.length+D.length+(Dy q'.res.name g).length<=4294967296:=by omega
  refine Ay 5 [([],[6]),([],[8]),([],[31,32]),([],[33]),([],[3])] B6 ?_;simp only[go_sem,hg]
  first|(refine Ab (E0 b p b1) ?_)|(refine Ax (E0 b p b1) ?_)
  refine gO ?_
  first|(refine Ab (Fp (Am b.holds p)) ?_)|(refine Ax (Fp (Am b.holds p)) ?_)
  cases hz:(Am b.holds p).zero
  all_goals simp(disch:=omega)only[go_sem,Bool.not_false,Bool.not_true]
  rotate_left;rw[hz]at hD;rotate_left;rw[hz]at hD;refine Ay 10 [([],[7]),([],[3]),([],[6]),([],[8]),([],[41,42]),([],[43]),([],[44]),([],[45]),([],[40,46]),([],[47])] B6 ?_;simp(disch:=omega)only[go_sem,gm,hg]
  all_goals
   refine Dj 16383 [(0,1,0),(1,2,0),(2,4,3),(3,8,4),(4,16,0),(5,32,24),(6,64,32),(7,128,64),(8,256,64),(9,512,64),(10,1024,0),(11,2048,1279),(12,4096,3583),(13,8192,8191)] [0,1,2,16,1024,3,17,1025,18,1026,1040,7,19,1027,1041,1042,15,23,1031,1043,31,1039,1047,63,1055,127,1087,255,383,639,1151,511,767,1279,895,1407,1663,1023,1535,1791,3327,1919,2047,3583,3839,4095,7679,8191,16383] (λm=>⟨XE m [(1,51,.sl (.own 1088 0) 8 (M.map Queue.c)),(2,52,I i),(4,53,.ep (.own 1088 0) i b.c 0),(8,54,.agg b.c),(16,55,.agg p.c),(32,56,.BC [.agg q'.c,Bg g,I x]),(64,50,.BC [.agg q'.c,Bg g,I x]),(128,57,.agg q'.c),(256,58,Bg g),(512,59,I x),(1024,9,.ptr 576 0),(4096,10,Bg g),(8192,11,I x)]++[(8,I i),(7,.sl (.own 4480 0) 7 ((E++D).map Ev.c)),(6,.sl (.own 1088 0) 8 (M.map Queue.c)),(3,.ptr 192 0)],((if m / 1024%2=1 then [(576,(if m / 2048%2=1 then q'.c else q0.c))] else [])++[(192,p.c)])⟩) ?_ ?_ ?_ B6
   ·first|exact AT.Aq (by simp(disch:=omega)only[go_sem];exact .sl (by simp[hD])) (by exact gI)|exact AT.CX ⟨[(3136,4480),(1088,1088)],[(192,192)],[]⟩ ⟨rfl,rfl⟩ (by grind) (by refine gO ?_;exact .sl (by simp[hD,Ev.c])) (by exact gI)
   ·simp (maxSteps:=100000000)only[Di,Dh,D0,DZ,and_true,Nat.reduceDiv,Nat.reduceMod,Nat.reduceAnd,Nat.reduceEqDiff,reduceIte,true_and,and_false,and_self]
    repeat'(with_reducible refine And.intro ?_ ?_)
    all_goals simp(disch:=omega)only[go_sem,gm,hg,nil_append,q0]
    all_goals first|exact AT.Aq gI (by simp(disch:=omega)only[go_sem])|(refine Ab hq ?_;simp(disch:=omega)only[go_sem];exact AT.Aq gI (by simp(disch:=omega)only[go_sem]))
   simp(disch:=omega)only[go_sem,nil_append,List.cons_append,gm,hg];refine Ab (PA q'.res.name g (by omega)) ?_;simp(disch:=omega)only[go_sem,List.length_append];refine hJ _ (i+1) ⟨by omega,trivial⟩ (by omega) (AT.Aq ?_ ?_)
   all_goals(try simp(disch:=omega)only[go_sem])
   exact⟨.sl (by grind),.sl (by rw[<- hs,List.map_set];rfl)⟩
 ·subst Ba;rw[xH];have e:Cy t p=(t.map λq=>(CN p q).1,O7 t p t.length):=by simp[Cy,ht,O7]
  rw[e];refine CU ⟨[],[],[4480,1088]⟩ _ ?_;refine gO ?_;exact .eq (by simp)
end Go.Rd
