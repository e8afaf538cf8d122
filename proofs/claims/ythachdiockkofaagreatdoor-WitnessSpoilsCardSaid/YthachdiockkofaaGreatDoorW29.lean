/- part 29 of the proof -/
import Derived.Test.YthachdiockkofaaGreatDoorW27
set_option linter.all false
open Go Go.Abs Go.Proofs
set_option maxRecDepth 100000
namespace Go.Rd
set_option maxHeartbeats 8000000
open List (cons_append map_nil nil_append)
open Tryz
theorem FN(n:Bs)(l:List AO):(Cu n l).length=l.length:=by simp[Cu]
theorem f192_ok(t:List Queue)(p:Ae)(a:Atom)(h:DZ t):Ad C0 192 [Ay t,.agg p.c,.agg a.c] [] (.tup [Ay (Bi t p a).1,Ug (Bi t p a).2.1,I (Bi t p a).2.2]) []:=by
 have hn:=h.n;refine Ad.go f192 ?_;unfold f192;refine gO ?_;refine Ac (f115_ok t h) ?_;cases ht:Gb t
 ·have e:Bi t p a=([],[],2):=by simp[Bi,ht]
  simp(disch:=omega)only[go_sem,Bool.not_false,e,map_nil];exact EL _
 simp(disch:=omega)only[go_sem,Bool.not_true];refine Ac (I2 t a.name (by omega)) ?_;cases hf:Cg t a.name with
 |none =>
  have e:Bi t p a=([],[],10):=by simp[Bi,ht,hf]
  simp(disch:=omega)only[go_sem,e,map_nil,atI];exact EL _
 |some i =>
 obtain⟨hi,b,hb,_⟩:=Dk hf;have hg:t.getD i q0=b:=by simp[List.getD,hb]
 have e:Bi t p a=if (BO b p a.amt).2.2 !=0 then ([],[],(BO b p a.amt).2.2) else (t.set i (BO b p a.amt).1,(if decide (AB b.holds p=a.amt) then [] else [⟨3,p,a.name,a.amt⟩])++Cu a.name (BO b p a.amt).2.1,0):=by simp only[Bi,ht,hf,hg];rfl
 rw[e];have hq:=f259_ok b p a.amt (h.q b (mG hb));have hh:=f163_ok b p (Bb (h.q b (mG hb))).1;have hgl:(BO b p a.amt).2.1.length≤100:=Nat.le_trans (Qz b p a.amt) (h.q b (mG hb));generalize BO b p a.amt=R at hq hgl;generalize AB b.holds p=H at hh;obtain⟨q',g,x⟩:=R;simp only at hq hgl;simp(disch:=omega)only[go_sem,atI,eq_false (show ¬ ((i:Int)<0) by omega),decide_false];refine Aq 7 [([],[0]),([],[9]),([],[24,25]),([],[26]),([],[4]),([],[27,28]),([],[])] fol ?_;simp(disch:=omega)only[go_sem,gm,hb]
 first|(refine Ac hh ?_)|(refine Ar hh ?_)
 refine gO ?_;refine CA 65535 [(0,1,0),(1,2,0),(2,4,3),(3,8,4),(4,16,0),(5,32,0),(6,64,32),(7,128,88),(8,256,128),(9,512,256),(10,1024,256),(11,2048,256),(12,4096,0),(13,8192,5119),(14,16384,14335),(15,32768,32767)] [0,1,2,16,32,4096,3,17,33,4097,18,34,4098,48,4112,96,4128,7,19,35,4099,49,4113,97,4129,50,4114,98,4130,112,4144,4192,15,23,39,4103,51,4115,99,4131,113,4145,4193,114,4146,4194,4208,31,47,4111,55,4119,103,4135,115,4147,4195,4209,4210,63,4127,111,4143,119,4151,4199,4211,127,4159,4207,4215,255,4223,511,4351,1023,1535,2559,4607,2047,3071,5119,3583,5631,6655,4095,6143,7167,13311,7679,8191,14335,15359,16383,30719,32767,65535] (fun m=>⟨sel m [(1,31,Ay t),(2,32,I i),(4,33,.ep .no i b.c 0),(8,34,.agg b.c),(16,35,.agg p.c),(32,36,.ptr 320 1),(64,37,.agg a.amt.c),(128,38,.tup [.agg q'.c,AH g,I x]),(256,30,.tup [.agg q'.c,AH g,I x]),(512,39,.agg q'.c),(1024,40,AH g),(2048,41,I x),(4096,11,.ptr 704 0),(16384,12,AH g),(32768,13,I x)]++[(9,I i),(0,Ay t),(4,.ptr 256 0),(5,.ptr 320 0),(10,.ptr 640 0)],((if m / 4096%2=1 then [(704,(if m / 8192%2=1 then q'.c else q0.c))] else [])++[(256,p.c),(320,a.c),(640,H.c)])⟩) ?_ ?_ ?_ fol
 ·exact AR
 ·simp (maxSteps:=100000000)only[Cz,Cy,Dj,Di,and_true,Nat.reduceDiv,Nat.reduceMod,Nat.reduceAnd,Nat.reduceEqDiff,reduceIte,true_and,and_false,false_and,and_self]
  repeat'(with_reducible refine And.intro ?_ ?_)
  all_goals simp(disch:=omega)only[go_sem,gm,hb,nil_append,q0]
  all_goals first|exact Imp.Am gI (by simp(disch:=omega)only[go_sem,nil_append,cons_append,q0])|(refine Ac hq ?_;simp(disch:=omega)only[go_sem];exact Imp.Am gI (by simp(disch:=omega)only[go_sem,nil_append,cons_append,q0]))
 cases hx:(x !=0);rotate_left
 ·simp(disch:=omega)only[go_sem,hx,nil_append,cons_append,map_nil];exact EL _
 simp(disch:=omega)only[go_sem,hx,nil_append,cons_append];have hgl2:=FN a.name g;have hbd:1+(Cu a.name g).length≤4294967296:=by omega
 have hbd0:(Cu a.name g).length≤4294967296:=by omega
 cases hne:decide (H=a.amt)
 all_goals
  simp(disch:=omega)only[go_sem,hne,Bool.not_false,Bool.not_true];refine Aq 9 [([],[0]),([],[9]),([],[11]),([],[58,59,60]),([],[14]),([],[5]),([],[63]),([],[12]),([3],[64,65])] fol ?_;simp(disch:=omega)only[go_sem]
  first|(refine Ac (f256_ok t i q' hn hi) ?_)|(refine Ar (f256_ok t i q' hn hi) ?_)
  simp(disch:=omega)only[go_sem]
  first|(refine Ac (f257_ok a.name g (by omega)) ?_)|(refine Ar (f257_ok a.name g (by omega)) ?_)
  refine gO ?_;refine Cf ⟨[],[],[4288]⟩ _ ?_;simp(disch:=omega)only[go_sem,hne]
  try exact .tup (Aj.AM (by simp(disch:=omega)only[go_sem];exact .sl (by simp[Ev.c])))
def mix{α:Type}(f:α→α)(l:List α)(i:Nat):List α:=(l.take i).map f++l.drop i
section
variable {α:Type}
@[go_sem] theorem bk(f:α→α)(l:List α)(i:Nat):(mix f l i).length=l.length:=by simp[mix];omega
theorem bj{f:α→α}{l:List α}{i:Nat}(h:i≤l.length):(mix f l i)[i]?=l[i]?:=by
 unfold mix;rw[List.getElem?_append_right (by simp;omega)];simp[Nat.min_eq_left h]
theorem bn{f:α→α}{l:List α}{i:Nat}{b:α}(hb:l[i]?=some b):(mix f l i).set i (f b)=mix f l (i+1):=by
 have hk:=At hb;have hd:l.drop i=b::l.drop (i+1):=by rw[List.drop_eq_getElem_cons hk,get_eq hb]
 unfold mix;rw[List.take_add_one,hb,hd,List.set_append_right _ _ (by simp;omega)];simp[Nat.min_eq_left (Nat.le_of_lt hk)]
theorem bg(f:α→α)(l:List α):mix f l l.length=l.map f:=by simp[mix]
theorem QF(f:α→α)(l:List α):mix f l 0=l:=by simp[mix]
end
def CQ(p:Ae)(q:Queue):Queue × List Ev:=if Qm q p then ((E9 q p).1,(if (AB q.holds p).zero then [] else [⟨3,p,q.res.name,⟨0,0⟩⟩])++Cu (E9 q p).1.res.name (E9 q p).2.1) else (q,[])
def Ce(t:List Queue)(p:Ae):List Queue × List Ev:=if Gb t then (t.map fun q=>(CQ p q).1,t.flatMap fun q=>(CQ p q).2) else ([],[])
def Iv(t:List Queue)(p:Ae)(i:Nat):List Ev:=(t.take i).flatMap fun q=>(CQ p q).2
theorem QR{t:List Queue}{p:Ae}{i:Nat}{b:Queue}(hb:t[i]?=some b):Iv t p (i+1)=Iv t p i++(CQ p b).2:=by
 simp[Iv,List.take_add_one,hb]
theorem U8{p:Ae}{q:Queue}(h:BC q≤100):(CQ p q).2.length≤101:=by
 have:=U7 q p;unfold CQ;split
 ·simp only[List.length_append,FN];split
  ·simp;omega
  ·simp;omega
 ·simp
theorem On{t:List Queue}{p:Ae}(h:∀ q∈t,BC q≤100):∀ i,i≤t.length→(Iv t p i).length≤101*i
 | 0,_=>by simp[Iv]
 | i+1,hi=>by
  obtain⟨b,hb⟩:∃ b,t[i]?=some b:=⟨_,gE (by omega)⟩;have h1:=On (p:=p) h i (by omega);have h2:=U8 (p:=p) (h b (mG hb));rw[QR hb];simp;omega
theorem f196_ok(t:List Queue)(p:Ae)(h:DZ t):Ad C0 196 [Ay t,.agg p.c] [] (.tup [Ay (Ce t p).1,Ug (Ce t p).2]) []:=by
 have hn:=h.n;refine Ad.go f196 ?_;unfold f196;refine gO ?_;refine Ac (f115_ok t h) ?_;cases ht:Gb t
 ·have e:Ce t p=([],[]):=by simp[Ce,ht]
  simp(disch:=omega)only[go_sem,Bool.not_false,e,map_nil];exact EL _
 simp(disch:=omega)only[go_sem,Bool.not_true];refine Ab (α:=Nat) (fun i=>⟨[(8,I i),(7,.sl (.own 4480 0) 7 ((Iv t p i).map Ev.c)),(6,.sl (.own 1088 0) 8 ((mix (fun q=>(CQ p q).1) t i).map Queue.c)),(3,.ptr 192 0)],[(192,p.c)]⟩) (fun i=>i≤(t).length∧True) (fun i=>(t).length-i) 0 ⟨by omega,trivial⟩ ?_ ?_
 ·refine Imp.Am ?_ ?_
  all_goals(try simp(disch:=omega)only[go_sem])
  all_goals(try(repeat'(with_reducible apply And.intro)))
  all_goals(first|exact .AG (by omega)|exact .Az (by omega)|exact .sl (by simp[QF,Iv])|exact .int (by simp[QF,Iv])|exact .eq (by simp[QF,Iv]))
 rintro i ⟨hi,hP⟩ J hJ;refine gO ?_;refine ⟨fun hlt=>?_,fun hge=>?_⟩;rotate_left;have hil:i=(t).length:=by simp at hge;omega
 rotate_left;obtain⟨b,hb⟩:∃ b,(t)[i]?=some b:=⟨_,gE (by simp at hlt;omega)⟩;have hbm:=mG hb;have hlt2:i<(t).length:=by simp at hlt;omega
 ·have hbq:=h.q b hbm;have hg:=bj (f:=fun q=>(CQ p q).1) (l:=t) (i:=i) (by omega);have hs:=bn (f:=fun q=>(CQ p q).1) hb;have hel:=On (p:=p) h.q i (by omega);have hen:=QR (p:=p) hb;rw[hb]at hg;have hml:=bk (fun q=>(CQ p q).1) t i;generalize mix (fun q=>(CQ p q).1) t i=M at hg hs hml ⊢;generalize hE:Iv t p i=E at hel hen ⊢;obtain⟨b1,b2,b3⟩:=Bb hbq;refine Aq 5 [([],[6]),([],[8]),([],[24,25]),([],[26]),([],[3])] fol ?_;simp(disch:=omega)only[go_sem,gm,hg]
  first|(refine Ac (f109_ok b p (by omega)) ?_)|(refine Ar (f109_ok b p (by omega)) ?_)
  cases hh:Qm b p
  ·simp(disch:=omega)only[go_sem,Bool.not_false];have e1:CQ p b=(b,[]):=by simp[CQ,hh]
   rw[e1]at hs hen;have hMb:M.set i b=M:=by
    apply List.ext_getElem?;intro j;rw[List.getElem?_set];split
    ·rename_i hij;subst hij;rw[hg];simp;omega
    ·rfl
   simp only[hMb]at hs;refine hJ _ (i+1) ⟨by omega,trivial⟩ (by omega) (Imp.Am ?_ ?_)
   all_goals(try simp(disch:=omega)only[go_sem])
   exact⟨.sl (by rw[hen];simp),.sl (by rw[hs])⟩
  simp(disch:=omega)only[go_sem,Bool.not_true];obtain⟨D,hD⟩:∃ D,D=(if (AB b.holds p).zero then [] else [(⟨3,p,b.res.name,⟨0,0⟩⟩:Ev)]):=⟨_,rfl⟩;have hst:CQ p b=((E9 b p).1,D++Cu (E9 b p).1.res.name (E9 b p).2.1):=by simp[CQ,hh,hD]
  have hDl:D.length≤1:=by rw[hD];split<;>simp
  rw[hst]at hs hen;have hq:=f110_ok b p hbq;have hgl:=U7 b p;generalize E9 b p=R at hs hen hq hgl;obtain⟨q',g,x⟩:=R;simp only at hs hen hq hgl;have hgl2:=FN q'.res.name g;have hbd1:E.length+1≤4294967296:=by omega
  have hbd2:E.length+D.length+(Cu q'.res.name g).length≤4294967296:=by omega
  refine Aq 5 [([],[6]),([],[8]),([],[31,32]),([],[33]),([],[3])] fol ?_;simp(disch:=omega)only[go_sem,gm,hg]
  first|(refine Ac (f163_ok b p b1) ?_)|(refine Ar (f163_ok b p b1) ?_)
  simp(disch:=omega)only[go_sem]
  first|(refine Ac (f162_ok (AB b.holds p)) ?_)|(refine Ar (f162_ok (AB b.holds p)) ?_)
  cases hz:(AB b.holds p).zero
  all_goals simp(disch:=omega)only[go_sem,Bool.not_false,Bool.not_true]
  rotate_left;rw[hz]at hD;rotate_left;rw[hz]at hD;refine Aq 10 [([],[7]),([],[3]),([],[6]),([],[8]),([],[41,42]),([],[43]),([],[44]),([],[45]),([],[40,46]),([],[47])] fol ?_;simp(disch:=omega)only[go_sem,gm,hg]
  all_goals
   refine CA 16383 [(0,1,0),(1,2,0),(2,4,3),(3,8,4),(4,16,0),(5,32,24),(6,64,32),(7,128,64),(8,256,64),(9,512,64),(10,1024,0),(11,2048,1279),(12,4096,3583),(13,8192,8191)] [0,1,2,16,1024,3,17,1025,18,1026,1040,7,19,1027,1041,1042,15,23,1031,1043,31,1039,1047,63,1055,127,1087,255,383,639,1151,511,767,1279,895,1407,1663,1023,1535,1791,3327,1919,2047,3583,3839,4095,7679,8191,16383] (fun m=>⟨sel m [(1,51,.sl (.own 1088 0) 8 (M.map Queue.c)),(2,52,I i),(4,53,.ep (.own 1088 0) i b.c 0),(8,54,.agg b.c),(16,55,.agg p.c),(32,56,.tup [.agg q'.c,AH g,I x]),(64,50,.tup [.agg q'.c,AH g,I x]),(128,57,.agg q'.c),(256,58,AH g),(512,59,I x),(1024,9,.ptr 576 0),(4096,10,AH g),(8192,11,I x)]++[(8,I i),(7,.sl (.own 4480 0) 7 ((E++D).map Ev.c)),(6,.sl (.own 1088 0) 8 (M.map Queue.c)),(3,.ptr 192 0)],((if m / 1024%2=1 then [(576,(if m / 2048%2=1 then q'.c else q0.c))] else [])++[(192,p.c)])⟩) ?_ ?_ ?_ fol
   ·first|exact Imp.Am (by simp(disch:=omega)only[go_sem];exact .sl (by simp[hD])) (by simp(disch:=omega)only[go_sem,nil_append])|exact Imp.ren ⟨[(3136,4480),(1088,1088)],[(192,192)],[]⟩ ⟨rfl,rfl⟩ (by simp[lk]) (by simp(disch:=omega)only[go_sem];exact .sl (by simp[hD,Ev.c])) (by simp(disch:=omega)only[go_sem,nil_append])
   ·simp (maxSteps:=100000000)only[Cz,Cy,Dj,Di,and_true,Nat.reduceDiv,Nat.reduceMod,Nat.reduceAnd,Nat.reduceEqDiff,reduceIte,true_and,and_false,false_and,and_self]
    repeat'(with_reducible refine And.intro ?_ ?_)
    all_goals simp(disch:=omega)only[go_sem,gm,hg,nil_append,q0]
    all_goals first|exact Imp.Am gI (by simp(disch:=omega)only[go_sem,nil_append,cons_append,q0])|(refine Ac hq ?_;simp(disch:=omega)only[go_sem];exact Imp.Am gI (by simp(disch:=omega)only[go_sem,nil_append,cons_append,q0]))
   simp(disch:=omega)only[go_sem,nil_append,cons_append,gm,hg];refine Ac (f257_ok q'.res.name g (by omega)) ?_;simp(disch:=omega)only[go_sem,List.length_append];refine hJ _ (i+1) ⟨by omega,trivial⟩ (by omega) (Imp.Am ?_ ?_)
   all_goals(try simp(disch:=omega)only[go_sem])
   exact⟨.sl (by rw[hen];simp),.sl (by rw[← hs,List.map_set];rfl)⟩
 ·subst hil;rw[bg];have e:Ce t p=(t.map fun q=>(CQ p q).1,Iv t p t.length):=by simp[Ce,ht,Iv]
  rw[e];refine Cf ⟨[],[],[4480,1088]⟩ _ ?_;refine gO ?_;exact .eq (by simp)
end Go.Rd
