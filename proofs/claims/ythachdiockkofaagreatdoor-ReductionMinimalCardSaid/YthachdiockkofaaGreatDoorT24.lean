/- part 24 of the proof -/
import Derived.Test.YthachdiockkofaaGreatDoorT23
set_option linter.all false
open Go Go.Abs Go.Proofs
set_option maxRecDepth 100000
namespace Go.Rd
set_option maxHeartbeats 8000000
open List (cons_append length_append map_append map_cons map_nil map_set nil_append set_set)
open Nat (le_trans)
open Tryz
theorem DR24{X:Env}{st:St}{y:AV}{rs:List ResultVar}(xs:List AV)(h1:CX X.C st rs=some xs:=by(try simp(disch:=omega)only[go_sem,CX,Jm])<;>rfl)(h4:Bz ((pack xs).ren ⟨[],[],[]⟩) y:=by
 refine gO ?_
 refine .tup (Af.AD ?_)
 simp(disch:=omega)only[go_sem]
 repeat'(with_reducible apply And.intro)
 all_goals(first|exact .Au (by omega)|exact .agg (Af.AD (by simp(disch:=omega)only[go_sem]))))(h3:∀ s∈X.ext,lk s []=some s:=by simp):PZ X rs y [] .ret st:=BP xs h4 h1 h3
theorem Fb(n:Bs)(l:List Hold):(B7 n l).length=l.length:=by simp[B7]
theorem f192_ok(t:List Queue)(p:Proc)(a:Atom)(h:Di t):Ac C0 192 [At t,.agg p.c,.agg a.c] [] (.tup [At (AT t p a).1,SF (AT t p a).2.1,I (AT t p a).2.2]) []:=by
 have hn:=h.n
 refine Ac.go f192 ?_
 unfold f192
 refine gO ?_
 refine Aa (f115_ok t h) ?_
 cases ht:Fy t
 ·have e:AT t p a=([],[],2):=by simp[AT,ht]
  simp(disch:=omega)only[go_sem,Bool.not_false,e,map_nil]
  exact DR24 _
 simp(disch:=omega)only[go_sem,Bool.not_true]
 refine Aa (Ia t a.name (by omega)) ?_
 cases hf:BR t a.name with
 |none =>
  have e:AT t p a=([],[],10):=by simp[AT,ht,hf]
  simp(disch:=omega)only[go_sem,e,map_nil,atI]
  exact DR24 _
 |some i =>
 obtain⟨hi,b,hb,_⟩:=CK hf
 have hg:t.getD i q0=b:=by simp[List.getD,hb]
 have e:AT t p a=if (Bl b p a.amt).2.2 !=0 then ([],[],(Bl b p a.amt).2.2) else (t.set i (Bl b p a.amt).1,(if decide (Ap b.holds p=a.amt) then [] else [⟨3,p,a.name,a.amt⟩])++B7 a.name (Bl b p a.amt).2.1,0):=by simp only[AT,ht,hf,hg];rfl
 rw[e]
 have hq:=f259_ok b p a.amt (h.q b (mG hb))
 have hh:=f163_ok b p (A5 (h.q b (mG hb))).1
 have hgl:(Bl b p a.amt).2.1.length≤100:=le_trans (O8 b p a.amt) (h.q b (mG hb))
 generalize Bl b p a.amt=R at hq hgl
 generalize Ap b.holds p=H at hh
 obtain⟨q',g,x⟩:=R
 simp only at hq hgl
 simp(disch:=omega)only[go_sem,atI,eq_false (show ¬ ((i:Int)<0) by omega),decide_false]
 refine Aj 7 [([],[0]),([],[9]),([],[24,25]),([],[26]),([],[4]),([],[27,28]),([],[])] fol ?_
 simp(disch:=omega)only[go_sem,gm,hb]
 first|(refine Aa hh ?_)|(refine Ai hh ?_)
 refine gO ?_
 refine CA 65535 [(0,1,0),(1,2,0),(2,4,3),(3,8,4),(4,16,0),(5,32,0),(6,64,32),(7,128,88),(8,256,128),(9,512,256),(10,1024,256),(11,2048,256),(12,4096,0),(13,8192,5119),(14,16384,14335),(15,32768,32767)] [0,1,2,16,32,4096,3,17,33,4097,18,34,4098,48,4112,96,4128,7,19,35,4099,49,4113,97,4129,50,4114,98,4130,112,4144,4192,15,23,39,4103,51,4115,99,4131,113,4145,4193,114,4146,4194,4208,31,47,4111,55,4119,103,4135,115,4147,4195,4209,4210,63,4127,111,4143,119,4151,4199,4211,127,4159,4207,4215,255,4223,511,4351,1023,1535,2559,4607,2047,3071,5119,3583,5631,6655,4095,6143,7167,13311,7679,8191,14335,15359,16383,30719,32767,65535] (fun m=>⟨sel m [(1,31,At t),(2,32,I i),(4,33,.ep .no i b.c 0),(8,34,.agg b.c),(16,35,.agg p.c),(32,36,.ptr 320 1),(64,37,.agg a.amt.c),(128,38,.tup [.agg q'.c,Ax g,I x]),(256,30,.tup [.agg q'.c,Ax g,I x]),(512,39,.agg q'.c),(1024,40,Ax g),(2048,41,I x),(4096,11,.ptr 704 0),(16384,12,Ax g),(32768,13,I x)]++[(9,I i),(0,At t),(4,.ptr 256 0),(5,.ptr 320 0),(10,.ptr 640 0)],((if m / 4096%2=1 then [(704,(if m / 8192%2=1 then q'.c else q0.c))] else [])++[(256,p.c),(320,a.c),(640,H.c)])⟩) ?_ ?_ ?_ fol
 ·exact AE
 ·simp (maxSteps:=100000000)only[Cz,Cy,C9,C8,and_true,Nat.reduceDiv,Nat.reduceMod,Nat.reduceAnd,Nat.reduceEqDiff,reduceIte,true_and,and_false,false_and,and_self]
  repeat'(with_reducible refine And.intro ?_ ?_)
  all_goals simp(disch:=omega)only[go_sem,gm,hb,nil_append,q0]
  all_goals first|exact Imp.weak (by simp(disch:=omega)only[go_sem]) (by simp(disch:=omega)only[go_sem,nil_append,cons_append,q0])|(refine Aa hq ?_;simp(disch:=omega)only[go_sem];exact Imp.weak (by simp(disch:=omega)only[go_sem]) (by simp(disch:=omega)only[go_sem,nil_append,cons_append,q0]))
 cases hx:(x !=0)
 rotate_left
 ·simp(disch:=omega)only[go_sem,hx,nil_append,cons_append,map_nil]
  exact DR24 _
 simp(disch:=omega)only[go_sem,hx,nil_append,cons_append]
 have hgl2:=Fb a.name g
 have hbd:1+(B7 a.name g).length≤4294967296:=by omega
 have hbd0:(B7 a.name g).length≤4294967296:=by omega
 cases hne:decide (H=a.amt)
 all_goals
  simp(disch:=omega)only[go_sem,hne,Bool.not_false,Bool.not_true]
  refine Aj 9 [([],[0]),([],[9]),([],[11]),([],[58,59,60]),([],[14]),([],[5]),([],[63]),([],[12]),([3],[64,65])] fol ?_
  refine gO ?_
  first|(refine Aa (f256_ok t i q' hn hi) ?_)|(refine Ai (f256_ok t i q' hn hi) ?_)
  refine gO ?_
  first|(refine Aa (f257_ok a.name g (by omega)) ?_)|(refine Ai (f257_ok a.name g (by omega)) ?_)
  refine gO ?_
  refine B3 ⟨[],[],[4288]⟩ _ ?_
  simp(disch:=omega)only[go_sem,hne]
  try exact .tup (Af.AD (by simp(disch:=omega)only[go_sem];exact .sl (by simp[Ev.c])))
def mix{α:Type}(f:α→α)(l:List α)(i:Nat):List α:=(l.take i).map f++l.drop i
section
variable {α:Type}
@[go_sem] theorem YH(f:α→α)(l:List α)(i:Nat):(mix f l i).length=l.length:=by simp[mix];omega
theorem YG{f:α→α}{l:List α}{i:Nat}(h:i≤l.length):(mix f l i)[i]?=l[i]?:=by
 unfold mix
 rw[List.getElem?_append_right (by simp;omega)]
 simp[Nat.min_eq_left h]
theorem YI{f:α→α}{l:List α}{i:Nat}{b:α}(hb:l[i]?=some b):(mix f l i).set i (f b)=mix f l (i+1):=by
 have hk:=Al hb
 have hd:l.drop i=b::l.drop (i+1):=by rw[List.drop_eq_getElem_cons hk,get_eq hb]
 unfold mix
 rw[List.take_add_one,hb,hd,List.set_append_right _ _ (by simp;omega)]
 simp[Nat.min_eq_left (Nat.le_of_lt hk)]
theorem YF(f:α→α)(l:List α):mix f l l.length=l.map f:=by simp[mix]
theorem Pg(f:α→α)(l:List α):mix f l 0=l:=by simp[mix]
end
def Cq(p:Proc)(q:Queue):Queue × List Ev:=if OW q p then ((Ez q p).1,(if (Ap q.holds p).zero then [] else [⟨3,p,q.res.name,⟨0,0⟩⟩])++B7 (Ez q p).1.res.name (Ez q p).2.1) else (q,[])
def BO(t:List Queue)(p:Proc):List Queue × List Ev:=if Fy t then (t.map fun q=>(Cq p q).1,t.flatMap fun q=>(Cq p q).2) else ([],[])
def HG(t:List Queue)(p:Proc)(i:Nat):List Ev:=(t.take i).flatMap fun q=>(Cq p q).2
theorem Pr{t:List Queue}{p:Proc}{i:Nat}{b:Queue}(hb:t[i]?=some b):HG t p (i+1)=HG t p i++(Cq p b).2:=by
 simp[HG,List.take_add_one,hb]
theorem Tt{p:Proc}{q:Queue}(h:Br q≤100):(Cq p q).2.length≤101:=by
 have:=Ts q p
 unfold Cq
 split
 ·simp only[length_append,Fb]
  split
  ·simp;omega
  ·simp;omega
 ·simp
theorem M3{t:List Queue}{p:Proc}(h:∀ q∈t,Br q≤100):∀ i,i≤t.length→(HG t p i).length≤101*i
 | 0,_=>by simp[HG]
 | i+1,hi=>by
  obtain⟨b,hb⟩:∃ b,t[i]?=some b:=⟨_,gE (by omega)⟩
  have h1:=M3 (p:=p) h i (by omega)
  have h2:=Tt (p:=p) (h b (mG hb))
  rw[Pr hb]
  simp;omega
theorem f196_ok(t:List Queue)(p:Proc)(h:Di t):Ac C0 196 [At t,.agg p.c] [] (.tup [At (BO t p).1,SF (BO t p).2]) []:=by
 have hn:=h.n
 refine Ac.go f196 ?_
 unfold f196
 refine gO ?_
 refine Aa (f115_ok t h) ?_
 cases ht:Fy t
 ·have e:BO t p=([],[]):=by simp[BO,ht]
  simp(disch:=omega)only[go_sem,Bool.not_false,e,map_nil]
  exact DR24 _
 simp(disch:=omega)only[go_sem,Bool.not_true]
 refine Ab (α:=Nat) (fun i=>⟨[(8,I i),(7,.sl (.own 4480 0) 7 ((HG t p i).map Ev.c)),(6,.sl (.own 1088 0) 8 ((mix (fun q=>(Cq p q).1) t i).map Queue.c)),(3,.ptr 192 0)],[(192,p.c)]⟩) (fun i=>i≤(t).length∧True) (fun i=>(t).length-i) 0 ⟨by omega,trivial⟩ ?_ ?_
 ·refine Imp.weak ?_ ?_
  all_goals(try simp(disch:=omega)only[go_sem])
  all_goals(try(repeat'(with_reducible apply And.intro)))
  all_goals(first|exact .AA (by omega)|exact .Au (by omega)|exact .sl (by simp[Pg,HG])|exact .int (by simp[Pg,HG])|exact .eq (by simp[Pg,HG]))
 rintro i ⟨hi,hP⟩ J hJ
 refine gO ?_
 refine ⟨fun hlt=>?_,fun hge=>?_⟩
 rotate_left
 have hil:i=(t).length:=by simp at hge;omega
 rotate_left
 obtain⟨b,hb⟩:∃ b,(t)[i]?=some b:=⟨_,gE (by simp at hlt;omega)⟩
 have hbm:=mG hb
 have hlt2:i<(t).length:=by simp at hlt;omega
 ·have hbq:=h.q b hbm
  have hg:=YG (f:=fun q=>(Cq p q).1) (l:=t) (i:=i) (by omega)
  have hs:=YI (f:=fun q=>(Cq p q).1) hb
  have hel:=M3 (p:=p) h.q i (by omega)
  have hen:=Pr (p:=p) hb
  rw[hb]at hg
  have hml:=YH (fun q=>(Cq p q).1) t i
  generalize mix (fun q=>(Cq p q).1) t i=M at hg hs hml ⊢
  generalize hE:HG t p i=E at hel hen ⊢
  obtain⟨b1,b2,b3⟩:=A5 hbq
  refine Aj 5 [([],[6]),([],[8]),([],[24,25]),([],[26]),([],[3])] fol ?_
  simp(disch:=omega)only[go_sem,gm,hg]
  first|(refine Aa (f109_ok b p (by omega)) ?_)|(refine Ai (f109_ok b p (by omega)) ?_)
  cases hh:OW b p
  ·simp(disch:=omega)only[go_sem,Bool.not_false]
   have e1:Cq p b=(b,[]):=by simp[Cq,hh]
   rw[e1]at hs hen
   have hMb:M.set i b=M:=by
    apply List.ext_getElem?
    intro j
    rw[List.getElem?_set]
    split
    ·rename_i hij;subst hij;rw[hg];simp;omega
    ·rfl
   simp only[hMb]at hs
   refine hJ _ (i+1) ⟨by omega,trivial⟩ (by omega) (Imp.weak ?_ ?_)
   all_goals(try simp(disch:=omega)only[go_sem])
   exact⟨.sl (by rw[hen];simp),.sl (by rw[hs])⟩
  simp(disch:=omega)only[go_sem,Bool.not_true]
  obtain⟨D,hD⟩:∃ D,D=(if (Ap b.holds p).zero then [] else [(⟨3,p,b.res.name,⟨0,0⟩⟩:Ev)]):=⟨_,rfl⟩
  have hst:Cq p b=((Ez b p).1,D++B7 (Ez b p).1.res.name (Ez b p).2.1):=by simp[Cq,hh,hD]
  have hDl:D.length≤1:=by rw[hD];split<;>simp
  rw[hst]at hs hen
  have hq:=f110_ok b p hbq
  have hgl:=Ts b p
  generalize Ez b p=R at hs hen hq hgl
  obtain⟨q',g,x⟩:=R
  simp only at hs hen hq hgl
  have hgl2:=Fb q'.res.name g
  have hbd1:E.length+1≤4294967296:=by omega
  have hbd2:E.length+D.length+(B7 q'.res.name g).length≤4294967296:=by omega
  refine Aj 5 [([],[6]),([],[8]),([],[31,32]),([],[33]),([],[3])] fol ?_
  simp(disch:=omega)only[go_sem,gm,hg]
  first|(refine Aa (f163_ok b p b1) ?_)|(refine Ai (f163_ok b p b1) ?_)
  refine gO ?_
  first|(refine Aa (f162_ok (Ap b.holds p)) ?_)|(refine Ai (f162_ok (Ap b.holds p)) ?_)
  cases hz:(Ap b.holds p).zero
  all_goals simp(disch:=omega)only[go_sem,Bool.not_false,Bool.not_true]
  rotate_left
  rw[hz]at hD
  rotate_left
  rw[hz]at hD
  refine Aj 10 [([],[7]),([],[3]),([],[6]),([],[8]),([],[41,42]),([],[43]),([],[44]),([],[45]),([],[40,46]),([],[47])] fol ?_
  simp(disch:=omega)only[go_sem,gm,hg]
  all_goals
   refine CA 16383 [(0,1,0),(1,2,0),(2,4,3),(3,8,4),(4,16,0),(5,32,24),(6,64,32),(7,128,64),(8,256,64),(9,512,64),(10,1024,0),(11,2048,1279),(12,4096,3583),(13,8192,8191)] [0,1,2,16,1024,3,17,1025,18,1026,1040,7,19,1027,1041,1042,15,23,1031,1043,31,1039,1047,63,1055,127,1087,255,383,639,1151,511,767,1279,895,1407,1663,1023,1535,1791,3327,1919,2047,3583,3839,4095,7679,8191,16383] (fun m=>⟨sel m [(1,51,.sl (.own 1088 0) 8 (M.map Queue.c)),(2,52,I i),(4,53,.ep (.own 1088 0) i b.c 0),(8,54,.agg b.c),(16,55,.agg p.c),(32,56,.tup [.agg q'.c,Ax g,I x]),(64,50,.tup [.agg q'.c,Ax g,I x]),(128,57,.agg q'.c),(256,58,Ax g),(512,59,I x),(1024,9,.ptr 576 0),(4096,10,Ax g),(8192,11,I x)]++[(8,I i),(7,.sl (.own 4480 0) 7 ((E++D).map Ev.c)),(6,.sl (.own 1088 0) 8 (M.map Queue.c)),(3,.ptr 192 0)],((if m / 1024%2=1 then [(576,(if m / 2048%2=1 then q'.c else q0.c))] else [])++[(192,p.c)])⟩) ?_ ?_ ?_ fol
   ·first|exact Imp.weak (by simp(disch:=omega)only[go_sem];exact .sl (by simp[hD])) (by simp(disch:=omega)only[go_sem,nil_append])|exact Imp.ren ⟨[(3136,4480),(1088,1088)],[(192,192)],[]⟩ ⟨rfl,rfl⟩ (by simp[lk]) (by simp(disch:=omega)only[go_sem];exact .sl (by simp[hD,Ev.c])) (by simp(disch:=omega)only[go_sem,nil_append])
   ·simp (maxSteps:=100000000)only[Cz,Cy,C9,C8,and_true,Nat.reduceDiv,Nat.reduceMod,Nat.reduceAnd,Nat.reduceEqDiff,reduceIte,true_and,and_false,false_and,and_self]
    repeat'(with_reducible refine And.intro ?_ ?_)
    all_goals simp(disch:=omega)only[go_sem,gm,hg,nil_append,q0]
    all_goals first|exact Imp.weak (by simp(disch:=omega)only[go_sem]) (by simp(disch:=omega)only[go_sem,nil_append,cons_append,q0])|(refine Aa hq ?_;simp(disch:=omega)only[go_sem];exact Imp.weak (by simp(disch:=omega)only[go_sem]) (by simp(disch:=omega)only[go_sem,nil_append,cons_append,q0]))
   simp(disch:=omega)only[go_sem,nil_append,cons_append,gm,hg]
   refine Aa (f257_ok q'.res.name g (by omega)) ?_
   simp(disch:=omega)only[go_sem,length_append]
   refine hJ _ (i+1) ⟨by omega,trivial⟩ (by omega) (Imp.weak ?_ ?_)
   all_goals(try simp(disch:=omega)only[go_sem])
   exact⟨.sl (by rw[hen];simp),.sl (by rw[← hs,map_set];rfl)⟩
 ·subst hil
  rw[YF]
  have e:BO t p=(t.map fun q=>(Cq p q).1,HG t p t.length):=by simp[BO,ht,HG]
  rw[e]
  refine B3 ⟨[],[],[4480,1088]⟩ _ ?_
  refine gO ?_
  exact .eq (by simp)
theorem f70_ok(c:Cen)(h1:c.queues.length≤1000000)(h2:c.procs.length≤1000000):Ac C0 70 [.agg c.c] [] (.agg [I c.now,At c.queues,.sl (.own 0 0) 16 (c.procs.map Pcs.c)]) []:=by
 refine Ac.go f70 ?_
 unfold f70
 refine gO ?_
 refine B3 ⟨[(704,0)],[],[384]⟩ _ ?_
 simp(disch:=omega)only[go_sem]
def Cc(w:Work)(t:List Queue)(ev:List Ev):Work:={ w with queues:=t,evs:=w.evs++ev }
theorem f184_ok(w:Work)(t:List Queue)(ev:List Ev)(h:w.evs.length+ev.length≤4294967296):Ac C0 184 [.ptr 63 0,At t,SF ev] [(63,w.c)] (.tup []) [(63,(Cc w t ev).c)]:=by
 refine Ac.go f184 ?_
 unfold f184
 refine gO ?_
 refine AU ⟨[(0,0),(1088,1)],[(63,63)],[]⟩ _ rfl ⟨rfl,rfl⟩ (by simp[lk]) ?_ ?_
 ·exact gI
 ·simp(disch:=omega)only[go_sem,Cc,map_append]
def evN(k:Int)(p:Proc):Ev:=⟨k,p,[],⟨0,0⟩⟩
def BM(w:Work)(k:Int)(p:Proc):Work:={ w with evs:=w.evs++[evN k p] }
theorem f182_ok(w:Work)(k:Int)(p:Proc)(h:w.evs.length+1≤4294967296):Ac C0 182 [.ptr 63 0,I k,.agg p.c] [(63,w.c)] (.tup []) [(63,(BM w k p).c)]:=by
 refine Ac.go f182 ?_
 unfold f182
 refine gO ?_
 refine CA 8191 [(0,1,0),(1,2,0),(2,4,2),(3,8,4),(4,16,8),(5,32,0),(6,64,0),(7,128,96),(8,256,128),(9,512,272),(10,1024,1023),(11,2048,2047),(12,4096,3071)] [0,1,2,32,64,3,33,65,6,34,66,96,7,35,67,97,14,38,70,98,224,15,39,71,99,225,30,46,78,102,226,480,31,47,79,103,227,481,62,94,110,230,482,63,95,111,231,483,126,238,486,127,239,487,254,494,255,495,510,511,1022,1023,2047,4095,8191] (fun m=>⟨sel m [(1,6,.ptr 63 0),(2,7,.ptr 63 0),(4,8,.ptr 63 0),(8,9,.ptr 63 3),(16,10,(if m / 512%2=1 then .undef else .sl (.own 1 0) 7 (w.evs.map Ev.c))),(32,11,I k),(64,12,.agg p.c),(128,13,.agg (evN k p).c),(256,14,.sl (.own 896 0) 7 [(evN k p).c]),(512,15,.sl (.own 960 0) 7 ((w.evs++[evN k p]).map Ev.c)),(1024,16,.ptr 63 0),(2048,17,.ptr 63 3)]++[(0,.ptr 63 0),(1,I k),(5,.ptr 320 0)],[(320,p.c),(63,[I w.now,At w.queues,.sl (.own 0 0) 16 (w.procs.map Pcs.c),(if m / 512%2=1 then (if m / 4096%2=1 then .sl (.own 960 0) 7 ((w.evs++[evN k p]).map Ev.c) else .undef) else .sl (.own 1 0) 7 (w.evs.map Ev.c))])]⟩) ?_ ?_ ?_ fol
 ·exact AE
 ·simp (maxSteps:=100000000)only[Cz,Cy,C9,C8,and_true,Nat.reduceDiv,Nat.reduceMod,Nat.reduceAnd,Nat.reduceEqDiff,reduceIte,true_and,and_false,false_and,and_self]
  repeat'(with_reducible refine And.intro ?_ ?_)
  all_goals simp(disch:=omega)only[go_sem,map_append,map_cons,map_nil,evN]
  all_goals exact Imp.weak (by simp(disch:=omega)only[go_sem,map_append,map_cons,map_nil,evN]) (by simp(disch:=omega)only[go_sem,map_append,map_cons,map_nil,evN])
 refine gO ?_
 refine AU ⟨[(0,0),(960,1)],[(63,63)],[]⟩ _ rfl ⟨rfl,rfl⟩ (by simp[lk]) ?_ ?_
 ·exact gI
 ·simp(disch:=omega)only[go_sem,BM,map_append]
  try exact .sl (by simp[Ev.c])
def Bx(x:Pcs):Pcs:={ x with waiting:=false,req:=Df,since:=0 }
def AH(w:Work)(i:Nat)(x:Pcs):Work:={ w with procs:=w.procs.set i x }
theorem f186_ok(w:Work)(i:Nat)(x:Pcs)(hx:w.procs[i]?=some x):Ac C0 186 [.ptr 63 0,I i] [(63,w.c)] (.tup []) [(63,(AH w i (Bx x)).c)]:=by
 have hi:=Al hx
 refine Ac.go f186 ?_
 unfold f186
 simp(disch:=omega)only[go_sem,gm,hx,List.getElem?_set,List.length_map,List.length_set]
 refine AU ⟨[(0,0),(1,1)],[(63,63)],[]⟩ _ rfl ⟨rfl,rfl⟩ (by simp[lk]) ?_ ?_
 ·exact gI
 ·simp(disch:=omega)only[go_sem,AH]
  rw[map_set,set_set,set_set]
  refine .YJ (FF.set ?_ _ _)
  simp only[Pcs.c,Bx,Df,e0,a0,Expr.k,Expr.atom,Expr.kids,ID,TT,map_nil]
  simp
def Ch(x:Pcs):Pcs:={ x with gen:=JX x.gen }
theorem f121_ok(w:Work)(i:Nat)(x:Pcs)(hx:w.procs[i]?=some x):Ac C0 121 [.ptr 63 0,I i] [(63,w.c)] (.tup []) [(63,(AH w i (Ch x)).c)]:=by
 have hi:=Al hx
 refine Ac.go f121 ?_
 unfold f121
 refine gO ?_
 refine Aj 16 [([],[0]),([],[4]),([],[5]),([],[6]),([],[7]),([],[1]),([],[0]),([],[10]),([],[11]),([],[12]),([],[13]),([],[1]),([],[14,15]),([],[16]),([],[17]),([],[18])] fol ?_
 simp(disch:=omega)only[go_sem,gm,hx]
 first|(refine Aa (f187_ok x.gen) ?_)|(refine Ai (f187_ok x.gen) ?_)
 simp(disch:=omega)only[go_sem,gm,hx]
 refine AU ⟨[(0,0),(1,1)],[(63,63)],[]⟩ _ rfl ⟨rfl,rfl⟩ (by simp[lk]) ?_ ?_
 ·exact gI
 ·simp(disch:=omega)only[go_sem,AH]
  exact .sl (by rw[map_set];rfl)
theorem Nn{t:List Queue}(h:Di t)(p:Proc)(n:Bs):(Cn t p n).2.1.length≤100:=by
 unfold Cn
 split
 ·simp
 ·cases hf:BR t n with
  |none=>simp
  |some i =>
   simp only
   split
   ·simp
   ·obtain⟨hi,b,hb,_⟩:=CK hf
    have hg:t.getD i q0=b:=by simp[List.getD,hb]
    rw[hg]
    simp only[Fb]
    exact le_trans (Nl b p) (h.q b (mG hb))
theorem FT{t:List Queue}(h:Di t)(p:Proc)(a:Atom):(AT t p a).2.1.length≤101:=by
 unfold AT
 split
 ·simp
 ·cases hf:BR t a.name with
  |none=>simp
  |some i =>
   simp only
   split
   ·simp
   ·obtain⟨hi,b,hb,_⟩:=CK hf
    have hg:t.getD i q0=b:=by simp[List.getD,hb]
    rw[hg]
    have:=le_trans (O8 b p a.amt) (h.q b (mG hb))
    simp only[length_append,Fb]
    split<;>simp<;>omega
theorem Ow{t:List Queue}(h:Di t)(p:Proc)(a:Atom)(prio:Int):(Ds t p a prio).2.1.length≤101:=by
 unfold Ds
 split
 ·simp
 ·cases hf:BR t a.name with
  |none=>simp
  |some i =>
   simp only
   split
   ·simp
   ·split
    ·simp
    ·obtain⟨hi,b,hb,_⟩:=CK hf
     have hg:t.getD i q0=b:=by simp[List.getD,hb]
     rw[hg]
     have h1:=Ov b p a.amt prio
     have h2:=h.q b (mG hb)
     simp only[Fb]
     omega
def D8(w:Work)(x:Pcs)(name:Bs)(k:Nat):Work:=if (Ao (w.queues.getD k q0) x.proc).isSome then Cc w (Cn w.queues x.proc name).1 (Cn w.queues x.proc name).2.1 else w
def LL(w:Work)(x:Pcs)(name:Bs)(k:Nat):Work:=if decide (Ap (w.queues.getD k q0).holds x.proc=Ar x.led.entries name) then w else Cc w (AT w.queues x.proc ⟨name,Ar x.led.entries name⟩).1 (AT w.queues x.proc ⟨name,Ar x.led.entries name⟩).2.1
def EV(w:Work)(x:Pcs)(name:Bs):Work:=match BR w.queues name with
 |none=>w
 |some k=>LL (D8 w x name k) x name k
theorem f185_ok(w:Work)(x:Pcs)(name:Bs)(k:Nat)(hf:BR w.queues name=some k)(h1:Di w.queues)(hev:w.evs.length≤1000000)(hk:k<(D8 w x name k).queues.length)(h2:Di (D8 w x name k).queues) :
 Ac C0 185 [.ptr 63 0,.agg x.c,.v (.string (str name))] [(63,w.c)] (.tup []) [(63,(EV w x name).c)]:=by
 obtain⟨hk0,b,hb,_⟩:=CK hf
 have hg:w.queues.getD k q0=b:=by simp[List.getD,hb]
 obtain⟨q1,q2,q3⟩:=A5 (h1.q b (mG hb))
 have hn:=h1.n
 have hdk:EV w x name=LL (D8 w x name k) x name k:=by simp[EV,hf]
 rw[hdk]
 have hA:D8 w x name k=if (Ao b x.proc).isSome then Cc w (Cn w.queues x.proc name).1 (Cn w.queues x.proc name).2.1 else w:=by unfold D8;rw[hg]
 have hcl:=Nn h1 x.proc name
 obtain⟨b2,hb2⟩:∃ b2,(D8 w x name k).queues[k]?=some b2:=⟨_,gE hk⟩
 have hg2:(D8 w x name k).queues.getD k q0=b2:=by simp[List.getD,hb2]
 obtain⟨r1,r2,r3⟩:=A5 (h2.q b2 (mG hb2))
 have hB:LL (D8 w x name k) x name k=if decide (Ap b2.holds x.proc=Ar x.led.entries name) then (D8 w x name k) else Cc (D8 w x name k) (AT (D8 w x name k).queues x.proc ⟨name,Ar x.led.entries name⟩).1 (AT (D8 w x name k).queues x.proc ⟨name,Ar x.led.entries name⟩).2.1:=by unfold LL;rw[hg2]
 rw[hB]
 have hll:=FT h2 x.proc ⟨name,Ar x.led.entries name⟩
 generalize D8 w x name k=w1 at hA hk h2 hb2 hg2 hll ⊢
 clear hB
 refine Ac.go f185 ?_
 unfold f185
 refine gO ?_
 refine Aa (Ia w.queues name (by omega)) ?_
 simp(disch:=omega)only[go_sem,hf,atI]
 refine CA 131071 [(0,1,0),(1,2,1),(2,4,2),(3,8,4),(4,16,8),(5,32,0),(6,64,48),(7,128,64),(8,256,0),(9,512,256),(10,1024,640),(11,2048,1024),(12,4096,2048),(13,8192,2048),(14,16384,0),(15,32768,24575),(16,65536,65535)] [0,1,32,256,16384,3,33,257,16385,288,16416,768,16640,7,35,259,16387,289,16417,769,16641,800,16672,17152,15,39,263,16391,291,16419,771,16643,801,16673,17153,17184,31,47,271,16399,295,16423,775,16647,803,16675,17155,17185,63,287,16415,303,16431,783,16655,807,16679,17159,17187,127,319,16447,799,16671,815,16687,17167,17191,255,383,16511,831,16703,17183,17199,511,16639,895,16767,17215,1023,16895,17279,2047,17407,4095,18431,8191,12287,20479,16383,24575,28671,32767,57343,65535,131071] (fun m=>⟨sel m [(1,24,.ptr 63 0),(2,25,.ptr 63 0),(4,26,.ptr 63 0),(8,27,.ptr 63 1),(16,28,At w.queues),(32,29,I k),(64,30,.ep .no k b.c 0),(128,31,.agg b.c),(256,32,.ptr 256 0),(512,33,.agg x.proc.c),(1024,34,.tup [.agg ((Ao b x.proc).getD ⟨0,0⟩).c,B (Ao b x.proc).isSome]),(2048,23,.tup [.agg ((Ao b x.proc).getD ⟨0,0⟩).c,B (Ao b x.proc).isSome]),(4096,35,.agg ((Ao b x.proc).getD ⟨0,0⟩).c),(8192,36,B (Ao b x.proc).isSome),(16384,7,.ptr 448 0),(65536,8,B (Ao b x.proc).isSome)]++[(0,.ptr 63 0),(2,.v (.string (str name))),(4,.ptr 256 0),(6,I k)],((if m / 16384%2=1 then [(448,(if m / 32768%2=1 then ((Ao b x.proc).getD ⟨0,0⟩).c else (⟨0,0⟩:Amt).c))] else [])++[(63,w.c),(256,x.c)])⟩) ?_ ?_ ?_ fol
 ·exact AE
 ·simp (maxSteps:=100000000)only[Cz,Cy,C9,C8,and_true,Nat.reduceDiv,Nat.reduceMod,Nat.reduceAnd,Nat.reduceEqDiff,reduceIte,true_and,and_false,false_and,and_self]
  repeat'(with_reducible refine And.intro ?_ ?_)
  all_goals simp(disch:=omega)only[go_sem,gm,hb,nil_append]
  all_goals first|exact Imp.weak (by simp(disch:=omega)only[go_sem]) (by simp(disch:=omega)only[go_sem,nil_append,cons_append])|(refine Aa (f98_ok b x.proc q2 q3) ?_;simp(disch:=omega)only[go_sem];exact Imp.weak (by simp(disch:=omega)only[go_sem]) (by simp(disch:=omega)only[go_sem,nil_append,cons_append]))
 have hev1:w1.evs.length≤1000100:=by
  rw[hA];split
  ·simp[Cc];omega
  ·omega
 cases hw:(Ao b x.proc).isSome
 all_goals rw[hw]at hA
 all_goals simp only[Bool.false_eq_true,if_false,if_true]at hA
 all_goals simp(disch:=omega)only[go_sem,hw,nil_append,cons_append]
 subst hA
 rotate_left
 refine Aj 15 [([],[0]),([],[39]),([],[40]),([],[41]),([],[42]),([],[4]),([],[44]),([],[2]),([],[43,45,46]),([8],[47]),([8],[38]),([8],[38]),([8],[38]),([8],[48]),([8],[49])] fol ?_
 refine gO ?_
 first|(refine Aa (f258_ok w.queues x.proc name h1) ?_)|(refine Ai (f258_ok w.queues x.proc name h1) ?_)
 refine gO ?_
 refine call2 ⟨⟨[(0,0),(1,1)],[(63,63)],[]⟩,[],[]⟩ (f184_ok w (Cn w.queues x.proc name).1 (Cn w.queues x.proc name).2.1 (by omega)) ?_
 rw[← hA]
 simp(disch:=omega)only[go_sem]
 all_goals
  refine Aa (f190_ok x.led.entries name) ?_
  refine gO ?_
  refine Aj 12 [([],[0]),([],[60]),([],[61]),([],[62]),([],[63]),([],[6]),([],[64,65]),([],[66]),([],[4]),([],[68]),([],[67,69]),([],[12])] fol ?_
  simp(disch:=omega)only[go_sem,gm,hb2]
  first|(refine Aa (f163_ok b2 x.proc r1) ?_)|(refine Ai (f163_ok b2 x.proc r1) ?_)
  cases hH:decide (Ap b2.holds x.proc=Ar x.led.entries name)
  rotate_left
  ·simp only[if_true]
   simp(disch:=omega)only[go_sem,hH,Bool.not_true]
   refine BU ⟨[(0,0),(1,1)],[(63,63)],[]⟩ _ ?_ ?_
   ·exact gI
   ·exact gI
  simp only[Bool.false_eq_true,if_false]
  simp(disch:=omega)only[go_sem,hH,Bool.not_false]
  refine Aj 17 [([],[0]),([],[74]),([],[75]),([],[76]),([],[77]),([],[4]),([],[79]),([],[2]),([],[12]),([],[81,82]),([],[78,80,83]),([10],[84]),([10],[73]),([10],[73]),([10],[73]),([10],[85]),([10],[86])] fol ?_
  refine gO ?_
  first|(refine Aa (f192_ok w1.queues x.proc ⟨name,Ar x.led.entries name⟩ h2) ?_)|(refine Ai (f192_ok w1.queues x.proc ⟨name,Ar x.led.entries name⟩ h2) ?_)
  refine gO ?_
  refine call2 ⟨⟨[(0,0),(1,1)],[(63,63)],[]⟩,[],[]⟩ (f184_ok w1 (AT w1.queues x.proc ⟨name,Ar x.led.entries name⟩).1 (AT w1.queues x.proc ⟨name,Ar x.led.entries name⟩).2.1 (by omega)) ?_
  refine gO ?_
  refine BU ⟨[(0,0),(1,1)],[(63,63)],[]⟩ _ ?_ ?_
  ·exact gI
  ·exact gI
end Go.Rd
