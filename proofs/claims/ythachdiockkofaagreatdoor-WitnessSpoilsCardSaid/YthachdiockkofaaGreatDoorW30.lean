/- part 30 of the proof -/
import Derived.Test.YthachdiockkofaaGreatDoorW28
import Derived.Test.YthachdiockkofaaGreatDoorW29
set_option linter.all false
open Go Go.Abs Go.Proofs
set_option maxRecDepth 100000
namespace Go.Rd
set_option maxHeartbeats 8000000
open List (cons_append map_append map_cons map_nil map_set nil_append set_set)
open Tryz
theorem f70_ok(c:Cen)(h1:c.Aa.length≤1000000)(h2:c.procs.length≤1000000):Ad C0 70 [.agg c.c] [] (.agg [I c.now,Ay c.Aa,.sl (.own 0 0) 16 (c.procs.map Pcs.c)]) []:=by
 refine Ad.go f70 ?_;unfold f70;refine gO ?_;refine Cf ⟨[(704,0)],[],[384]⟩ _ ?_;simp(disch:=omega)only[go_sem]
def CB(w:Av)(t:List Queue)(ev:List Ev):Av:={ w with Aa:=t,CL:=w.CL++ev }
theorem f184_ok(w:Av)(t:List Queue)(ev:List Ev)(h:w.CL.length+ev.length≤4294967296):Ad C0 184 [.ptr 63 0,Ay t,Ug ev] [(63,w.c)] (.tup []) [(63,(CB w t ev).c)]:=by
 refine Ad.go f184 ?_;unfold f184;refine gO ?_;refine Bc ⟨[(0,0),(1088,1)],[(63,63)],[]⟩ _ rfl ⟨rfl,rfl⟩ (by simp[lk]) ?_ ?_
 ·exact gI
 ·simp(disch:=omega)only[go_sem,CB,map_append]
def evN(k:Int)(p:Ae):Ev:=⟨k,p,[],⟨0,0⟩⟩
def Cb(w:Av)(k:Int)(p:Ae):Av:={ w with CL:=w.CL++[evN k p] }
theorem f182_ok(w:Av)(k:Int)(p:Ae)(h:w.CL.length+1≤4294967296):Ad C0 182 [.ptr 63 0,I k,.agg p.c] [(63,w.c)] (.tup []) [(63,(Cb w k p).c)]:=by
 refine Ad.go f182 ?_;unfold f182;refine gO ?_;refine CA 8191 [(0,1,0),(1,2,0),(2,4,2),(3,8,4),(4,16,8),(5,32,0),(6,64,0),(7,128,96),(8,256,128),(9,512,272),(10,1024,1023),(11,2048,2047),(12,4096,3071)] [0,1,2,32,64,3,33,65,6,34,66,96,7,35,67,97,14,38,70,98,224,15,39,71,99,225,30,46,78,102,226,480,31,47,79,103,227,481,62,94,110,230,482,63,95,111,231,483,126,238,486,127,239,487,254,494,255,495,510,511,1022,1023,2047,4095,8191] (fun m=>⟨sel m [(1,6,.ptr 63 0),(2,7,.ptr 63 0),(4,8,.ptr 63 0),(8,9,.ptr 63 3),(16,10,(if m / 512%2=1 then .undef else .sl (.own 1 0) 7 (w.CL.map Ev.c))),(32,11,I k),(64,12,.agg p.c),(128,13,.agg (evN k p).c),(256,14,.sl (.own 896 0) 7 [(evN k p).c]),(512,15,.sl (.own 960 0) 7 ((w.CL++[evN k p]).map Ev.c)),(1024,16,.ptr 63 0),(2048,17,.ptr 63 3)]++[(0,.ptr 63 0),(1,I k),(5,.ptr 320 0)],[(320,p.c),(63,[I w.now,Ay w.Aa,.sl (.own 0 0) 16 (w.procs.map Pcs.c),(if m / 512%2=1 then (if m / 4096%2=1 then .sl (.own 960 0) 7 ((w.CL++[evN k p]).map Ev.c) else .undef) else .sl (.own 1 0) 7 (w.CL.map Ev.c))])]⟩) ?_ ?_ ?_ fol
 ·exact AR
 ·simp (maxSteps:=100000000)only[Cz,Cy,Dj,Di,and_true,Nat.reduceDiv,Nat.reduceMod,Nat.reduceAnd,Nat.reduceEqDiff,reduceIte,true_and,and_false,false_and,and_self]
  repeat'(with_reducible refine And.intro ?_ ?_)
  all_goals simp(disch:=omega)only[go_sem,map_append,map_cons,map_nil,evN]
  all_goals exact Imp.Am (by simp(disch:=omega)only[go_sem,map_append,map_cons,map_nil,evN]) (by simp(disch:=omega)only[go_sem,map_append,map_cons,map_nil,evN])
 refine gO ?_;refine Bc ⟨[(0,0),(960,1)],[(63,63)],[]⟩ _ rfl ⟨rfl,rfl⟩ (by simp[lk]) ?_ ?_
 ·exact gI
 ·simp(disch:=omega)only[go_sem,Cb,map_append]
  try exact .sl (by simp[Ev.c])
def BV(x:Pcs):Pcs:={ x with waiting:=false,req:=Dg,since:=0 }
def AX(w:Av)(i:Nat)(x:Pcs):Av:={ w with procs:=w.procs.set i x }
theorem f186_ok(w:Av)(i:Nat)(x:Pcs)(hx:w.procs[i]?=some x):Ad C0 186 [.ptr 63 0,I i] [(63,w.c)] (.tup []) [(63,(AX w i (BV x)).c)]:=by
 have hi:=At hx;refine Ad.go f186 ?_;unfold f186;simp(disch:=omega)only[go_sem,gm,hx,List.getElem?_set,List.length_map,List.length_set];refine Bc ⟨[(0,0),(1,1)],[(63,63)],[]⟩ _ rfl ⟨rfl,rfl⟩ (by simp[lk]) ?_ ?_
 ·exact gI
 ·simp(disch:=omega)only[go_sem,AX];rw[map_set,set_set,set_set];refine .br (Gl.set ?_ _ _);simp only[Pcs.c,BV,Dg,e0,a0,Expr.k,Expr.atom,Expr.kids,Jr,Vy,map_nil];simp
def CF(x:Pcs):Pcs:={ x with gen:=KU x.gen }
theorem f121_ok(w:Av)(i:Nat)(x:Pcs)(hx:w.procs[i]?=some x):Ad C0 121 [.ptr 63 0,I i] [(63,w.c)] (.tup []) [(63,(AX w i (CF x)).c)]:=by
 have hi:=At hx;refine Ad.go f121 ?_;unfold f121;refine gO ?_;refine Aq 16 [([],[0]),([],[4]),([],[5]),([],[6]),([],[7]),([],[1]),([],[0]),([],[10]),([],[11]),([],[12]),([],[13]),([],[1]),([],[14,15]),([],[16]),([],[17]),([],[18])] fol ?_;simp(disch:=omega)only[go_sem,gm,hx]
 first|(refine Ac (f187_ok x.gen) ?_)|(refine Ar (f187_ok x.gen) ?_)
 simp(disch:=omega)only[go_sem,gm,hx];refine Bc ⟨[(0,0),(1,1)],[(63,63)],[]⟩ _ rfl ⟨rfl,rfl⟩ (by simp[lk]) ?_ ?_
 ·exact gI
 ·simp(disch:=omega)only[go_sem,AX];exact .sl (by rw[map_set];rfl)
theorem OJ{t:List Queue}(h:DZ t)(p:Ae)(n:Bs):(CM t p n).2.1.length≤100:=by
 unfold CM;split
 ·simp
 ·cases hf:Cg t n with
  |none=>simp
  |some i =>
   simp only;split
   ·simp
   ·obtain⟨hi,b,hb,_⟩:=Dk hf;have hg:t.getD i q0=b:=by simp[List.getD,hb]
    rw[hg];simp only[FN];exact Nat.le_trans (OI b p) (h.q b (mG hb))
theorem Gz{t:List Queue}(h:DZ t)(p:Ae)(a:Atom):(Bi t p a).2.1.length≤101:=by
 unfold Bi;split
 ·simp
 ·cases hf:Cg t a.name with
  |none=>simp
  |some i =>
   simp only;split
   ·simp
   ·obtain⟨hi,b,hb,_⟩:=Dk hf;have hg:t.getD i q0=b:=by simp[List.getD,hb]
    rw[hg];have:=Nat.le_trans (Qz b p a.amt) (h.q b (mG hb));simp only[List.length_append,FN];split<;>simp<;>omega
theorem PX{t:List Queue}(h:DZ t)(p:Ae)(a:Atom)(prio:Int):(D6 t p a prio).2.1.length≤101:=by
 unfold D6;split
 ·simp
 ·cases hf:Cg t a.name with
  |none=>simp
  |some i =>
   simp only;split
   ·simp
   ·split
    ·simp
    ·obtain⟨hi,b,hb,_⟩:=Dk hf;have hg:t.getD i q0=b:=by simp[List.getD,hb]
     rw[hg];have h1:=PW b p a.amt prio;have h2:=h.q b (mG hb);simp only[FN];omega
def EP(w:Av)(x:Pcs)(name:Bs)(k:Nat):Av:=if (As (w.Aa.getD k q0) x.proc).isSome then CB w (CM w.Aa x.proc name).1 (CM w.Aa x.proc name).2.1 else w
def MV(w:Av)(x:Pcs)(name:Bs)(k:Nat):Av:=if decide (AB (w.Aa.getD k q0).holds x.proc=AF x.led.entries name) then w else CB w (Bi w.Aa x.proc ⟨name,AF x.led.entries name⟩).1 (Bi w.Aa x.proc ⟨name,AF x.led.entries name⟩).2.1
def Fv(w:Av)(x:Pcs)(name:Bs):Av:=match Cg w.Aa name with
 |none=>w
 |some k=>MV (EP w x name k) x name k
theorem f185_ok(w:Av)(x:Pcs)(name:Bs)(k:Nat)(hf:Cg w.Aa name=some k)(h1:DZ w.Aa)(hev:w.CL.length≤1000000)(hk:k<(EP w x name k).Aa.length)(h2:DZ (EP w x name k).Aa) :
 Ad C0 185 [.ptr 63 0,.agg x.c,.v (.string (str name))] [(63,w.c)] (.tup []) [(63,(Fv w x name).c)]:=by
 obtain⟨hk0,b,hb,_⟩:=Dk hf;have hg:w.Aa.getD k q0=b:=by simp[List.getD,hb]
 obtain⟨q1,q2,q3⟩:=Bb (h1.q b (mG hb));have hn:=h1.n;have hdk:Fv w x name=MV (EP w x name k) x name k:=by simp[Fv,hf]
 rw[hdk];have hA:EP w x name k=if (As b x.proc).isSome then CB w (CM w.Aa x.proc name).1 (CM w.Aa x.proc name).2.1 else w:=by unfold EP;rw[hg]
 have hcl:=OJ h1 x.proc name;obtain⟨b2,hb2⟩:∃ b2,(EP w x name k).Aa[k]?=some b2:=⟨_,gE hk⟩;have hg2:(EP w x name k).Aa.getD k q0=b2:=by simp[List.getD,hb2]
 obtain⟨r1,r2,r3⟩:=Bb (h2.q b2 (mG hb2));have hB:MV (EP w x name k) x name k=if decide (AB b2.holds x.proc=AF x.led.entries name) then (EP w x name k) else CB (EP w x name k) (Bi (EP w x name k).Aa x.proc ⟨name,AF x.led.entries name⟩).1 (Bi (EP w x name k).Aa x.proc ⟨name,AF x.led.entries name⟩).2.1:=by unfold MV;rw[hg2]
 rw[hB];have hll:=Gz h2 x.proc ⟨name,AF x.led.entries name⟩;generalize EP w x name k=w1 at hA hk h2 hb2 hg2 hll ⊢;clear hB;refine Ad.go f185 ?_;unfold f185;refine gO ?_;refine Ac (I2 w.Aa name (by omega)) ?_;simp(disch:=omega)only[go_sem,hf,atI];refine CA 131071 [(0,1,0),(1,2,1),(2,4,2),(3,8,4),(4,16,8),(5,32,0),(6,64,48),(7,128,64),(8,256,0),(9,512,256),(10,1024,640),(11,2048,1024),(12,4096,2048),(13,8192,2048),(14,16384,0),(15,32768,24575),(16,65536,65535)] [0,1,32,256,16384,3,33,257,16385,288,16416,768,16640,7,35,259,16387,289,16417,769,16641,800,16672,17152,15,39,263,16391,291,16419,771,16643,801,16673,17153,17184,31,47,271,16399,295,16423,775,16647,803,16675,17155,17185,63,287,16415,303,16431,783,16655,807,16679,17159,17187,127,319,16447,799,16671,815,16687,17167,17191,255,383,16511,831,16703,17183,17199,511,16639,895,16767,17215,1023,16895,17279,2047,17407,4095,18431,8191,12287,20479,16383,24575,28671,32767,57343,65535,131071] (fun m=>⟨sel m [(1,24,.ptr 63 0),(2,25,.ptr 63 0),(4,26,.ptr 63 0),(8,27,.ptr 63 1),(16,28,Ay w.Aa),(32,29,I k),(64,30,.ep .no k b.c 0),(128,31,.agg b.c),(256,32,.ptr 256 0),(512,33,.agg x.proc.c),(1024,34,.tup [.agg ((As b x.proc).getD ⟨0,0⟩).c,B (As b x.proc).isSome]),(2048,23,.tup [.agg ((As b x.proc).getD ⟨0,0⟩).c,B (As b x.proc).isSome]),(4096,35,.agg ((As b x.proc).getD ⟨0,0⟩).c),(8192,36,B (As b x.proc).isSome),(16384,7,.ptr 448 0),(65536,8,B (As b x.proc).isSome)]++[(0,.ptr 63 0),(2,.v (.string (str name))),(4,.ptr 256 0),(6,I k)],((if m / 16384%2=1 then [(448,(if m / 32768%2=1 then ((As b x.proc).getD ⟨0,0⟩).c else (⟨0,0⟩:Amt).c))] else [])++[(63,w.c),(256,x.c)])⟩) ?_ ?_ ?_ fol
 ·exact AR
 ·simp (maxSteps:=100000000)only[Cz,Cy,Dj,Di,and_true,Nat.reduceDiv,Nat.reduceMod,Nat.reduceAnd,Nat.reduceEqDiff,reduceIte,true_and,and_false,false_and,and_self]
  repeat'(with_reducible refine And.intro ?_ ?_)
  all_goals simp(disch:=omega)only[go_sem,gm,hb,nil_append]
  all_goals first|exact Imp.Am gI (by simp(disch:=omega)only[go_sem,nil_append,cons_append])|(refine Ac (f98_ok b x.proc q2 q3) ?_;simp(disch:=omega)only[go_sem];exact Imp.Am gI (by simp(disch:=omega)only[go_sem,nil_append,cons_append]))
 have hev1:w1.CL.length≤1000100:=by
  rw[hA];split
  ·simp[CB];omega
  ·omega
 cases hw:(As b x.proc).isSome
 all_goals rw[hw]at hA
 all_goals simp only[Bool.false_eq_true,if_false,if_true]at hA
 all_goals simp(disch:=omega)only[go_sem,hw,nil_append,cons_append]
 subst hA;rotate_left;refine Aq 15 [([],[0]),([],[39]),([],[40]),([],[41]),([],[42]),([],[4]),([],[44]),([],[2]),([],[43,45,46]),([8],[47]),([8],[38]),([8],[38]),([8],[38]),([8],[48]),([8],[49])] fol ?_;simp(disch:=omega)only[go_sem]
 first|(refine Ac (f258_ok w.Aa x.proc name h1) ?_)|(refine Ar (f258_ok w.Aa x.proc name h1) ?_)
 refine gO ?_;refine call2 ⟨⟨[(0,0),(1,1)],[(63,63)],[]⟩,[],[]⟩ (f184_ok w (CM w.Aa x.proc name).1 (CM w.Aa x.proc name).2.1 (by omega)) ?_;rw[← hA];simp(disch:=omega)only[go_sem]
 all_goals
  refine Ac (f190_ok x.led.entries name) ?_;refine gO ?_;refine Aq 12 [([],[0]),([],[60]),([],[61]),([],[62]),([],[63]),([],[6]),([],[64,65]),([],[66]),([],[4]),([],[68]),([],[67,69]),([],[12])] fol ?_;simp(disch:=omega)only[go_sem,gm,hb2]
  first|(refine Ac (f163_ok b2 x.proc r1) ?_)|(refine Ar (f163_ok b2 x.proc r1) ?_)
  cases hH:decide (AB b2.holds x.proc=AF x.led.entries name);rotate_left
  ·simp only[if_true];simp(disch:=omega)only[go_sem,hH,Bool.not_true];refine Ci ⟨[(0,0),(1,1)],[(63,63)],[]⟩ _ ?_ ?_
   ·exact gI
   ·exact gI
  simp only[Bool.false_eq_true,if_false];simp(disch:=omega)only[go_sem,hH,Bool.not_false];refine Aq 17 [([],[0]),([],[74]),([],[75]),([],[76]),([],[77]),([],[4]),([],[79]),([],[2]),([],[12]),([],[81,82]),([],[78,80,83]),([10],[84]),([10],[73]),([10],[73]),([10],[73]),([10],[85]),([10],[86])] fol ?_;simp(disch:=omega)only[go_sem]
  first|(refine Ac (f192_ok w1.Aa x.proc ⟨name,AF x.led.entries name⟩ h2) ?_)|(refine Ar (f192_ok w1.Aa x.proc ⟨name,AF x.led.entries name⟩ h2) ?_)
  refine gO ?_;refine call2 ⟨⟨[(0,0),(1,1)],[(63,63)],[]⟩,[],[]⟩ (f184_ok w1 (Bi w1.Aa x.proc ⟨name,AF x.led.entries name⟩).1 (Bi w1.Aa x.proc ⟨name,AF x.led.entries name⟩).2.1 (by omega)) ?_;refine gO ?_;refine Ci ⟨[(0,0),(1,1)],[(63,63)],[]⟩ _ ?_ ?_
  ·exact gI
  ·exact gI
end Go.Rd
