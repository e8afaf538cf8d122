/- part 23 of the proof -/
import Derived.Test.YteliegkcmjimoaaGreatDoorX22
set_option linter.all false
open Go Go.Abs Go.Proofs
set_option maxRecDepth 100000
namespace Go.Rd
set_option maxHeartbeats 8000000
open List (map_append map_cons map_nil map_set set_set)
open Tryz
def vH(c:Hw)(h1:c.Aa.length<=1000000)(h2:c.procs.length<=1000000):Ad C0 172 [.agg c.c] [] (.agg [I c.now,AN c.Aa,.sl (.own 0 0) 16 (c.procs.map Bu.c)]) []:=by
 refine Ad.go f172 ?_;unfold f172;refine gO ?_;refine CU ⟨[(704,0)],[],[384]⟩ _ ?_;simp(disch:=omega)only[go_sem]
def Da(w:Ap)(t:List Queue)(ev:List Ev):Ap:={ w with Aa:=t,D1:=w.D1++ev }
def Nb(w:Ap)(t:List Queue)(ev:List Ev)(h:w.D1.length+ev.length<=4294967296):Ad C0 269 [.ptr 63 0,AN t,dh ev] [(63,w.c)] (.BC []) [(63,(Da w t ev).c)]:=by
 refine Ad.go f269 ?_;unfold f269;refine gO ?_;refine AY ⟨[(0,0),(1088,1)],[(63,63)],[]⟩ _ rfl ⟨rfl,rfl⟩ (by simp[lk]) ?_ ?_
 ·exact gI
 ·simp(disch:=omega)only[go_sem,Da,map_append]
def yG(k:Int)(p:Ac):Ev:=⟨k,p,[],⟨0,0⟩⟩
def CL(w:Ap)(k:Int)(p:Ac):Ap:={ w with D1:=w.D1++[yG k p] }
def aT(w:Ap)(k:Int)(p:Ac)(h:w.D1.length+1<=4294967296):Ad C0 267 [.ptr 63 0,I k,.agg p.c] [(63,w.c)] (.BC []) [(63,(CL w k p).c)]:=by
 refine Ad.go f267 ?_;unfold f267;refine gO ?_;refine Dj 8191 [(0,1,0),(1,2,0),(2,4,2),(3,8,4),(4,16,8),(5,32,0),(6,64,0),(7,128,96),(8,256,128),(9,512,272),(10,1024,1023),(11,2048,2047),(12,4096,3071)] [0,1,2,32,64,3,33,65,6,34,66,96,7,35,67,97,14,38,70,98,224,15,39,71,99,225,30,46,78,102,226,480,31,47,79,103,227,481,62,94,110,230,482,63,95,111,231,483,126,238,486,127,239,487,254,494,255,495,510,511,1022,1023,2047,4095,8191] (λm=>⟨XE m [(1,6,.ptr 63 0),(2,7,.ptr 63 0),(4,8,.ptr 63 0),(8,9,.ptr 63 3),(16,10,(if m / 512%2=1 then .undef else .sl (.own 1 0) 7 (w.D1.map Ev.c))),(32,11,I k),(64,12,.agg p.c),(128,13,.agg (yG k p).c),(256,14,.sl (.own 896 0) 7 [(yG k p).c]),(512,15,.sl (.own 960 0) 7 ((w.D1++[yG k p]).map Ev.c)),(1024,16,.ptr 63 0),(2048,17,.ptr 63 3)]++[(0,.ptr 63 0),(1,I k),(5,.ptr 320 0)],[(320,p.c),(63,[I w.now,AN w.Aa,.sl (.own 0 0) 16 (w.procs.map Bu.c),(if m / 512%2=1 then (if m / 4096%2=1 then .sl (.own 960 0) 7 ((w.D1++[yG k p]).map Ev.c) else .undef) else .sl (.own 1 0) 7 (w.D1.map Ev.c))])]⟩) ?_ ?_ ?_ B6
 ·exact AK
 ·simp (maxSteps:=100000000)only[Di,Dh,D0,DZ,and_true,Nat.reduceDiv,Nat.reduceMod,Nat.reduceAnd,Nat.reduceEqDiff,reduceIte,true_and,and_false,false_and,and_self]
  repeat'(with_reducible refine And.intro ?_ ?_)
  all_goals simp(disch:=omega)only[go_sem,map_append,map_cons,map_nil,yG]
  all_goals exact AT.Aq (by simp(disch:=omega)only[go_sem,map_append,map_cons,map_nil,yG]) (by simp(disch:=omega)only[go_sem,map_append,map_cons,map_nil,yG])
 refine gO ?_;refine AY ⟨[(0,0),(960,1)],[(63,63)],[]⟩ _ rfl ⟨rfl,rfl⟩ (by simp[lk]) ?_ ?_
 ·exact gI
 ·simp(disch:=omega)only[go_sem,CL,map_append]
  try exact .sl (by simp[Ev.c])
def CH(x:Bu):Bu:={ x with waiting:=false,Bk:=Fc,since:=0 }
def AW(w:Ap)(i:Nat)(x:Bu):Ap:={ w with procs:=w.procs.set i x }
def kZ(w:Ap)(i:Nat)(x:Bu)(hx:w.procs[i]?=some x):Ad C0 271 [.ptr 63 0,I i] [(63,w.c)] (.BC []) [(63,(AW w i (CH x)).c)]:=by
 have hi:=Au hx;refine Ad.go f271 ?_;unfold f271;simp(disch:=omega)only[go_sem,gm,hx,List.getElem?_set,List.length_map,List.length_set];refine AY ⟨[(0,0),(1,1)],[(63,63)],[]⟩ _ rfl ⟨rfl,rfl⟩ (by simp[lk]) ?_ ?_
 ·exact gI
 ·simp(disch:=omega)only[go_sem,AW];rw[map_set,set_set,set_set];refine .xL (II.set ?_ _ _);simp only[Bu.c,CH,Fc,e0,a0,Expr.k,Expr.atom,Expr.kids,MU,gx,map_nil];simp
def CA(x:Bu):Bu:={ x with gen:=OW x.gen }
theorem Ll(w:Ap)(i:Nat)(x:Bu)(hx:w.procs[i]?=some x):Ad C0 223 [.ptr 63 0,I i] [(63,w.c)] (.BC []) [(63,(AW w i (CA x)).c)]:=by
 have hi:=Au hx;refine Ad.go f223 ?_;unfold f223;refine gO ?_;refine Ay 16 [([],[0]),([],[4]),([],[5]),([],[6]),([],[7]),([],[1]),([],[0]),([],[10]),([],[11]),([],[12]),([],[13]),([],[1]),([],[14,15]),([],[16]),([],[17]),([],[18])] B6 ?_;simp(disch:=omega)only[go_sem,gm,hx]
 first|(refine Ab (aJ x.gen) ?_)|(refine Ax (aJ x.gen) ?_)
 simp(disch:=omega)only[go_sem,gm,hx];refine AY ⟨[(0,0),(1,1)],[(63,63)],[]⟩ _ rfl ⟨rfl,rfl⟩ (by simp[lk]) ?_ ?_
 ·exact gI
 ·simp(disch:=omega)only[go_sem,AW];exact .sl (by rw[map_set];rfl)
def TP{t:List Queue}(h:Fa t)(p:Ac)(n:Bs):(Du t p n).2.1.length<=100:=by
 unfold Du;split
 ·simp
 ·cases hf:CG t n with
  |none=>simp
  |some i =>
   simp only;split
   ·simp
   ·obtain⟨hi,b,hb,_⟩:=D2 hf;have hg:t.getD i q0=b:=by grind
    rw[hg];simp only[HN];exact Nat.le_trans (TO b p) (h.q b (mG hb))
theorem IZ{t:List Queue}(h:Fa t)(p:Ac)(a:Atom):(BH t p a).2.1.length<=101:=by
 unfold BH;split
 ·simp
 ·cases hf:CG t a.name with
  |none=>simp
  |some i =>
   simp only;split
   ·simp
   ·obtain⟨hi,b,hb,_⟩:=D2 hf;have hg:t.getD i q0=b:=by grind
    rw[hg];have:=Nat.le_trans (W5 b p a.AH) (h.q b (mG hb));simp only[List.length_append,HN];split<;>simp<;>omega
def VZ{t:List Queue}(h:Fa t)(p:Ac)(a:Atom)(prio:Int):(EK t p a prio).2.1.length<=101:=by
 unfold EK;split
 ·simp
 ·cases hf:CG t a.name with
  |none=>simp
  |some i =>
   simp only;split
   ·simp
   ·split
    ·simp
    ·obtain⟨hi,b,hb,_⟩:=D2 hf;have hg:t.getD i q0=b:=by grind
     rw[hg];have h1:=VY b p a.AH prio;have h2:=h.q b (mG hb);simp only[HN];omega
def EH(w:Ap)(x:Bu)(name:Bs)(k:Nat):Ap:=if (Ar (w.Aa.getD k q0) x.proc).isSome then Da w (Du w.Aa x.proc name).1 (Du w.Aa x.proc name).2.1 else w
def LZ(w:Ap)(x:Bu)(name:Bs)(k:Nat):Ap:=if decide (Am (w.Aa.getD k q0).holds x.proc=An x.AB.entries name) then w else Da w (BH w.Aa x.proc ⟨name,An x.AB.entries name⟩).1 (BH w.Aa x.proc ⟨name,An x.AB.entries name⟩).2.1
def Ed(w:Ap)(x:Bu)(name:Bs):Ap:=match CG w.Aa name with
 |none=>w
 |some k=>LZ (EH w x name k) x name k
def wy(w:Ap)(x:Bu)(name:Bs)(k:Nat)(hf:CG w.Aa name=some k)(h1:Fa w.Aa)(Y1:w.D1.length<=1000000)(hk:k<(EH w x name k).Aa.length)(h2:Fa (EH w x name k).Aa) :
 Ad C0 270 [.ptr 63 0,.agg x.c,.v (.string (str name))] [(63,w.c)] (.BC []) [(63,(Ed w x name).c)]:=by
 obtain⟨qP,b,hb,_⟩:=D2 hf;have hg:w.Aa.getD k q0=b:=by grind
 obtain⟨q1,q2,q3⟩:=Bt (h1.q b (mG hb));have hn:=h1.n;have hdk:Ed w x name=LZ (EH w x name k) x name k:=by simp[Ed,hf]
 rw[hdk];have hA:EH w x name k=if (Ar b x.proc).isSome then Da w (Du w.Aa x.proc name).1 (Du w.Aa x.proc name).2.1 else w:=by grind[EH]
 have RN:=TP h1 x.proc name;obtain⟨b2,Ss⟩:∃ b2,(EH w x name k).Aa[k]?=some b2:=⟨_,gE hk⟩;have iE:(EH w x name k).Aa.getD k q0=b2:=by grind
 obtain⟨r1,r2,r3⟩:=Bt (h2.q b2 (mG Ss));have hB:LZ (EH w x name k) x name k=if decide (Am b2.holds x.proc=An x.AB.entries name) then (EH w x name k) else Da (EH w x name k) (BH (EH w x name k).Aa x.proc ⟨name,An x.AB.entries name⟩).1 (BH (EH w x name k).Aa x.proc ⟨name,An x.AB.entries name⟩).2.1:=by grind[LZ]
 rw[hB];have rL:=IZ h2 x.proc ⟨name,An x.AB.entries name⟩;generalize EH w x name k=w1 at hA hk h2 Ss iE rL ⊢;clear hB;refine Ad.go f270 ?_;unfold f270;refine gO ?_;refine Ab (IT w.Aa name (by omega)) ?_;simp only[go_sem,hf,XZ];refine Dj 131071 [(0,1,0),(1,2,1),(2,4,2),(3,8,4),(4,16,8),(5,32,0),(6,64,48),(7,128,64),(8,256,0),(9,512,256),(10,1024,640),(11,2048,1024),(12,4096,2048),(13,8192,2048),(14,16384,0),(15,32768,24575),(16,65536,65535)] [0,1,32,256,16384,3,33,257,16385,288,16416,768,16640,7,35,259,16387,289,16417,769,16641,800,16672,17152,15,39,263,16391,291,16419,771,16643,801,16673,17153,17184,31,47,271,16399,295,16423,775,16647,803,16675,17155,17185,63,287,16415,303,16431,783,16655,807,16679,17159,17187,127,319,16447,799,16671,815,16687,17167,17191,255,383,16511,831,16703,17183,17199,511,16639,895,16767,17215,1023,16895,17279,2047,17407,4095,18431,8191,12287,20479,16383,24575,28671,32767,57343,65535,131071] (λm=>⟨XE m [(1,24,.ptr 63 0),(2,25,.ptr 63 0),(4,26,.ptr 63 0),(8,27,.ptr 63 1),(16,28,AN w.Aa),(32,29,I k),(64,30,.ep .no k b.c 0),(128,31,.agg b.c),(256,32,.ptr 256 0),(512,33,.agg x.proc.c),(1024,34,.BC [.agg ((Ar b x.proc).getD ⟨0,0⟩).c,B (Ar b x.proc).isSome]),(2048,23,.BC [.agg ((Ar b x.proc).getD ⟨0,0⟩).c,B (Ar b x.proc).isSome]),(4096,35,.agg ((Ar b x.proc).getD ⟨0,0⟩).c),(8192,36,B (Ar b x.proc).isSome),(16384,7,.ptr 448 0),(65536,8,B (Ar b x.proc).isSome)]++[(0,.ptr 63 0),(2,.v (.string (str name))),(4,.ptr 256 0),(6,I k)],((if m / 16384%2=1 then [(448,(if m / 32768%2=1 then ((Ar b x.proc).getD ⟨0,0⟩).c else (⟨0,0⟩:BR).c))] else [])++[(63,w.c),(256,x.c)])⟩) ?_ ?_ ?_ B6
 ·exact AK
 ·simp (maxSteps:=100000000)only[Di,Dh,D0,DZ,and_true,Nat.reduceDiv,Nat.reduceMod,Nat.reduceAnd,Nat.reduceEqDiff,reduceIte,true_and,and_false,and_self]
  repeat'(with_reducible refine And.intro ?_ ?_)
  all_goals simp(disch:=omega)only[go_sem,gm,hb,List.nil_append]
  all_goals first|exact AT.Aq gI (by simp(disch:=omega)only[go_sem])|(refine Ab (Nc b x.proc q2 q3) ?_;simp(disch:=omega)only[go_sem];exact AT.Aq gI (by simp(disch:=omega)only[go_sem]))
 have Abb:w1.D1.length<=1000100:=by grind[Da]
 cases hw:(Ar b x.proc).isSome
 all_goals rw[hw]at hA
 all_goals simp only[Bool.false_eq_true,if_false,if_true]at hA
 all_goals simp(disch:=omega)only[go_sem,List.nil_append,List.cons_append]
 subst hA;rotate_left;refine Ay 15 [([],[0]),([],[39]),([],[40]),([],[41]),([],[42]),([],[4]),([],[44]),([],[2]),([],[43,45,46]),([8],[47]),([8],[38]),([8],[38]),([8],[38]),([8],[48]),([8],[49])] B6 (gO ?_)
 first|(refine Ab (ln w.Aa x.proc name h1) ?_)|(refine Ax (ln w.Aa x.proc name h1) ?_)
 refine gO ?_;refine call2 ⟨⟨[(0,0),(1,1)],[(63,63)],[]⟩,[],[]⟩ (Nb w (Du w.Aa x.proc name).1 (Du w.Aa x.proc name).2.1 (by omega)) ?_;rw[<- hA];simp(disch:=omega)only[go_sem]
 all_goals
  refine Ab (Ib x.AB.entries name) (gO ?_);refine Ay 12 [([],[0]),([],[60]),([],[61]),([],[62]),([],[63]),([],[6]),([],[64,65]),([],[66]),([],[4]),([],[68]),([],[67,69]),([],[12])] B6 ?_;simp(disch:=omega)only[go_sem,gm,Ss]
  first|(refine Ab (E0 b2 x.proc r1) ?_)|(refine Ax (E0 b2 x.proc r1) ?_)
  cases hH:decide (Am b2.holds x.proc=An x.AB.entries name);rotate_left
  ·simp only[if_true];simp(disch:=omega)only[go_sem,hH,Bool.not_true];refine C8 ⟨[(0,0),(1,1)],[(63,63)],[]⟩ _ ?_ ?_
   ·exact gI
   ·exact gI
  simp only[Bool.false_eq_true,if_false];simp(disch:=omega)only[go_sem,hH,Bool.not_false];refine Ay 17 [([],[0]),([],[74]),([],[75]),([],[76]),([],[77]),([],[4]),([],[79]),([],[2]),([],[12]),([],[81,82]),([],[78,80,83]),([10],[84]),([10],[73]),([10],[73]),([10],[73]),([10],[85]),([10],[86])] B6 (gO ?_)
  first|(refine Ab (Lm w1.Aa x.proc ⟨name,An x.AB.entries name⟩ h2) ?_)|(refine Ax (Lm w1.Aa x.proc ⟨name,An x.AB.entries name⟩ h2) ?_)
  refine gO ?_;refine call2 ⟨⟨[(0,0),(1,1)],[(63,63)],[]⟩,[],[]⟩ (Nb w1 (BH w1.Aa x.proc ⟨name,An x.AB.entries name⟩).1 (BH w1.Aa x.proc ⟨name,An x.AB.entries name⟩).2.1 (by omega)) (gO ?_);refine C8 ⟨[(0,0),(1,1)],[(63,63)],[]⟩ _ ?_ ?_
  ·exact gI
  ·exact gI
end Go.Rd
