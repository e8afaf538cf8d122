/- part 23 of the proof -/
import Derived.Test.YthachdiockkofaaGreatDoorL22
set_option linter.all false
open Go Go.Abs Go.Proofs
set_option maxRecDepth 100000
namespace Go.Rd
set_option maxHeartbeats 8000000
open List (cons_append length_nil map_nil nil_append)
open Nat (le_trans)
open Tryz
def DN(t:List Queue)(p:Ab)(a:Atom)(prio:Int):List Queue × List Ev × Int:=if !GJ t then ([],[],2) else match BS t a.name with
 |none=>([],[],10)
 |some i=>if decide ((Ay t).length=8)&&!B2 (Ay t) p then ([],[],4) else if (A3 (t.getD i q0) p a.amt prio).2.2 !=0 then ([],[],(A3 (t.getD i q0) p a.amt prio).2.2) else (t.set i (A3 (t.getD i q0) p a.amt prio).1,CH a.name (A3 (t.getD i q0) p a.amt prio).2.1,0)
def Co(t:List Queue)(p:Ab)(name:Bs):List Queue × List Ev × Int:=if !GJ t then ([],[],2) else match BS t name with
 |none=>([],[],10)
 |some i=>if (Bn (t.getD i q0) p).2.2 !=0 then ([],[],(Bn (t.getD i q0) p).2.2) else (t.set i (Bn (t.getD i q0) p).1,CH name (Bn (t.getD i q0) p).2.1,0)
def A8(t:List Queue)(p:Ab)(a:Atom):List Queue × List Ev × Int:=if !GJ t then ([],[],2) else match BS t a.name with
 |none=>([],[],10)
 |some i=>if (A7 (t.getD i q0) p a.amt).2.2 !=0 then ([],[],(A7 (t.getD i q0) p a.amt).2.2) else (t.set i (A7 (t.getD i q0) p a.amt).1,(if decide (At (t.getD i q0).holds p=a.amt) then [] else [⟨3,p,a.name,a.amt⟩])++CH a.name (A7 (t.getD i q0) p a.amt).2.1,0)
def UK:∀ (n:Nat) (q:Queue),(TG n q).2.length≤n
 | 0,q=>by simp[TG]
 | n+1,q=>by
  unfold TG;cases Bk q with
  |none=>simp
  |some w =>
   simp only;split
   ·have:=UK n (CK q w);simp;omega
   ·simp
def M8(q:Queue):(BT q).2.length≤BK q:=UK _ q
def Pg(q:Queue)(p:Ab):(Bn q p).2.1.length≤BG q:=by
 have h1:=M8 (DZ q p);have h2:=BL q.waits p;have h3:=BL q.Ao p;simp only[BK,DZ]at h1;unfold Bn BG BK
 repeat' split
 all_goals first|(simp only[length_nil];omega)|(simp only[DZ];omega)
def Rb(q:Queue)(p:Ab)(a:Amt):(A7 q p a).2.1.length≤BG q:=by
 have h1:=M8 (ID q p a);simp only[BK,ID]at h1;unfold A7 BG BK
 repeat' split
 all_goals first|(simp only[length_nil];omega)|(simp only[ID];omega)
def Qz(q:Queue)(p:Ab)(a:Amt)(prio:Int):(A3 q p a prio).2.1.length≤BG q+1:=by
 have h1:=M8 (FY q p a);have h2:=M8 (Ga q p a prio);simp only[BK,FY,Ga,Rv,List.length_append,List.length_singleton]at h1 h2;unfold A3 BG BK
 repeat' split
 all_goals first|(simp only[length_nil];omega)|(simp only[FY,Ga];omega)
def Wf(q:Queue)(p:Ab):(FC q p).2.1.length≤BG q:=by
 have h1:=M8 (Bw q p);have h2:=BL q.waits p;have h3:=BL q.Ao p;simp only[BK,Bw]at h1;unfold FC BG BK
 repeat' split
 all_goals first|(simp only[length_nil];omega)|(simp only[Bw];omega)
def f258_ok(t:List Queue)(p:Ab)(name:Bs)(h:D5 t):Ad C0 258 [AB t,.agg p.c,.v (.string (str name))] [] (.tup [AB (Co t p name).1,Vi (Co t p name).2.1,I (Co t p name).2.2]) []:=by
 have hn:=h.n;refine Ad.go f258 ?_;unfold f258;refine gO ?_;refine Ae (f115_ok t h) ?_;cases ht:GJ t
 ·have e:Co t p name=([],[],2):=by simp[Co,ht]
  simp(disch:=omega)only[go_sem,zF,e,map_nil];exact FQ _
 simp(disch:=omega)only[go_sem,zT];refine Ae (JC t name (by omega)) ?_;cases hf:BS t name with
 |none =>
  have e:Co t p name=([],[],10):=by simp[Co,ht,hf]
  simp(disch:=omega)only[go_sem,e,map_nil,atI];exact FQ _
 |some i =>
 obtain⟨hi,b,hb,_⟩:=C5 hf;have hg:t.getD i q0=b:=by simp[List.getD,hb]
 have e:Co t p name=if (Bn b p).2.2 !=0 then ([],[],(Bn b p).2.2) else (t.set i (Bn b p).1,CH name (Bn b p).2.1,0):=by simp only[Co,ht,hf,hg];rfl
 rw[e];have hq:=f292_ok b p (h.q b (mG hb));have hgl:(Bn b p).2.1.length≤1000000:=le_trans (Pg b p) (le_trans (h.q b (mG hb)) (by omega));generalize Bn b p=R at hq hgl;obtain⟨q',g,x⟩:=R;simp only at hq hgl;simp(disch:=omega)only[go_sem,atI,eq_false (show ¬ ((i:Int)<0) by omega),decide_false];refine Dg 16383 [(0,1,0),(1,2,0),(2,4,3),(3,8,4),(4,16,0),(5,32,24),(6,64,32),(7,128,64),(8,256,64),(9,512,64),(10,1024,0),(11,2048,1279),(12,4096,3583),(13,8192,8191)] [0,1,2,16,1024,3,17,1025,18,1026,1040,7,19,1027,1041,1042,15,23,1031,1043,31,1039,1047,63,1055,127,1087,255,383,639,1151,511,767,1279,895,1407,1663,1023,1535,1791,3327,1919,2047,3583,3839,4095,7679,8191,16383] (fun m=>⟨sel m [(1,22,AB t),(2,23,I i),(4,24,.ep .no i b.c 0),(8,25,.agg b.c),(16,26,.agg p.c),(32,27,.tup [.agg q'.c,AL g,I x]),(64,21,.tup [.agg q'.c,AL g,I x]),(128,28,.agg q'.c),(256,29,AL g),(512,30,I x),(1024,10,.ptr 640 0),(4096,11,AL g),(8192,12,I x)]++[(9,I i),(0,AB t),(4,.ptr 256 0),(2,.v (.string (str name)))],((if m / 1024%2=1 then [(640,(if m / 2048%2=1 then q'.c else q0.c))] else [])++[(256,p.c)])⟩) ?_ ?_ ?_ fol
 ·exact AT
 ·simp (maxSteps:=100000000)only[Df,De,DY,DX,and_true,Nat.reduceDiv,Nat.reduceMod,Nat.reduceAnd,Nat.reduceEqDiff,reduceIte,true_and,and_false,false_and,and_self]
  repeat'(with_reducible refine And.intro ?_ ?_)
  all_goals simp(disch:=omega)only[go_sem,gm,hb,nil_append,q0]
  all_goals first|exact Imp.Ar gI (by simp(disch:=omega)only[go_sem,nil_append,cons_append,q0])|(refine Ae hq ?_;simp(disch:=omega)only[go_sem];exact Imp.Ar gI (by simp(disch:=omega)only[go_sem,nil_append,cons_append,q0]))
 cases hx:(x !=0);rotate_left
 ·simp(disch:=omega)only[go_sem,hx,nil_append,cons_append,map_nil];exact FQ _
 simp(disch:=omega)only[go_sem,hx,nil_append,cons_append];refine Ae (f256_ok t i q' hn hi) ?_;refine gO ?_;refine Ae (f257_ok name g hgl) ?_;refine gO ?_;exact AQ _
def f183_ok(t:List Queue)(p:Ab)(a:Atom)(prio:Int)(h:D5 t):Ad C0 183 [AB t,.agg p.c,.agg a.c,I prio] [] (.tup [AB (DN t p a prio).1,Vi (DN t p a prio).2.1,I (DN t p a prio).2.2]) []:=by
 have hn:=h.n;refine Ad.go f183 ?_;unfold f183;refine gO ?_;refine Ae (f115_ok t h) ?_;cases ht:GJ t
 ·have e:DN t p a prio=([],[],2):=by simp[DN,ht]
  simp(disch:=omega)only[go_sem,zF,e,map_nil];exact FQ _
 simp(disch:=omega)only[go_sem,zT];refine Ae (JC t a.name (by omega)) ?_;cases hf:BS t a.name with
 |none =>
  have e:DN t p a prio=([],[],10):=by simp[DN,ht,hf]
  simp(disch:=omega)only[go_sem,e,map_nil,atI];exact FQ _
 |some i =>
 obtain⟨hi,b,hb,_⟩:=C5 hf;have hg:t.getD i q0=b:=by simp[List.getD,hb]
 have e:DN t p a prio=if decide ((Ay t).length=8)&&!B2 (Ay t) p then ([],[],4) else if (A3 b p a.amt prio).2.2 !=0 then ([],[],(A3 b p a.amt prio).2.2) else (t.set i (A3 b p a.amt prio).1,CH a.name (A3 b p a.amt prio).2.1,0):=by simp only[DN,ht,hf,hg];rfl
 rw[e];have hpl:(Ay t).length≤8:=by simp only[GJ,Bool.and_eq_true,zD]at ht;exact ht.2
 have hq:=f255_ok b p a.amt prio (h.q b (mG hb));have hgl:(A3 b p a.amt prio).2.1.length≤1000000:=le_trans (Qz b p a.amt prio) (le_trans (Nat.succ_le_succ (h.q b (mG hb))) (by omega));generalize A3 b p a.amt prio=R at hq hgl;obtain⟨q',g,x⟩:=R;simp only at hq hgl;simp(disch:=omega)only[go_sem,atI,eq_false (show ¬ ((i:Int)<0) by omega),decide_false];refine Bq ⟨⟨[],[],[]⟩,[(0,1664)],[]⟩ (f75_ok t h.n h.q) gI rfl trivial (.inl rfl) ?_;cases hfull:(decide ((Ay t).length=8)&&!B2 (Ay t) p);rotate_left
 ·simp only[Bool.and_eq_true,zD]at hfull;have e8:(((Ay t).length:Int)==8)=true:=by simp[hfull.1]
  simp(disch:=omega)only[go_sem,e8];refine Dd [1664] (f29_ok (Ay t) p (by omega)) gI rfl trivial ?_;simp(disch:=omega)only[go_sem,hfull.2,map_nil];exact FQ _
 have hcase:((Ay t).length=8∧B2 (Ay t) p=true)∨(Ay t).length≠8:=by
  by_cases h8:(Ay t).length=8
  ·exact .inl ⟨h8,by simpa [h8]using hfull⟩
  ·exact .inr h8
 rcases hcase with ⟨h8,hh⟩|h8
 all_goals first
  |(have e8:(((Ay t).length:Int)==8)=true:=by simp[h8]
    simp(disch:=omega)only[go_sem,e8];refine Dd [1664] (f29_ok (Ay t) p (by omega)) gI rfl trivial ?_;simp(disch:=omega)only[go_sem,hh,zT])
  |(have e8:(((Ay t).length:Int)==8)=false:=by simp;omega
    simp(disch:=omega)only[go_sem,e8])
 all_goals
  refine Dg 131071 [(0,1,0),(1,2,0),(2,4,3),(3,8,4),(4,16,0),(5,32,0),(6,64,32),(7,128,0),(8,256,216),(9,512,256),(10,1024,512),(11,2048,512),(12,4096,512),(13,8192,0),(14,16384,10239),(15,32768,28671),(16,65536,65535)] [0,1,2,16,32,128,8192,3,17,33,129,8193,18,34,130,8194,48,144,8208,96,160,8224,8320,7,19,35,131,8195,49,145,8209,97,161,8225,8321,50,146,8210,98,162,8226,8322,112,176,8240,8336,224,8288,8352,15,23,39,135,8199,51,147,8211,99,163,8227,8323,113,177,8241,8337,225,8289,8353,114,178,8242,8338,226,8290,8354,240,8304,8368,8416,31,47,143,8207,55,151,8215,103,167,8231,8327,115,179,8243,8339,227,8291,8355,241,8305,8369,8417,242,8306,8370,8418,8432,63,159,8223,111,175,8239,8335,119,183,8247,8343,231,8295,8359,243,8307,8371,8419,8433,8434,127,191,8255,8351,239,8303,8367,247,8311,8375,8423,8435,255,8319,8383,8431,8439,511,8447,1023,8703,2047,3071,5119,9215,4095,6143,10239,7167,11263,13311,8191,12287,14335,26623,15359,16383,28671,30719,32767,61439,65535,131071] (fun m=>⟨sel m [(1,37,AB t),(2,38,I i),(4,39,.ep .no i b.c 0),(8,40,.agg b.c),(16,41,.agg p.c),(32,42,.ptr 384 1),(64,43,.agg a.amt.c),(128,44,I prio),(256,45,.tup [.agg q'.c,AL g,I x]),(512,36,.tup [.agg q'.c,AL g,I x]),(1024,46,.agg q'.c),(2048,47,AL g),(4096,48,I x),(8192,13,.ptr 832 0),(32768,14,AL g),(65536,15,I x)]++[(11,I i),(0,AB t),(5,.ptr 320 0),(6,.ptr 384 0),(3,I prio)],((if m / 8192%2=1 then [(832,(if m / 16384%2=1 then q'.c else q0.c))] else [])++[(320,p.c),(384,a.c)])⟩) ?_ ?_ ?_ fol
  ·exact AT
  ·simp (maxSteps:=100000000)only[Df,De,DY,DX,and_true,Nat.reduceDiv,Nat.reduceMod,Nat.reduceAnd,Nat.reduceEqDiff,reduceIte,true_and,and_false,false_and,and_self]
   repeat'(with_reducible refine And.intro ?_ ?_)
   all_goals simp(disch:=omega)only[go_sem,gm,hb,nil_append,q0]
   all_goals first|exact Imp.Ar gI (by simp(disch:=omega)only[go_sem,nil_append,cons_append,q0])|(refine Ae hq ?_;simp(disch:=omega)only[go_sem];exact Imp.Ar gI (by simp(disch:=omega)only[go_sem,nil_append,cons_append,q0]))
  cases hx:(x !=0);rotate_left
  ·simp(disch:=omega)only[go_sem,hx,nil_append,cons_append,map_nil];exact FQ _
  simp(disch:=omega)only[go_sem,hx,nil_append,cons_append];refine Aw 7 [([],[0]),([],[11]),([],[13]),([],[52,53,54]),([],[6]),([],[56]),([],[14])] fol ?_;refine gO ?_
  first|(refine Ae (f256_ok t i q' hn hi) ?_)|(refine Av (f256_ok t i q' hn hi) ?_)
  refine gO ?_
  first|(refine Ae (f257_ok a.name g hgl) ?_)|(refine Av (f257_ok a.name g hgl) ?_)
  refine gO ?_;exact AQ _
end Go.Rd
