/- part 27 of the proof -/
import Derived.Test.YthachdiockkofaaGreatDoorW26
set_option linter.all false
open Go Go.Abs Go.Proofs
set_option maxRecDepth 100000
namespace Go.Rd
set_option maxHeartbeats 8000000
open List (cons_append length_nil map_nil nil_append)
open Nat (le_trans)
open Tryz
def D6(t:List Queue)(p:Ae)(a:Atom)(prio:Int):List Queue × List Ev × Int:=if !Gb t then ([],[],2) else match Cg t a.name with
 |none=>([],[],10)
 |some i=>if decide ((AN t).length=8)&&!Be (AN t) p then ([],[],4) else if (BD (t.getD i q0) p a.amt prio).2.2 !=0 then ([],[],(BD (t.getD i q0) p a.amt prio).2.2) else (t.set i (BD (t.getD i q0) p a.amt prio).1,Cu a.name (BD (t.getD i q0) p a.amt prio).2.1,0)
def CM(t:List Queue)(p:Ae)(name:Bs):List Queue × List Ev × Int:=if !Gb t then ([],[],2) else match Cg t name with
 |none=>([],[],10)
 |some i=>if (BR (t.getD i q0) p).2.2 !=0 then ([],[],(BR (t.getD i q0) p).2.2) else (t.set i (BR (t.getD i q0) p).1,Cu name (BR (t.getD i q0) p).2.1,0)
def Bi(t:List Queue)(p:Ae)(a:Atom):List Queue × List Ev × Int:=if !Gb t then ([],[],2) else match Cg t a.name with
 |none=>([],[],10)
 |some i=>if (BO (t.getD i q0) p a.amt).2.2 !=0 then ([],[],(BO (t.getD i q0) p a.amt).2.2) else (t.set i (BO (t.getD i q0) p a.amt).1,(if decide (AB (t.getD i q0).holds p=a.amt) then [] else [⟨3,p,a.name,a.amt⟩])++Cu a.name (BO (t.getD i q0) p a.amt).2.1,0)
theorem TH:∀ (n:Nat) (q:Queue),(SJ n q).2.length≤n
 | 0,q=>by simp[SJ]
 | n+1,q=>by
  unfold SJ;cases Bj q with
  |none=>simp
  |some w =>
   simp only;split
   ·have:=TH n (CI q w);simp;omega
   ·simp
theorem Mz(q:Queue):(B1 q).2.length≤BQ q:=TH _ q
theorem OI(q:Queue)(p:Ae):(BR q p).2.1.length≤BC q:=by
 have h1:=Mz (ER q p);have h2:=BN q.waits p;have h3:=BN q.An p;simp only[BQ,ER]at h1;unfold BR BC BQ
 repeat' split
 all_goals first|(simp only[length_nil];omega)|(simp only[ER];omega)
theorem Qz(q:Queue)(p:Ae)(a:Amt):(BO q p a).2.1.length≤BC q:=by
 have h1:=Mz (JO q p a);simp only[BQ,JO]at h1;unfold BO BC BQ
 repeat' split
 all_goals first|(simp only[length_nil];omega)|(simp only[JO];omega)
theorem PW(q:Queue)(p:Ae)(a:Amt)(prio:Int):(BD q p a prio).2.1.length≤BC q+1:=by
 have h1:=Mz (Hi q p a);have h2:=Mz (Iq q p a prio);simp only[BQ,Hi,Iq,QP,List.length_append,List.length_singleton]at h1 h2;unfold BD BC BQ
 repeat' split
 all_goals first|(simp only[length_nil];omega)|(simp only[Hi,Iq];omega)
theorem U7(q:Queue)(p:Ae):(E9 q p).2.1.length≤BC q:=by
 have h1:=Mz (B3 q p);have h2:=BN q.waits p;have h3:=BN q.An p;simp only[BQ,B3]at h1;unfold E9 BC BQ
 repeat' split
 all_goals first|(simp only[length_nil];omega)|(simp only[B3];omega)
theorem f258_ok(t:List Queue)(p:Ae)(name:Bs)(h:DZ t):Ad C0 258 [Ay t,.agg p.c,.v (.string (str name))] [] (.tup [Ay (CM t p name).1,Ug (CM t p name).2.1,I (CM t p name).2.2]) []:=by
 have hn:=h.n;refine Ad.go f258 ?_;unfold f258;refine gO ?_;refine Ac (f115_ok t h) ?_;cases ht:Gb t
 ·have e:CM t p name=([],[],2):=by simp[CM,ht]
  simp(disch:=omega)only[go_sem,Bool.not_false,e,map_nil];exact EL _
 simp(disch:=omega)only[go_sem,Bool.not_true];refine Ac (I2 t name (by omega)) ?_;cases hf:Cg t name with
 |none =>
  have e:CM t p name=([],[],10):=by simp[CM,ht,hf]
  simp(disch:=omega)only[go_sem,e,map_nil,atI];exact EL _
 |some i =>
 obtain⟨hi,b,hb,_⟩:=Dk hf;have hg:t.getD i q0=b:=by simp[List.getD,hb]
 have e:CM t p name=if (BR b p).2.2 !=0 then ([],[],(BR b p).2.2) else (t.set i (BR b p).1,Cu name (BR b p).2.1,0):=by simp only[CM,ht,hf,hg];rfl
 rw[e];have hq:=f292_ok b p (h.q b (mG hb));have hgl:(BR b p).2.1.length≤1000000:=le_trans (OI b p) (le_trans (h.q b (mG hb)) (by omega));generalize BR b p=R at hq hgl;obtain⟨q',g,x⟩:=R;simp only at hq hgl;simp(disch:=omega)only[go_sem,atI,eq_false (show ¬ ((i:Int)<0) by omega),decide_false];refine CA 16383 [(0,1,0),(1,2,0),(2,4,3),(3,8,4),(4,16,0),(5,32,24),(6,64,32),(7,128,64),(8,256,64),(9,512,64),(10,1024,0),(11,2048,1279),(12,4096,3583),(13,8192,8191)] [0,1,2,16,1024,3,17,1025,18,1026,1040,7,19,1027,1041,1042,15,23,1031,1043,31,1039,1047,63,1055,127,1087,255,383,639,1151,511,767,1279,895,1407,1663,1023,1535,1791,3327,1919,2047,3583,3839,4095,7679,8191,16383] (fun m=>⟨sel m [(1,22,Ay t),(2,23,I i),(4,24,.ep .no i b.c 0),(8,25,.agg b.c),(16,26,.agg p.c),(32,27,.tup [.agg q'.c,AH g,I x]),(64,21,.tup [.agg q'.c,AH g,I x]),(128,28,.agg q'.c),(256,29,AH g),(512,30,I x),(1024,10,.ptr 640 0),(4096,11,AH g),(8192,12,I x)]++[(9,I i),(0,Ay t),(4,.ptr 256 0),(2,.v (.string (str name)))],((if m / 1024%2=1 then [(640,(if m / 2048%2=1 then q'.c else q0.c))] else [])++[(256,p.c)])⟩) ?_ ?_ ?_ fol
 ·exact AR
 ·simp (maxSteps:=100000000)only[Cz,Cy,Dj,Di,and_true,Nat.reduceDiv,Nat.reduceMod,Nat.reduceAnd,Nat.reduceEqDiff,reduceIte,true_and,and_false,false_and,and_self]
  repeat'(with_reducible refine And.intro ?_ ?_)
  all_goals simp(disch:=omega)only[go_sem,gm,hb,nil_append,q0]
  all_goals first|exact Imp.Am gI (by simp(disch:=omega)only[go_sem,nil_append,cons_append,q0])|(refine Ac hq ?_;simp(disch:=omega)only[go_sem];exact Imp.Am gI (by simp(disch:=omega)only[go_sem,nil_append,cons_append,q0]))
 cases hx:(x !=0);rotate_left
 ·simp(disch:=omega)only[go_sem,hx,nil_append,cons_append,map_nil];exact EL _
 simp(disch:=omega)only[go_sem,hx,nil_append,cons_append];refine Ac (f256_ok t i q' hn hi) ?_;refine gO ?_;refine Ac (f257_ok name g hgl) ?_;refine gO ?_;exact AE _
theorem f183_ok(t:List Queue)(p:Ae)(a:Atom)(prio:Int)(h:DZ t):Ad C0 183 [Ay t,.agg p.c,.agg a.c,I prio] [] (.tup [Ay (D6 t p a prio).1,Ug (D6 t p a prio).2.1,I (D6 t p a prio).2.2]) []:=by
 have hn:=h.n;refine Ad.go f183 ?_;unfold f183;refine gO ?_;refine Ac (f115_ok t h) ?_;cases ht:Gb t
 ·have e:D6 t p a prio=([],[],2):=by simp[D6,ht]
  simp(disch:=omega)only[go_sem,Bool.not_false,e,map_nil];exact EL _
 simp(disch:=omega)only[go_sem,Bool.not_true];refine Ac (I2 t a.name (by omega)) ?_;cases hf:Cg t a.name with
 |none =>
  have e:D6 t p a prio=([],[],10):=by simp[D6,ht,hf]
  simp(disch:=omega)only[go_sem,e,map_nil,atI];exact EL _
 |some i =>
 obtain⟨hi,b,hb,_⟩:=Dk hf;have hg:t.getD i q0=b:=by simp[List.getD,hb]
 have e:D6 t p a prio=if decide ((AN t).length=8)&&!Be (AN t) p then ([],[],4) else if (BD b p a.amt prio).2.2 !=0 then ([],[],(BD b p a.amt prio).2.2) else (t.set i (BD b p a.amt prio).1,Cu a.name (BD b p a.amt prio).2.1,0):=by simp only[D6,ht,hf,hg];rfl
 rw[e];have hpl:(AN t).length≤8:=by simp only[Gb,Bool.and_eq_true,decide_eq_true_eq]at ht;exact ht.2
 have hq:=f255_ok b p a.amt prio (h.q b (mG hb));have hgl:(BD b p a.amt prio).2.1.length≤1000000:=le_trans (PW b p a.amt prio) (le_trans (Nat.succ_le_succ (h.q b (mG hb))) (by omega));generalize BD b p a.amt prio=R at hq hgl;obtain⟨q',g,x⟩:=R;simp only at hq hgl;simp(disch:=omega)only[go_sem,atI,eq_false (show ¬ ((i:Int)<0) by omega),decide_false];refine Bn ⟨⟨[],[],[]⟩,[(0,1664)],[]⟩ (f75_ok t h.n h.q) gI rfl trivial (.inl rfl) ?_;cases hfull:(decide ((AN t).length=8)&&!Be (AN t) p);rotate_left
 ·simp only[Bool.and_eq_true,decide_eq_true_eq]at hfull;have e8:(((AN t).length:Int)==8)=true:=by simp[hfull.1]
  simp(disch:=omega)only[go_sem,e8];refine C2 [1664] (f29_ok (AN t) p (by omega)) gI rfl trivial ?_;simp(disch:=omega)only[go_sem,hfull.2,map_nil];exact EL _
 have hcase:((AN t).length=8∧Be (AN t) p=true)∨(AN t).length≠8:=by
  by_cases h8:(AN t).length=8
  ·exact .inl ⟨h8,by simpa [h8]using hfull⟩
  ·exact .inr h8
 rcases hcase with ⟨h8,hh⟩|h8
 all_goals first
  |(have e8:(((AN t).length:Int)==8)=true:=by simp[h8]
    simp(disch:=omega)only[go_sem,e8];refine C2 [1664] (f29_ok (AN t) p (by omega)) gI rfl trivial ?_;simp(disch:=omega)only[go_sem,hh,Bool.not_true])
  |(have e8:(((AN t).length:Int)==8)=false:=by simp;omega
    simp(disch:=omega)only[go_sem,e8])
 all_goals
  refine CA 131071 [(0,1,0),(1,2,0),(2,4,3),(3,8,4),(4,16,0),(5,32,0),(6,64,32),(7,128,0),(8,256,216),(9,512,256),(10,1024,512),(11,2048,512),(12,4096,512),(13,8192,0),(14,16384,10239),(15,32768,28671),(16,65536,65535)] [0,1,2,16,32,128,8192,3,17,33,129,8193,18,34,130,8194,48,144,8208,96,160,8224,8320,7,19,35,131,8195,49,145,8209,97,161,8225,8321,50,146,8210,98,162,8226,8322,112,176,8240,8336,224,8288,8352,15,23,39,135,8199,51,147,8211,99,163,8227,8323,113,177,8241,8337,225,8289,8353,114,178,8242,8338,226,8290,8354,240,8304,8368,8416,31,47,143,8207,55,151,8215,103,167,8231,8327,115,179,8243,8339,227,8291,8355,241,8305,8369,8417,242,8306,8370,8418,8432,63,159,8223,111,175,8239,8335,119,183,8247,8343,231,8295,8359,243,8307,8371,8419,8433,8434,127,191,8255,8351,239,8303,8367,247,8311,8375,8423,8435,255,8319,8383,8431,8439,511,8447,1023,8703,2047,3071,5119,9215,4095,6143,10239,7167,11263,13311,8191,12287,14335,26623,15359,16383,28671,30719,32767,61439,65535,131071] (fun m=>⟨sel m [(1,37,Ay t),(2,38,I i),(4,39,.ep .no i b.c 0),(8,40,.agg b.c),(16,41,.agg p.c),(32,42,.ptr 384 1),(64,43,.agg a.amt.c),(128,44,I prio),(256,45,.tup [.agg q'.c,AH g,I x]),(512,36,.tup [.agg q'.c,AH g,I x]),(1024,46,.agg q'.c),(2048,47,AH g),(4096,48,I x),(8192,13,.ptr 832 0),(32768,14,AH g),(65536,15,I x)]++[(11,I i),(0,Ay t),(5,.ptr 320 0),(6,.ptr 384 0),(3,I prio)],((if m / 8192%2=1 then [(832,(if m / 16384%2=1 then q'.c else q0.c))] else [])++[(320,p.c),(384,a.c)])⟩) ?_ ?_ ?_ fol
  ·exact AR
  ·simp (maxSteps:=100000000)only[Cz,Cy,Dj,Di,and_true,Nat.reduceDiv,Nat.reduceMod,Nat.reduceAnd,Nat.reduceEqDiff,reduceIte,true_and,and_false,false_and,and_self]
   repeat'(with_reducible refine And.intro ?_ ?_)
   all_goals simp(disch:=omega)only[go_sem,gm,hb,nil_append,q0]
   all_goals first|exact Imp.Am gI (by simp(disch:=omega)only[go_sem,nil_append,cons_append,q0])|(refine Ac hq ?_;simp(disch:=omega)only[go_sem];exact Imp.Am gI (by simp(disch:=omega)only[go_sem,nil_append,cons_append,q0]))
  cases hx:(x !=0);rotate_left
  ·simp(disch:=omega)only[go_sem,hx,nil_append,cons_append,map_nil];exact EL _
  simp(disch:=omega)only[go_sem,hx,nil_append,cons_append];refine Aq 7 [([],[0]),([],[11]),([],[13]),([],[52,53,54]),([],[6]),([],[56]),([],[14])] fol ?_;simp(disch:=omega)only[go_sem]
  first|(refine Ac (f256_ok t i q' hn hi) ?_)|(refine Ar (f256_ok t i q' hn hi) ?_)
  simp(disch:=omega)only[go_sem]
  first|(refine Ac (f257_ok a.name g hgl) ?_)|(refine Ar (f257_ok a.name g hgl) ?_)
  refine gO ?_;exact AE _
end Go.Rd
