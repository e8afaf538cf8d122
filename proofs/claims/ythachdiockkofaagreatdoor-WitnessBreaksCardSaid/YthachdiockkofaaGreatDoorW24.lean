/- part 24 of the proof -/
import Derived.Test.YthachdiockkofaaGreatDoorW23
set_option linter.all false
open Go Go.Abs Go.Proofs
set_option maxRecDepth 100000
namespace Go.Rd
set_option maxHeartbeats 8000000
open List (cons_append nil_append)
open Tryz
theorem Vr{q:Queue}{p:Ae}:(As q p).isSome=(A6 q p).isSome:=by
 have h1:(As q p).isSome=(q.An++q.waits).any fun w=>decide (w.proc=p):=by
  unfold As;rw[Option.isSome_map];refine Bool.eq_iff_iff.2 ?_;rw[List.find?_isSome,List.any_eq_true]
 have h2:(A6 q p).isSome=((CP q).findIdx? (fun x=>decide (x=p))).isSome:=by
  unfold A6;split<;>rename_i h<;>simp[h]
 rw[h1,h2,List.findIdx?_isSome,CP,Bt,List.any_map];rfl
theorem f82_ok(s:WS)(l:List Ae)(h:Few s)(hl:l.length≤1000000):Ad C0 82 [.agg s.c,Ax l] [] (.tup [.agg (ofS s l).1.c,I (ofS s l).2]) []:=by
 have hf:=FY h l;refine Ad.go f82 ?_;unfold f82;refine gO ?_;refine Ac (f64_ok s l h hl) ?_;unfold ofS;generalize AP s l=r at hf
 by_cases h0:r.2=0
 rotate_left
 ·have e:(r.2 !=0)=true:=by simp[h0]
  simp(disch:=omega)only[go_sem,e,if_neg h0,wE,wsE];refine Ap _ ?_;refine .tup (Aj.AM ?_);simp(disch:=omega)only[go_sem]
  repeat'(with_reducible apply And.intro)
  all_goals(first|exact .Az (by omega)|exact .agg (Aj.AM gI))
 have e:(r.2 !=0)=false:=by simp[h0]
 rw[if_pos h0];obtain⟨x,re⟩:=r;have hf:Few x:=hf;have hpl:=Dy hf;have hq:=hf.nq;simp(disch:=omega)only[go_sem,e];refine Ac (f34_ok x hf) ?_
 by_cases h1:(Ah x).length=0
 ·have e1:(((Ah x).length:Int)==0)=true:=by simp[h1]
  simp(disch:=omega)only[go_sem,e1,if_pos (show (Ah x).length=0∨0<(D5 x).length from .inl h1),wE,wsE];refine Ap _ ?_;refine .tup (Aj.AM ?_);simp(disch:=omega)only[go_sem]
  repeat'(with_reducible apply And.intro)
  all_goals(first|exact .Az (by omega)|exact .agg (Aj.AM gI))
 have e1:(((Ah x).length:Int)==0)=false:=by simp[h1]
 simp(disch:=omega)only[go_sem,e1];refine Ac (f57_ok x hf) ?_
 by_cases h2:0<(D5 x).length
 ·have e2:decide (0<((D5 x).length:Int))=true:=decide_eq_true (by omega);simp(disch:=omega)only[go_sem,e2,if_pos (show (Ah x).length=0∨0<(D5 x).length from .inr h2),wE,wsE];refine Ap _ ?_;refine .tup (Aj.AM ?_);simp(disch:=omega)only[go_sem]
  repeat'(with_reducible apply And.intro)
  all_goals(first|exact .Az (by omega)|exact .agg (Aj.AM gI))
 have e2:decide (0<((D5 x).length:Int))=false:=decide_eq_false (by omega);rw[if_neg (show ¬((Ah x).length=0∨0<(D5 x).length) by omega)];simp(disch:=omega)only[go_sem,e2];generalize Ah x=ms at hpl h1;refine Ab (α:=Nat) (fun i=>⟨[(10,I i),(8,Ax ms),(4,.ptr 256 0),(6,.ptr 384 0),(9,.ptr 576 0)],[(256,wE.c),(384,x.c),(576,[Ay x.Aa,DU x.Ao,Ax ms,.sl (.own 5056 0) 6 ((A2 x.Aa (ms.take i)).map Cause.c)])]⟩) (fun i=>i≤(ms).length∧True) (fun i=>(ms).length-i) 0 ⟨by omega,trivial⟩ ?_ ?_
 ·refine Imp.Am ?_ ?_
  all_goals(try simp(disch:=omega)only[go_sem])
  all_goals(try(repeat'(with_reducible apply And.intro)))
  all_goals(first|exact .AG (by omega)|exact .Az (by omega)|exact .sl (by simp[wE,wsE,A2])|exact .int (by simp[wE,wsE,A2])|exact .eq (by simp[wE,wsE,A2]))
 rintro i ⟨hi,hP⟩ J hJ;refine gO ?_;refine ⟨fun hlt=>?_,fun hge=>?_⟩;rotate_left;have hil:i=(ms).length:=by simp at hge;omega
 rotate_left;obtain⟨b,hb⟩:∃ b,(ms)[i]?=some b:=⟨_,gE (by simp at hlt;omega)⟩;have hbm:=mG hb;have hlt2:i<(ms).length:=by simp at hlt;omega
 ·obtain⟨o,rfl⟩:∃ o,o=i:=⟨i,rfl⟩;have hJo:=hJ;have hbo:=hb;have hlo:o<ms.length:=hlt2;clear hJ hb hlt hlt2;obtain⟨p,rfl⟩:∃ p,p=b:=⟨b,rfl⟩;have n1:=GO x.Aa (ms.take o);have n2:(ms.take o).length≤20000:=by simp;omega
  have n3:(ms.take o).length*x.Aa.length≤20000*100:=Nat.mul_le_mul n2 hq;refine Ab (α:=Nat) (fun i=>⟨[(11,I i),(10,I o),(8,Ax ms),(4,.ptr 256 0),(6,.ptr 384 0),(9,.ptr 576 0)],[(256,wE.c),(384,x.c),(576,[Ay x.Aa,DU x.Ao,Ax ms,.sl (.own 5056 0) 6 ((A2 x.Aa (ms.take o)++Cs p (x.Aa.take i)).map Cause.c)])]⟩) (fun i=>i≤(x.Aa).length∧True) (fun i=>(x.Aa).length-i) 0 ⟨by omega,trivial⟩ ?_ ?_
  ·refine Imp.Am ?_ ?_
   all_goals(try simp(disch:=omega)only[go_sem])
   all_goals(try(repeat'(with_reducible apply And.intro)))
   all_goals(first|exact .AG (by omega)|exact .Az (by omega)|exact .sl (by simp[Cs])|exact .int (by simp[Cs])|exact .eq (by simp[Cs]))
  rintro i ⟨hi,hP⟩ J hJ;refine gO ?_;refine ⟨fun hlt=>?_,fun hge=>?_⟩;rotate_left;have hil:i=(x.Aa).length:=by simp at hge;omega
  rotate_left;obtain⟨b,hb⟩:∃ b,(x.Aa)[i]?=some b:=⟨_,gE (by simp at hlt;omega)⟩;have hbm:=mG hb;have hlt2:i<(x.Aa).length:=by simp at hlt;omega
  ·obtain⟨q1,q2⟩:=Kh (hf.aq b hbm);obtain⟨q3,q4,q5⟩:=Bb (hf.aq b hbm);have n4:=Km p (x.Aa.take i);have n5:(x.Aa.take i).length≤100:=by simp;omega
   have hbd:(A2 x.Aa (ms.take o)).length+(Cs p (x.Aa.take i)).length+1≤4294967296:=by omega
   have nx:=MJ (p:=p) hb;have ws:=Vr (q:=b) (p:=p);generalize hL:(A2 x.Aa (ms.take o)++Cs p (x.Aa.take i)).map Cause.c=L;have hLl:L.length+1≤4294967296:=by rw[← hL];simp;omega
   refine CA 65535 [(0,1,0),(1,2,1),(2,4,0),(3,8,6),(4,16,8),(5,32,0),(6,64,0),(7,128,96),(8,256,128),(9,512,272),(10,1024,512),(11,2048,1024),(12,4096,1024),(13,8192,0),(14,16384,12287),(15,32768,32767)] [0,1,4,32,64,8192,3,5,33,65,8193,36,68,8196,96,8224,8256,7,35,67,8195,37,69,8197,97,8225,8257,100,8228,8260,224,8288,15,39,71,8199,99,8227,8259,101,8229,8261,225,8289,228,8292,480,8416,31,47,79,8207,103,8231,8263,227,8291,229,8293,481,8417,484,8420,8672,63,95,8223,111,8239,8271,231,8295,483,8419,485,8421,8673,8676,127,8255,8287,239,8303,487,8423,8675,8677,255,8319,495,8431,8679,511,8447,8687,1023,8703,2047,9215,4095,6143,10239,8191,12287,14335,16383,28671,32767,65535] (fun m=>⟨sel m [(1,53,.ptr 384 0),(2,54,Ay x.Aa),(4,55,I i),(8,56,.ep .no i b.c 0),(16,57,.agg b.c),(32,58,Ax ms),(64,59,I o),(128,60,.ep .no o p.c 0),(256,61,.agg p.c),(512,62,.tup [.agg ((As b p).getD ⟨0,0⟩).c,B (As b p).isSome]),(1024,52,.tup [.agg ((As b p).getD ⟨0,0⟩).c,B (As b p).isSome]),(2048,63,.agg ((As b p).getD ⟨0,0⟩).c),(4096,64,B (As b p).isSome),(8192,12,.ptr 768 0),(32768,13,B (As b p).isSome)]++[(11,I i),(10,I o),(8,Ax ms),(4,.ptr 256 0),(6,.ptr 384 0),(9,.ptr 576 0)],((if m / 8192%2=1 then [(768,(if m / 16384%2=1 then ((As b p).getD ⟨0,0⟩).c else (⟨0,0⟩:Amt).c))] else [])++[(256,wE.c),(384,x.c),(576,[Ay x.Aa,DU x.Ao,Ax ms,.sl (.own 5056 0) 6 L])])⟩) ?_ ?_ ?_ fol
   ·exact Imp.Am gI (by simp(disch:=omega)only[go_sem,nil_append])
   ·simp (maxSteps:=100000000)only[Cz,Cy,Dj,Di,and_true,Nat.reduceDiv,Nat.reduceMod,Nat.reduceAnd,Nat.reduceEqDiff,reduceIte,true_and,and_false,false_and,and_self]
    repeat'(with_reducible refine And.intro ?_ ?_)
    all_goals simp(disch:=omega)only[go_sem,gm,hb,hbo,nil_append]
    all_goals(first|exact Imp.Am gI (by simp(disch:=omega)only[go_sem,nil_append,cons_append])|(refine Ac (f98_ok b p q4 q5) ?_;simp(disch:=omega)only[go_sem];exact Imp.Am gI (by simp(disch:=omega)only[go_sem,nil_append,cons_append])))
   ·cases hc:A6 b p with
    |none =>
     rw[hc]at nx ws;have ws0:(As b p).isSome=false:=ws;simp(disch:=omega)only[go_sem,ws0,cons_append,nil_append];refine hJ _ (i+1) ⟨by omega,trivial⟩ (by omega) (Imp.Am gI ?_);refine gO ?_;exact .sl (by rw[← hL,nx];simp)
    |some c =>
     rw[hc]at nx ws;have ws1:(As b p).isSome=true:=ws;simp(disch:=omega)only[go_sem,ws1,cons_append,nil_append];refine Aq 13 [([],[9]),([],[66]),([],[6]),([],[68]),([],[11]),([],[69,70]),([],[71]),([],[8]),([],[10]),([],[73,74]),([],[75]),([],[72,76]),([11],[77])] fol ?_;simp(disch:=omega)only[go_sem,gm,hb,hbo]
     first|(refine Ac (f138_ok b p (hf.aq b hbm) (by rw[hc];rfl)) ?_)|(refine Ar (f138_ok b p (hf.aq b hbm) (by rw[hc];rfl)) ?_)
     simp(disch:=omega)only[go_sem,hc,Option.getD_some,gm,hb,hbo];refine hJ _ (i+1) ⟨by omega,trivial⟩ (by omega) (Imp.Am gI ?_);refine gO ?_;exact .sl (by rw[← hL,nx];simp[Cause.c])
  ·subst hil;refine hJo _ (o+1) ⟨by omega,trivial⟩ (by omega) (Imp.Am gI ?_);refine gO ?_;exact .sl (by rw[MK hbo])
 ·subst hil
  try simp(disch:=omega)only[go_sem,List.take_length]
  refine Cf ⟨[],[],[5056]⟩ _ ?_;simp(disch:=omega)only[go_sem]
theorem f42_ok(s:WS)(h:Few s)(hl:(Bp s).2.length≤1000000):Ad C0 42 [.agg s.c] [] (.tup [.agg (Dl s).1.c,I (Dl s).2]) []:=by
 refine Ad.go f42 ?_;unfold f42;refine gO ?_;refine Ac (f20_ok s h) ?_;refine gO ?_;refine Ac (f82_ok s (Bp s).2 h hl) ?_;unfold Dl;refine gO ?_;exact AE _
end Go.Rd
