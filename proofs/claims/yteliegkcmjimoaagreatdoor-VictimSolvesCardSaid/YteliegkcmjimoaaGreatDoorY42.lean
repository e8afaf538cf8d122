/- part 42 of the proof -/
import Derived.Test.YteliegkcmjimoaaGreatDoorY41
set_option linter.all false
open Go Go.Abs Go.Proofs
set_option maxRecDepth 100000
namespace Go.Rd
set_option maxHeartbeats 8000000
open List (length_map)
open Tryz
def f4_ok(s:WS)(opts:List C1)(set:List Int)(l:List Int)(pick:Int):Ad C0 4 [.agg s.c,Cw opts,Ju set,Ju l,.v (.int .u16 pick)] [] (B true) []:=by
 refine Ad.go f4 ?_;unfold f4;refine gO ?_;refine Ab (lr l) ?_;cases h1:decide ((l.length:Int)<=300)
 ·simp(disch:=omega)only[go_sem,Bool.not_false];refine Ab Dm ?_;refine gO ?_;exact AQ _
 have hl3:l.length<=300:=by simp at h1;omega
 by_cases h2:6<(opts.length:Int)
 ·simp(disch:=omega)only[go_sem,Bool.not_true,length_map,eq_true h2,decide_true];refine Ab Dm ?_;refine gO ?_;exact AQ _
 by_cases h3:20<(set.length:Int)
 ·simp(disch:=omega)only[go_sem,Bool.not_true,length_map,eq_false h2,decide_false,eq_true h3,decide_true];refine Ab Dm ?_;refine gO ?_;exact AQ _
 simp(disch:=omega)only[go_sem,Bool.not_true,length_map,eq_false h2,decide_false,eq_false h3];refine Ab (Aak s) ?_;cases h4:Hv s
 ·simp(disch:=omega)only[go_sem,Bool.not_false];refine Ab Dm ?_;refine gO ?_;exact AQ _
 have hf:=nC h4;have yS:=MG l;simp(disch:=omega)only[go_sem,Bool.not_true];have e5:=aK l (by omega) 8 (by omega);have hwl:((AS (Cb l)).take 8).length<=8:=by simp;omega
 generalize (AS (Cb l)).take 8=list at e5 hwl;generalize DU l=w at e5 yS;refine Ab e5 ?_;cases h5:decide ((Bl w).length<=4)
 ·simp(disch:=omega)only[go_sem,Bool.not_false];refine Ab Dm ?_;refine gO ?_;exact AQ _
 simp(disch:=omega)only[go_sem,Bool.not_true];refine Ao (α:=Nat × List Int) (λx=>⟨[(1,Cw opts),(2,Ju set),(4,.v (.int .u16 pick)),(5,.ptr 320 0),(11,.ptr 704 0),(12,Cw list),(14,.sl (.own 3584 0) 1 (x.2.map λx=>[I x])),(15,I x.1)],[(320,s.c),(704,w.c)]⟩) (λx=>x.1<=8/\x.2.length<=x.1) (λx=>8-x.1) (0,[]) ⟨by simp,by simp⟩ AK ?_;rintro⟨i,M⟩ ⟨i1,i2⟩ J hJ;simp only at i1 i2
 by_cases hi:i<8
 ·have e1:((i:Int)<8)=True:=eq_true (by omega);have e2:((i:Int)<0)=False:=eq_false (by omega);simp(disch:=omega)only[go_sem,e1,decide_true,e2,length_map];refine⟨λh=>?_,λh=>?_⟩
  ·refine hJ _ (i+1,M++[(i:Int)]) ⟨by simp only;omega,by simp;omega⟩ (by simp only;omega) (AT.Aq ?_ gI);refine gO ?_;exact .sl (by simp)
  ·refine hJ _ (i+1,M) ⟨by simp only;omega,by simp only;omega⟩ (by simp only;omega) AK
 have e1:((i:Int)<8)=False:=eq_false (by omega);simp(disch:=omega)only[go_sem,e1,decide_false];refine Ep (st':=⟨[(1,Cw opts),(2,Ju set),(5,.ptr 320 0),(11,.ptr 704 0),(12,Cw list),(14,Ju M)],[(320,s.c),(704,w.c)]⟩) (AT.CX ⟨[],[(320,320),(704,704)],[3584]⟩ ⟨rfl,rfl⟩ (by simp) gI gI) ?_;refine Ay 49 [([],[]),([0],[57]),([0],[5,58]),([0],[1,58]),([0],[59,60,58]),([0],[5,58]),([0],[1,58]),([0,4],[62,63,58]),([0,4,7],[61,64,58]),([0,4,7],[58,65]),([0,4,7],[66]),([0,4,7],[5,67]),([0,4,7],[1,67]),([0,4,7],[2,67]),([0,4,7],[68,69,70,67]),([0,4,7],[5,67]),([0,4,7],[1,67]),([0,4,7],[2,67]),([0,4,7,14],[72,73,74,67]),([0,4,7,14,18],[71,75,67]),([0,4,7,14,18],[67,76]),([0,4,7,14,18],[77]),([0,4,7,14,18],[11,78]),([0,4,7,14,18],[12,78]),([0,4,7,14,18],[79,80,78]),([0,4,7,14,18],[11,78]),([0,4,7,14,18],[12,78]),([0,4,7,14,18,24],[82,83,78]),([0,4,7,14,18,24,27],[81,84,78]),([0,4,7,14,18,24,27],[78,85]),([0,4,7,14,18,24,27],[86]),([0,4,7,14,18,24,27],[11,87]),([0,4,7,14,18,24,27],[12,87]),([0,4,7,14,18,24,27],[14,87]),([0,4,7,14,18,24,27],[88,89,90,87]),([0,4,7,14,18,24,27],[11,87]),([0,4,7,14,18,24,27],[12,87]),([0,4,7,14,18,24,27],[14,87]),([0,4,7,14,18,24,27,34],[92,93,94,87]),([0,4,7,14,18,24,27,34,38],[91,95,87]),([0,4,7,14,18,24,27,34,38],[87,96]),([0,4,7,14,18,24,27,34,38],[97]),([0,4,7,14,18,24,27,34,38],[11,98]),([0,4,7,14,18,24,27,34,38],[12,98]),([0,4,7,14,18,24,27,34,38],[2,98]),([0,4,7,14,18,24,27,34,38],[99,100,101,98]),([0,4,7,14,18,24,27,34,38],[11,98]),([0,4,7,14,18,24,27,34,38],[12,98]),([0,4,7,14,18,24,27,34,38],[2,98])] B6 ?_;have hM:M.length<=1000000:=by omega
 refine gO ?_
 first|(refine Ab Dm ?_)|(refine Ax Dm ?_)
 simp(disch:=omega)only[go_sem,beq_self_eq_true,decide_true]
 first|(refine Ab (gX s opts hf (by omega)) ?_)|(refine Ax (gX s opts hf (by omega)) ?_)
 simp(disch:=omega)only[go_sem,beq_self_eq_true,decide_true]
 first|(refine Ab (Aam s opts hf (by omega)) ?_)|(refine Ax (Aam s opts hf (by omega)) ?_)
 simp(disch:=omega)only[go_sem,beq_self_eq_true,decide_true]
 first|(refine Ab (Qy s opts set hf (by omega) (by omega)) ?_)|(refine Ax (Qy s opts set hf (by omega) (by omega)) ?_)
 simp(disch:=omega)only[go_sem,beq_self_eq_true,decide_true]
 first|(refine Ab (CE s opts set hf (by omega) (by omega)) ?_)|(refine Ax (CE s opts set hf (by omega) (by omega)) ?_)
 simp(disch:=omega)only[go_sem,beq_self_eq_true,decide_true]
 first|(refine Ab (gX w list yS (by omega)) ?_)|(refine Ax (gX w list yS (by omega)) ?_)
 simp(disch:=omega)only[go_sem,beq_self_eq_true,decide_true]
 first|(refine Ab (Aam w list yS (by omega)) ?_)|(refine Ax (Aam w list yS (by omega)) ?_)
 simp(disch:=omega)only[go_sem,beq_self_eq_true,decide_true]
 first|(refine Ab (Qy w list M yS (by omega) (by omega)) ?_)|(refine Ax (Qy w list M yS (by omega) (by omega)) ?_)
 simp(disch:=omega)only[go_sem,beq_self_eq_true,decide_true]
 first|(refine Ab (CE w list M yS (by omega) (by omega)) ?_)|(refine Ax (CE w list M yS (by omega) (by omega)) ?_)
 simp(disch:=omega)only[go_sem,beq_self_eq_true,decide_true]
 first|(refine Ab (Qy w list set yS (by omega) (by omega)) ?_)|(refine Ax (Qy w list set yS (by omega) (by omega)) ?_)
 simp(disch:=omega)only[go_sem,beq_self_eq_true,decide_true]
 first|(refine Ab (CE w list set yS (by omega) (by omega)) ?_)|(refine Ax (CE w list set yS (by omega) (by omega)) ?_)
 simp(disch:=omega)only[go_sem,beq_self_eq_true,decide_true];exact AQ _
end Go.Rd
