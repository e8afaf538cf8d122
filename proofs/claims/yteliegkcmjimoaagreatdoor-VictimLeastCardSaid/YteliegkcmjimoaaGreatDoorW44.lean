/- part 44 of the proof -/
import Derived.Test.YteliegkcmjimoaaGreatDoorW43
set_option linter.all false
open Go Go.Abs Go.Proofs
set_option maxRecDepth 100000
namespace Go.Rd
set_option maxHeartbeats 8000000
open Tryz
def oR{n m k:Nat}(h:n<=m)(hk:(m+1) ^ m<=k):(n+1) ^ n<=k :=
 Nat.le_trans (Nat.le_trans (Nat.pow_le_pow_left (by omega) n) (Nat.pow_le_pow_right (by omega) h)) hk
def VX(s:WS)(l:List C1):(CE s l).1.1.length<=1000000:=by
 unfold CE;split
 ·rename_i hv;have hb:=U3 (P:=Az s l) λi hi=>(HV hv i hi).1
  have h2:=((EC s l).1 hv).2.1;split
  ·simp
  ·split
   ·rename_i S hS;rw[hS]at hb;have h1:=MF hb.1.1;have h3:(Az s l).n=l.length:=rfl;show S.length<=1000000;omega
   ·simp
 ·simp
def M0(s:WS)(l:List C1)(h:Iy s)(hl:l.length<=8):Ad C0 22 [.agg s.c,Cw l] [] (.BC [.agg (U5 (CE s l).1),I (CE s l).2]) [] :=
 gY s l h (by omega) l.length (λ_ T hT=>MF hT) (oR hl (by decide))
def f5_ok(s:WS)(opts:List C1)(l:List Int):Ad C0 5 [.agg s.c,Cw opts,Ju l] [] (B true) []:=by
 refine Ad.go f5 ?_;unfold f5;refine gO ?_;refine Ab (lr l) ?_;cases h1:decide ((l.length:Int)<=300)
 ·simp(disch:=omega)only[go_sem,Bool.not_false];refine Ab GD ?_;refine gO ?_;exact AQ _
 have hl3:l.length<=300:=by simp at h1;omega
 by_cases h2:5<(opts.length:Int)
 ·simp(disch:=omega)only[go_sem,Bool.not_true,List.length_map,eq_true h2,decide_true];refine Ab GD ?_;refine gO ?_;exact AQ _
 simp(disch:=omega)only[go_sem,Bool.not_true,List.length_map,eq_false h2,decide_false];refine Ab (Aak s) ?_;cases h4:Hv s
 ·simp(disch:=omega)only[go_sem,Bool.not_false];refine Ab GD ?_;refine gO ?_;exact AQ _
 have hf:=nC h4;have yS:=MG l;simp(disch:=omega)only[go_sem,Bool.not_true];have e5:=aK l (by omega) 8 (by omega);have hwl:((AS (Cb l)).take 8).length<=8:=by simp;omega
 generalize (AS (Cb l)).take 8=list at e5 hwl;generalize DU l=w at e5 yS;refine Ab e5 ?_;cases h5:decide ((Bl w).length<=4)
 ·simp(disch:=omega)only[go_sem,Bool.not_false];refine Ab GD ?_;refine gO ?_;exact AQ _
 have e1:=M0 s opts hf (by omega);have e2:=qP s opts hf (by omega);have e3:=M0 w list yS hwl;have e4:=qP w list yS (by omega);have b1:=VX s opts;have b2:=VX w list;generalize CE s opts=x at e1 e2 b1;generalize CE w list=y at e3 e4 b2;obtain⟨⟨x1,x2⟩,x3⟩:=x;obtain⟨⟨y1,y2⟩,y3⟩:=y;simp(disch:=omega)only[go_sem,Bool.not_true];refine Ab e1 ?_;refine gO ?_;refine Ab e2 ?_;refine gO ?_;refine Ab e3 ?_;refine gO ?_;refine Ab e4 ?_;refine gO ?_;refine Ab GD ?_;simp(disch:=omega)only[go_sem,beq_self_eq_true,decide_true];refine Ab (qQ x1 x1 b1 b1) ?_;simp(disch:=omega)only[go_sem,beq_self_eq_true,decide_true];refine Ab (qQ y1 y1 b2 b2) ?_;simp(disch:=omega)only[go_sem,beq_self_eq_true,decide_true];exact AQ _
end Go.Rd
