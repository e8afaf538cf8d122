/- part 38 of the proof -/
import Derived.Test.YteliegkcmjimoaaGreatDoorV37
set_option linter.all false
open Go Go.Abs Go.Proofs
set_option maxRecDepth 100000
namespace Go.Rd
set_option maxHeartbeats 8000000
open List (length_map)
open Tryz
def WN(s:WS)(h:Iq s)(l:List Ad):(EN s l).1.length<=1000000:=by
 unfold EN;split
 ·rename_i hv;have h1:=(R7 (Am s).length s l (Dq hv) (Nat.le_refl _)).2.2.1;have h2:=Dg _ _ (LG _) h1;have h3:=Da h;show (DH s l).length<=1000000;unfold DH;omega
 ·simp
def f3_ok(s:WS)(procs:List Ad)(l wW:List Int):Ac C0 3 [.agg s.c,AA procs,JN l,JN wW] [] (B true) []:=by
 refine Ac.go f3 ?_;unfold f3;refine gO ?_;refine Ab (xk l) ?_;cases h1:decide ((l.length:Int)<=300)
 ·simp(disch:=omega)only[go_sem,Bool.not_false];refine Ab Zh ?_;refine gO ?_;exact AM _
 have hl3:l.length<=300:=by simp at h1;omega
 by_cases h2:20<(wW.length:Int)
 ·simp(disch:=omega)only[go_sem,Bool.not_true,length_map,eq_true h2,decide_true];refine Ab Zh ?_;refine gO ?_;exact AM _
 by_cases h3:20<(procs.length:Int)
 ·simp(disch:=omega)only[go_sem,Bool.not_true,length_map,eq_false h2,decide_false,eq_true h3,decide_true];refine Ab Zh ?_;refine gO ?_;exact AM _
 simp(disch:=omega)only[go_sem,Bool.not_true,length_map,eq_false h2,decide_false,eq_false h3];refine Ab (sQ s) ?_;cases h4:Gv s
 ·simp(disch:=omega)only[go_sem,Bool.not_false];refine Ab Zh ?_;refine gO ?_;exact AM _
 have hf:=gd h4;have eJ:=iB l;simp(disch:=omega)only[go_sem,Bool.not_true];refine Ab (sR l (by omega)) ?_;refine gO ?_;have e5:=sS wW (by omega);have XR:(wW.map KS).length<=20:=by simp;omega
 generalize wW.map KS=m at e5 XR;refine Ab e5 ?_;refine gO ?_;have e1:=Xr s procs hf (by omega);have e2:=jM s procs hf (by omega);have e3:=Xr (OW l) m eJ (by omega);have e4:=jM (OW l) m eJ (by omega);have b1:=WN s hf procs;have b2:=WN (OW l) eJ m;generalize EN s procs=x at e1 e2 b1;generalize EN (OW l) m=y at e3 e4 b2;refine Ab e1 ?_;refine gO ?_;refine Ab e2 ?_;refine gO ?_;refine Ab e3 ?_;refine gO ?_;refine Ab e4 ?_;refine gO ?_;refine Ab Zh ?_;simp(disch:=omega)only[go_sem,beq_self_eq_true];refine Ab (jN x.1 x.1 b1 b1) ?_;simp(disch:=omega)only[go_sem,beq_self_eq_true,decide_true];refine Ab (jN y.1 y.1 b2 b2) ?_;simp(disch:=omega)only[go_sem,decide_true];exact AM _
end Go.Rd
