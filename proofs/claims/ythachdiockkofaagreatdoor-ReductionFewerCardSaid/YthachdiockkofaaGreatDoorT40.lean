/- part 40 of the proof -/
import Derived.Test.YthachdiockkofaaGreatDoorT18
import Derived.Test.YthachdiockkofaaGreatDoorT35
set_option linter.all false
open Go Go.Abs Go.Proofs
set_option maxRecDepth 100000
namespace Go.Rd
set_option maxHeartbeats 8000000
open Tryz
theorem f7_ok(l by_:List Int)(who other:Int):Ac C0 7 [Hz l,Hz by_,I who,I other] [] (B true) []:=by
 refine Ac.go f7 ?_
 unfold f7
 refine gO ?_
 refine Aa (f15_ok l) ?_
 cases h1:decide ((l.length:Int)≤300)
 ·simp(disch:=omega)only[go_sem,Bool.not_false]
  refine Aa f16_ok ?_
  refine gO ?_
  exact Av _
 have hl3:l.length≤300:=by simp at h1;omega
 simp(disch:=omega)only[go_sem,Bool.not_true,List.length_map]
 by_cases h2:(by_.length:Int) > 40
 ·simp(disch:=omega)only[go_sem,eq_true h2,decide_true]
  refine Aa f16_ok ?_
  refine gO ?_
  exact Av _
 have hb4:by_.length≤40:=by omega
 simp(disch:=omega)only[go_sem,eq_false h2,decide_false]
 refine Aa (f18_ok l (by omega)) ?_
 refine gO ?_
 refine Aa (f17_ok (E9 l) by_ (FZ l) (by omega)) ?_
 have hf:Few (Ft (E9 l) by_):=Lo (FZ l) by_
 have hv:=O9 l by_
 generalize Ft (E9 l) by_=s at hf hv ⊢
 refine gO ?_
 refine Aa (f22_ok who) ?_
 refine gO ?_
 refine Aa (f22_ok other) ?_
 generalize BZ who=p
 generalize BZ other=q
 refine gO ?_
 refine Aa (f33_ok s p hf) ?_
 have hpl:=CW hf
 cases hp:AK (Ah s) p
 ·have hr:D6 s p=(wsE,10):=by simp[D6,hv,hp]
  rw[hr]
  refine gO ?_
  refine Aj 9 [([],[]),([0],[39]),([0],[13,40]),([0],[41,40]),([0],[40,42]),([0],[43]),([0],[9,44]),([0],[45,44]),([0],[10,44])] fol ?_
  simp(disch:=omega)only[go_sem]
  first|(refine Aa f16_ok ?_)|(refine Ai f16_ok ?_)
  simp(disch:=omega)only[go_sem]
  first|(refine Aa (f34_ok s hf) ?_)|(refine Ai (f34_ok s hf) ?_)
  simp(disch:=omega)only[go_sem]
  first|(refine Aa (f29_ok (Ah s) p (by omega)) ?_)|(refine Ai (f29_ok (Ah s) p (by omega)) ?_)
  simp(disch:=omega)only[go_sem,hp,Bool.not_false]
  exact Av _
 ·have hr:D6 s p=(A3 s p,0):=by simp[D6,hv,hp]
  rw[hr]
  have hd1:=VH hv p
  have hd2:=VI hv p q
  have hf2:=GJ hf p
  refine gO ?_
  refine Aa f16_ok ?_
  refine gO ?_
  refine Aa (f35_ok (A3 s p) p hf2) ?_
  simp(disch:=omega)only[go_sem,hd1,Bool.not_false]
  refine Aa (f35_ok (A3 s p) q hf2) ?_
  cases hq:HY (A3 s p) q
  ·simp(disch:=omega)only[go_sem,Bool.not_false]
   exact Av _
  ·rw[hq]at hd2
   have hd3:HY s q=true:=by simpa using hd2
   simp(disch:=omega)only[go_sem,Bool.not_true]
   refine Aa (f35_ok s q hf) ?_
   simp(disch:=omega)only[go_sem,hd3]
   exact Av _
end Go.Rd
