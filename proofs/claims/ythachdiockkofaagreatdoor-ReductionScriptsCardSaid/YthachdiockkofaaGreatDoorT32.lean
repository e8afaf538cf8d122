/- part 32 of the proof -/
import Derived.Test.YthachdiockkofaaGreatDoorT18
import Derived.Test.YthachdiockkofaaGreatDoorT31
set_option linter.all false
open Go Go.Abs Go.Proofs
set_option maxRecDepth 100000
namespace Go.Rd
set_option maxHeartbeats 8000000
open Tryz
theorem ZW{s:WS}(h:Few s):(By s).1.length≤20000:=by
 unfold By
 split
 ·rename_i hv
  have key:∀ (n:Nat) (s:WS),(J5 n s).1.length≤n:=by
   intro n
   induction n with
   | zero=>intro s;simp[J5]
   | succ n ih =>
    intro s
    simp only[J5]
    split
    ·simp
    ·rename_i p l _
     have:=ih (A3 s p)
     simp only[List.length_cons]
     omega
  exact Nat.le_trans (key _ s) (CW h)
 ·simp
theorem f3_ok(l by_:List Int)(who:Int):Ac C0 3 [Hz l,Hz by_,I who] [] (B true) []:=by
 refine Ac.go f3 ?_
 unfold f3
 refine gO ?_
 refine Aa (f15_ok l) ?_
 cases h1:decide ((l.length:Int)≤300)
 ·simp(disch:=omega)only[go_sem,Bool.not_false]
  refine Aa f16_ok ?_
  refine gO ?_
  exact Av _
 have hl3:l.length≤300:=by simp at h1;omega
 simp(disch:=omega)only[go_sem,Bool.not_true,List.length_map]
 by_cases h2:(by_.length:Int) > 40
 ·simp(disch:=omega)only[go_sem,eq_true h2,decide_true]
  refine Aa f16_ok ?_
  refine gO ?_
  exact Av _
 have hb4:by_.length≤40:=by omega
 simp(disch:=omega)only[go_sem,eq_false h2,decide_false]
 refine Aa (f18_ok l (by omega)) ?_
 refine gO ?_
 refine Aa (f17_ok (E9 l) by_ (FZ l) (by omega)) ?_
 have hf:Few (Ft (E9 l) by_):=Lo (FZ l) by_
 generalize Ft (E9 l) by_=s at hf ⊢
 refine gO ?_
 refine Aa (f19_ok s hf) ?_
 refine gO ?_
 refine Aa (f20_ok s hf) ?_
 refine gO ?_
 refine Aj 8 [([],[7]),([],[2]),([],[41]),([2],[40,42]),([2,3],[43]),([2,3],[39]),([2,3],[39]),([2,3],[44])] fol ?_
 simp(disch:=omega)only[go_sem]
 first|(refine Aa (f22_ok who) ?_)|(refine Ai (f22_ok who) ?_)
 simp(disch:=omega)only[go_sem]
 first|(refine Aa (f21_ok s (BZ who) hf) ?_)|(refine Ai (f21_ok s (BZ who) hf) ?_)
 refine gO ?_
 refine Aj 8 [([],[7]),([],[2]),([],[48]),([2],[47,49]),([2,3],[50]),([2,3],[46]),([2,3],[46]),([2,3],[51])] fol ?_
 simp(disch:=omega)only[go_sem]
 first|(refine Aa (f22_ok who) ?_)|(refine Ai (f22_ok who) ?_)
 simp(disch:=omega)only[go_sem]
 first|(refine Aa (f23_ok s (BZ who) hf) ?_)|(refine Ai (f23_ok s (BZ who) hf) ?_)
 refine gO ?_
 refine Aa f16_ok ?_
 refine gO ?_
 have hr1:=ZW hf
 have hr2:=IE hf
 have hr3:=Sy hf (BZ who)
 refine Aa (f24_ok (By s).1 (By s).1 (by omega) (by omega)) ?_
 simp(disch:=omega)only[go_sem,decide_true]
 refine Aa (f24_ok (By s).2 (By s).2 (by omega) (by omega)) ?_
 simp(disch:=omega)only[go_sem,decide_true,beq_self_eq_true]
 refine Aa (f24_ok (DA s (BZ who)).1 (DA s (BZ who)).1 (by omega) (by omega)) ?_
 simp(disch:=omega)only[go_sem,decide_true]
 exact Av _
end Go.Rd
