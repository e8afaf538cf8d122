/- part 42 of the proof -/
import Derived.Test.YteliegkcmjimoaaGreatDoorX40
import Derived.Test.YteliegkcmjimoaaGreatDoorX41
set_option linter.all false
open Go Go.Abs Go.Proofs
set_option maxRecDepth 100000
namespace Go.Rd
set_option maxHeartbeats 8000000
def Ri{s:WS}{l:List C1}(hv:CD s l=true)(hd:Bl s≠[]):(∃ S,CE s l=((S,Bj (Az s l).cost S),0)/\JN (Az s l) (some S))\/(CE s l=(([],0),10)/\JN (Az s l) none):=by
 have hb:=U3 (P:=Az s l) λi hi=>(HV hv i hi).1
 cases h:best (Az s l) with
 |none=>rw[h]at hb;exact .inr ⟨TU hv hd hb,hb⟩
 |some S=>rw[h]at hb;exact .inl ⟨S,TV hv hd hb,hb⟩
theorem bB(M:List Nat):Ju (M.map fun(i:Nat)=>(i:Int))=E3 M:=by
 unfold Ju E3;rw[List.map_map];rfl
end Go.Rd
