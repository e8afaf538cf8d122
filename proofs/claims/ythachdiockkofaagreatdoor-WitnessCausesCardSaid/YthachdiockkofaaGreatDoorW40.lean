/- part 40 of the proof -/
import Derived.Test.YthachdiockkofaaGreatDoorW39
set_option linter.all false
open Go Go.Abs Go.Proofs
set_option maxRecDepth 100000
namespace Go.Rd
set_option maxHeartbeats 8000000
open List (mem_cons)
theorem Tz{s:WS}:∀ (n:Nat) (x:WS) (k:Nat),Kc s x k→(Ah x).length≤n→∃ y k',Kc s y k'∧BT y=[]
 | 0,x,k,h,hn=>⟨x,k,h,by unfold BT;rw[Nj hn];rfl⟩
 | n+1,x,k,h,hn=>by
  cases hf:BT x with
  | nil=>exact⟨x,k,h,hf⟩
  | cons f l =>
   have hm:f∈BT x:=by rw[hf];simp
   have:=EG (Bh h.val) (DK.1 hm).1;exact Tz n _ _ (h.step hm) (by omega)
end Go.Rd
