/- part 37 of the proof -/
import Derived.Test.YthachdiockkofaaGreatDoorS36
set_option linter.all false
open Go Go.Abs Go.Proofs
set_option maxRecDepth 100000
namespace Go.Rd
set_option maxHeartbeats 8000000
theorem ZO{s:WS}{f:Proc}(hf:f∉Am s):BX s f=s:=by
 have hn:∀ q∈s.queues,f∉A6 q:=fun q hq hm=>hf ((E7 s f).2 (.inl ⟨q,hq,hm⟩))
 have e1:(s.queues.map fun q=>BG q f)=s.queues:=by
  conv=>rhs;rw[← List.map_id s.queues]
  refine List.map_congr_left fun q hq=>?_
  have:Br (A6 q) f=false:=by simpa [Br]using hn q hq
  simp[BG,this]
 have e2:Od s.needs f=s.needs:=by
  unfold Od;rw[List.filter_eq_self];intro n hm;exact decide_eq_true fun e=>hf ((E7 s f).2 (.inr ⟨n,hm,e⟩))
 unfold BX;rw[e1,e2]
theorem ZR{s:WS}(hg:Ch s){l:List Proc}{f:Proc}(hf:Br l f=false):Fa (BX s f) l=Fa s l:=by
 by_cases hm:f∈Am s
 ·exact Xa hg hf hm
 ·rw[ZO hm]
theorem Xe{s:WS}:∀ (n:Nat) (x:WS) (k:Nat),LI s x k→(Am x).length≤n→∃ y k',LI s y k'∧B3 y=[]
 | 0,x,k,h,hn=>⟨x,k,h,by unfold B3;rw[M8 hn];rfl⟩
 | n+1,x,k,h,hn=>by
  cases hf:B3 x with
  | nil=>exact⟨x,k,h,hf⟩
  | cons f l =>
   have hm:f∈B3 x:=by rw[hf];simp
   have:=Fm (CM h.val) (Dv.1 hm).1;exact Xe n _ _ (h.step hm) (by omega)
end Go.Rd
