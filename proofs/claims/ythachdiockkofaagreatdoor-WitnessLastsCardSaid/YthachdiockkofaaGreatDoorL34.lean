/- part 34 of the proof -/
import Derived.Test.YthachdiockkofaaGreatDoorL33
set_option linter.all false
open Go Go.Abs Go.Proofs
set_option maxRecDepth 100000
namespace Go.Rd
set_option maxHeartbeats 8000000
def bL{s:WS}{f:Ab}(hf:f∉Ap s):Ci s f=s:=by
 have hn:∀ q∈s.Aa,f∉Bp q:=fun q hq hm=>hf ((FA s f).2 (.inl ⟨q,hq,hm⟩))
 have e1:(s.Aa.map fun q=>B1 q f)=s.Aa:=by
  conv=>rhs;rw[← List.map_id s.Aa]
  refine List.map_congr_left fun q hq=>?_
  have:B2 (Bp q) f=false:=by simpa [B2]using hn q hq
  simp[B1,this]
 have e2:O2 s.AE f=s.AE:=by
  unfold O2;rw[List.filter_eq_self];intro n hm;exact decide_eq_true fun e=>hf ((FA s f).2 (.inr ⟨n,hm,e⟩))
 unfold Ci;rw[e1,e2]
def bO{s:WS}(hg:C3 s){l:List Ab}{f:Ab}(hf:B2 l f=false):Dn (Ci s f) l=Dn s l:=by
 by_cases hm:f∈Ap s
 ·exact Yv hg hf hm
 ·rw[bL hm]
def UC{s:WS}:∀ (n:Nat) (x:WS) (k:Nat),KZ s x k→(Ap x).length≤n→∃ y k',KZ s y k'∧Cb y=[]
 | 0,x,k,h,hn=>⟨x,k,h,by unfold Cb;rw[NQ hn];rfl⟩
 | n+1,x,k,h,hn=>by
  cases hf:Cb x with
  | nil=>exact⟨x,k,h,hf⟩
  | cons f l =>
   have hm:f∈Cb x:=by rw[hf];simp
   have:=FM (Da h.val) (DS.1 hm).1;exact UC n _ _ (h.step hm) (by omega)
end Go.Rd
