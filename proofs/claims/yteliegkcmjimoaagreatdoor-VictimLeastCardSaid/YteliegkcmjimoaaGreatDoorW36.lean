/- part 36 of the proof -/
import Derived.Test.YteliegkcmjimoaaGreatDoorW35
set_option linter.all false
open Go Go.Abs Go.Proofs
set_option maxRecDepth 100000
namespace Go.Rd
set_option maxHeartbeats 8000000
def OM(l ms:List Ac)(s:WS):WS:=ms.foldl (λx p=>if Br l p then x else BW x p) s
theorem Td{l:List Ac}{f:Ac}(hf:Br l f=false):∀ (ms:List Ac) (s:WS),BO s->ms.Nodup->f∈ms->OM l ms s=OM l (ms.filter λx=>decide (x≠f)) (BW s f)
 |[],_,_,_,h=>by cases h
 | m::ms,s,hg,hn,hm=>by
  obtain⟨h1,h2⟩:=List.nodup_cons.1 hn
  by_cases e:m=f
  ·subst e;have e1:(m::ms).filter (λx=>decide (x≠m))=ms:=by
    rw[List.filter_cons,if_neg (by simp),List.filter_eq_self.2];grind
   rw[e1];unfold OM;rw[List.foldl_cons,hf];rfl
  ·have pH:f∈ms:=(List.mem_cons.1 hm).resolve_left λe'=>e e'.symm
   have e1:(m::ms).filter (λx=>decide (x≠f))=m::ms.filter λx=>decide (x≠f):=by grind
   rw[e1];show OM l ms (if Br l m then s else BW s m)=OM l (ms.filter λx=>decide (x≠f)) (if Br l m then BW s f else BW (BW s f) m);split
   ·exact Td hf ms s hg h2 pH
   ·rw[Td hf ms (BW s m) (Cv hg m) h2 pH,Sd hg m f]
theorem x8{s:WS}(hg:BO s){l:List Ac}{f:Ac}(hf:Br l f=false)(hm:f∈Ag s):Fw (BW s f) l=Fw s l:=by
 show OM l (Ag (BW s f)) (BW s f)=OM l (Ag s) s;grind[PS,Td,Ag,IL,Fk]
theorem fi{s:WS}{l:List Ac}(h:∀ p∈Ag s,Br l p=true):Fw s l=s:=by
 have:∀ (ms:List Ac) (s:WS),(∀ p∈ms,Br l p=true)->OM l ms s=s:=by
  intro ms
  induction ms<;>simp_all[OM]
 exact this _ s h
end Go.Rd
