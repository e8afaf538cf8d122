/- part 34 of the proof -/
import Derived.Test.YteliegkcmjimoaaGreatDoorV33
set_option linter.all false
open Go Go.Abs Go.Proofs
set_option maxRecDepth 100000
namespace Go.Rd
set_option maxHeartbeats 8000000
def PU(l ms:List Ad)(s:WS):WS:=ms.foldl (λx p=>if BL l p then x else BU x p) s
def Q0{l:List Ad}{f:Ad}(hf:BL l f=false):∀ (ms:List Ad) (s:WS),CL s->ms.Nodup->f∈ms->PU l ms s=PU l (ms.filter λx=>decide (x≠f)) (BU s f)
 |[],_,_,_,h=>by cases h
 | m::ms,s,hg,hn,hm=>by
  obtain⟨h1,h2⟩:=List.nodup_cons.1 hn
  by_cases e:m=f
  ·subst e;have e1:(m::ms).filter (λx=>decide (x≠m))=ms:=by
    rw[List.filter_cons,if_neg (by simp),List.filter_eq_self.2];intro x hx;exact decide_eq_true λe=>h1 (e▸hx)
   rw[e1];unfold PU;rw[List.foldl_cons,hf];rfl
  ·have iS:f∈ms:=(List.mem_cons.1 hm).resolve_left λe'=>e e'.symm
   have e1:(m::ms).filter (λx=>decide (x≠f))=m::ms.filter λx=>decide (x≠f):=by
    rw[List.filter_cons,if_pos (by simpa using e)]
   rw[e1];show PU l ms (if BL l m then s else BU s m)=PU l (ms.filter λx=>decide (x≠f)) (if BL l m then BU s f else BU (BU s f) m);split
   ·exact Q0 hf ms s hg h2 iS
   ·rw[Q0 hf ms (BU s m) (DC hg m) h2 iS,UC hg m f]
def qE{s:WS}(hg:CL s){l:List Ad}{f:Ad}(hf:BL l f=false)(hm:f∈Am s):GW (BU s f) l=GW s l:=by
 show PU l (Am (BU s f)) (BU s f)=PU l (Am s) s;rw[NH hg];exact(Q0 hf (Am s) s hg (IU (E7 _)) hm).symm
def l6{s:WS}{l:List Ad}(h:∀ p∈Am s,BL l p=true):GW s l=s:=by
 have:∀ (ms:List Ad) (s:WS),(∀ p∈ms,BL l p=true)->PU l ms s=s:=by
  intro ms
  induction ms with
  | nil=>intro s _;rfl
  | cons m ms ih =>
   intro s h;show PU l ms (if BL l m then s else BU s m)=s;rw[if_pos (h m (by simp))];exact ih s λp hp=>h p (by simp[hp])
 exact this _ s h
end Go.Rd
