/- part 36 of the proof -/
import Derived.Test.YthachdiockkofaaGreatDoorL35
set_option linter.all false
open Go Go.Abs Go.Proofs
set_option maxRecDepth 100000
namespace Go.Rd
set_option maxHeartbeats 8000000
def YQ{s:WS}(hv:Bj s=true){l:List Ab}(hp:Ap (Dn s l)=l):(Bv (Dn s l).Aa l).length≤64:=by
 have hvr:=RM hv l;obtain⟨h1,_,h3⟩:=(EP _).1 hvr;have h4:=((FN _).1 h1).1;rw[hp]at h3;have:=IX (Dn s l).Aa l;have h5:l.length*(Dn s l).Aa.length≤8*8:=Nat.mul_le_mul h3 h4;omega
def WZ{s:WS}(hv:Bj s=true)(hf:Few s)(hd:BP s=[]):EF s=(wE,14):=by
 obtain⟨h1,h2⟩:=QH hv hf;unfold EF;rw[Kz hv];show ofS s (BP s)=_;rw[hd]at h1 ⊢;unfold ofS;have hr:A4 s []=(Dn s [],0):=by simp[A4,hv]
 rw[hr];simp only[if_true,h1,List.length_nil,true_or,if_true]
def W0{s:WS}(hv:Bj s=true)(hf:Few s)(hd:BP s≠[]):∃ w,EF s=(w,0)∧w.members=BP s∧D6 w=0∧IW w s=true∧w.A2=Bv w.state.Aa w.members∧w.A2.length≤64∧w.state=Dn s (BP s):=by
 obtain⟨h1,h2⟩:=QH hv hf;obtain⟨w,a,b,c,d,e,f⟩:=du hv h1 hd h2;refine⟨w,?_,b,c,d,by rw[e,b];exact f,by rw[f];exact YQ hv h1,e⟩;unfold EF;rw[Kz hv];exact a
end Go.Rd
