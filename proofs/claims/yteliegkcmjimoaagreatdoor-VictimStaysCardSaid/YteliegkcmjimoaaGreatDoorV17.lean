/- part 17 of the proof -/
import Derived.Test.YteliegkcmjimoaaGreatDoorV16
set_option linter.all false
open Go Go.Abs Go.Proofs
set_option maxRecDepth 100000
namespace Go.Rd
set_option maxHeartbeats 8000000
open Tryz
def dJ(s:WS)(p:Ad)(name:Bs)(h:Iq s):Ac C0 214 [.agg s.c,.agg p.c,.v (.string (str name))] [] (B (Iy s.Aa p name)) []:=by
 have hn:=h.nq;refine Ac.go f214 ?_;unfold f214;refine gO ?_;refine Ab (dx s.Aa name (by omega)) ?_;cases hf:s.Aa.findIdx? (λq=>q.res.name==name) with
 |none =>
  have e:Iy s.Aa p name=false:=by
   unfold Iy;have:s.Aa.find? (λq=>q.res.name==name)=none:=by
    rw[List.findIdx?_eq_none_iff]at hf;rw[List.find?_eq_none];intro x hx;simpa using hf x hx
   rw[this]
  simp(disch:=omega)only[go_sem,e];exact AM _
 |some i =>
  obtain⟨k1,k2,k3⟩:=List.findIdx?_eq_some_iff_getElem.1 hf;have hb:s.Aa[i]?=some s.Aa[i]:=gE k1;have hm:=List.getElem_mem k1;have ef:s.Aa.find? (λq=>q.res.name==name)=some s.Aa[i]:=by
   rw[List.find?_eq_some_iff_getElem];exact⟨k2,i,k1,rfl,λj hj=>by simpa using k3 j hj⟩
  generalize s.Aa[i]=b at hb hm ef k2;have ha:=Bv (h.aq b hm);have e:Iy s.Aa p name=(Ar b p).isSome:=by unfold Iy;rw[ef]
  have d0:((i:Int)<0)=False:=eq_false (by omega);simp(disch:=omega)only[go_sem,d0,decide_false];rw[e];refine Tv (let o0:OT:=.done;let o1:OT:=.pick [(12,o0)];let o2:OT:=.pick [(11,o1)];let o3:OT:=.pick [(10,o2)];let o4:OT:=.pick [(9,o1)];let o5:OT:=.pick [(9,o2),(11,o4)];let o6:OT:=.pick [(9,o3),(10,o5)];let o7:OT:=.pick [(8,o2)];let o8:OT:=.pick [(8,o3),(10,o7)];let o9:OT:=.pick [(8,o5),(9,o7)];let bb:OT:=.pick [(8,o6),(9,o8),(10,o9)];let ia:OT:=.pick [(7,o9)];let qk:OT:=.pick [(7,bb),(10,ia)];let lL:OT:=.pick [(6,ia)];let uW:OT:=.pick [(6,qk),(10,lL)];let rW:OT:=.pick [(5,lL)];let uX:OT:=.pick [(5,uW),(10,rW)];let mU:OT:=.pick [(4,lL)];let uY:OT:=.pick [(4,uW),(10,mU)];let rX:OT:=.pick [(4,rW),(5,mU)];let wm:OT:=.pick [(4,uX),(5,uY),(10,rX)];let rY:OT:=.pick [(3,mU)];let rZ:OT:=.pick [(3,uY),(10,rY)];let r5:OT:=.pick [(3,rX),(5,rY)];let uZ:OT:=.pick [(3,wm),(5,rZ),(10,r5)];let u0:OT:=.pick [(2,rY)];let u4:OT:=.pick [(2,rZ),(10,u0)];let wo:OT:=.pick [(2,r5),(5,u0)];let o28:OT:=.pick [(2,uZ),(5,u4),(10,wo)];let wq:OT:=.pick [(1,rY)];let o30:OT:=.pick [(1,rZ),(10,wq)];let o31:OT:=.pick [(1,r5),(5,wq)];let o32:OT:=.pick [(1,uZ),(5,o30),(10,o31)];let o33:OT:=.pick [(1,u0),(2,wq)];let o34:OT:=.pick [(1,u4),(2,o30),(10,o33)];let o35:OT:=.pick [(1,wo),(2,o31),(5,o33)];let o36:OT:=.pick [(1,o28),(2,o32),(5,o34),(10,o35)];let o37:OT:=.pick [(0,wq)];let o38:OT:=.pick [(0,o30),(10,o37)];let o39:OT:=.pick [(0,o31),(5,o37)];let o40:OT:=.pick [(0,o32),(5,o38),(10,o39)];let o41:OT:=.pick [(0,o33),(2,o37)];let o42:OT:=.pick [(0,o34),(2,o38),(10,o41)];let o43:OT:=.pick [(0,o35),(2,o39),(5,o41)];let o44:OT:=.pick [(0,o36),(2,o40),(5,o42),(10,o43)];o44) B7 (by kernel_rfl) ?_;simp(disch:=omega)only[go_sem,gm,hb]
  repeat'(first|(with_reducible refine And.intro ?_ ?_)|(refine Ab (Mt b p ha.2.1 ha.2.2) ?_;(try simp(disch:=omega)only[go_sem])))
  all_goals(refine CD _ ?_)
  all_goals simp(disch:=omega)only[go_sem]
end Go.Rd
