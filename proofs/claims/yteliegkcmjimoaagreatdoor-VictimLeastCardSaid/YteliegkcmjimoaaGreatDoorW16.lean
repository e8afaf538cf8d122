/- part 16 of the proof -/
import Derived.Test.YteliegkcmjimoaaGreatDoorW15
set_option linter.all false
open Go Go.Abs Go.Proofs
set_option maxRecDepth 100000
namespace Go.Rd
set_option maxHeartbeats 8000000
open Tryz
def kL(s:WS)(p:Ac)(name:Bs)(h:Iy s):Ad C0 214 [.agg s.c,.agg p.c,.v (.string (str name))] [] (B (JW s.Aa p name)) []:=by
 have hn:=h.nq;refine Ad.go f214 ?_;unfold f214;refine gO ?_;refine Ab (ky s.Aa name (by omega)) ?_;cases hf:s.Aa.findIdx? (λq=>q.res.name==name) with
 |none =>
  have e:JW s.Aa p name=false:=by
   unfold JW;have:s.Aa.find? (λq=>q.res.name==name)=none:=by
    rw[List.findIdx?_eq_none_iff]at hf;rw[List.find?_eq_none];intro x hx;simpa using hf x hx
   rw[this]
  simp(disch:=omega)only[go_sem,e];exact AQ _
 |some i =>
  obtain⟨k1,k2,k3⟩:=List.findIdx?_eq_some_iff_getElem.1 hf;have hb:s.Aa[i]?=some s.Aa[i]:=gE k1;have hm:=List.getElem_mem k1;have ef:s.Aa.find? (λq=>q.res.name==name)=some s.Aa[i]:=by
   rw[List.find?_eq_some_iff_getElem];exact⟨k2,i,k1,rfl,λj hj=>by simpa using k3 j hj⟩
  generalize s.Aa[i]=b at hb hm ef k2;have ha:=Bt (h.aq b hm);have e:JW s.Aa p name=(Ar b p).isSome:=by unfold JW;rw[ef]
  have d0:((i:Int)<0)=False:=eq_false (by omega);simp(disch:=omega)only[go_sem,d0,decide_false];rw[e];refine Wc (let o0:OT:=.done;let o1:OT:=.pick [(12,o0)];let o2:OT:=.pick [(11,o1)];let o3:OT:=.pick [(10,o2)];let o4:OT:=.pick [(9,o1)];let o5:OT:=.pick [(9,o2),(11,o4)];let o6:OT:=.pick [(9,o3),(10,o5)];let o7:OT:=.pick [(8,o2)];let o8:OT:=.pick [(8,o3),(10,o7)];let o9:OT:=.pick [(8,o5),(9,o7)];let gu:OT:=.pick [(8,o6),(9,o8),(10,o9)];let oL:OT:=.pick [(7,o9)];let xM:OT:=.pick [(7,gu),(10,oL)];let sN:OT:=.pick [(6,oL)];let Y3:OT:=.pick [(6,xM),(10,sN)];let zo:OT:=.pick [(5,sN)];let Za:OT:=.pick [(5,Y3),(10,zo)];let uJ:OT:=.pick [(4,sN)];let Zu:OT:=.pick [(4,Y3),(10,uJ)];let zq:OT:=.pick [(4,zo),(5,uJ)];let oB:OT:=.pick [(4,Za),(5,Zu),(10,zq)];let zr:OT:=.pick [(3,uJ)];let zt:OT:=.pick [(3,Zu),(10,zr)];let zu:OT:=.pick [(3,zq),(5,zr)];let Zy:OT:=.pick [(3,oB),(5,zt),(10,zu)];let ZH:OT:=.pick [(2,zr)];let ab:OT:=.pick [(2,zt),(10,ZH)];let oH:OT:=.pick [(2,zu),(5,ZH)];let o28:OT:=.pick [(2,Zy),(5,ab),(10,oH)];let oN:OT:=.pick [(1,zr)];let o30:OT:=.pick [(1,zt),(10,oN)];let o31:OT:=.pick [(1,zu),(5,oN)];let o32:OT:=.pick [(1,Zy),(5,o30),(10,o31)];let o33:OT:=.pick [(1,ZH),(2,oN)];let o34:OT:=.pick [(1,ab),(2,o30),(10,o33)];let o35:OT:=.pick [(1,oH),(2,o31),(5,o33)];let o36:OT:=.pick [(1,o28),(2,o32),(5,o34),(10,o35)];let o37:OT:=.pick [(0,oN)];let o38:OT:=.pick [(0,o30),(10,o37)];let o39:OT:=.pick [(0,o31),(5,o37)];let o40:OT:=.pick [(0,o32),(5,o38),(10,o39)];let o41:OT:=.pick [(0,o33),(2,o37)];let o42:OT:=.pick [(0,o34),(2,o38),(10,o41)];let o43:OT:=.pick [(0,o35),(2,o39),(5,o41)];let o44:OT:=.pick [(0,o36),(2,o40),(5,o42),(10,o43)];o44) B6 (by kernel_rfl) ?_;simp(disch:=omega)only[go_sem,gm,hb]
  repeat'(first|(with_reducible refine And.intro ?_ ?_)|(refine Ab (Nc b p ha.2.1 ha.2.2) ?_;(try simp(disch:=omega)only[go_sem])))
  all_goals(refine CT _ ?_)
  all_goals simp(disch:=omega)only[go_sem]
end Go.Rd
